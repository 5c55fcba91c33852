/- A part of the proof. -/
import Derived.Test.YtedcnhbblgmdnaaGreatT19
set_option maxHeartbeats 8000000
set_option maxRecDepth 10000
set_option linter.unusedSimpArgs false
set_option linter.unusedVariables false
namespace Go.Proofs.YtedcnhbblgmdnaaGreat.Ab
theorem sumI_zero {f:Nat→Int×Int→Int}:∀ {l:List (Int×Int)} {i:Nat},(∀(j:Nat) (b:Int×Int),l[j]? = some b→f (i+j) b=0)→sumI f i l=0
 |[],i,h=>rfl
 |b::r,i,h=>by
  have h1:f i b=0:=h 0 b rfl
  have h2:sumI f (i+1) r=0:=sumI_zero fun j c hj=>by
   have h3:=h (j+1) c (by simpa using hj)
   have e:i+1+j=i+(j+1):=kO
   rw[e];exact h3
  simp only[sumI,h1,h2];rfl
theorem o253:E0.opn 253=false:=by kernel_rfl
theorem x253:E0.xt 253=none:=by kernel_rfl
structure HCx (h:Hst) (q:Nat):Prop where
 q8:q≤8
 p:h.p=q
 bs:BsOK q h.bs
 n:h.bs.length≤500
 c:cnt h.bs≤1048576
 a:0≤h.mn
 b:h.mn≤h.mx
 d:h.mx≤1099511627776
theorem HCx.cnt_take {h:Hst}{q:Nat}(x:HCx h q)(i:Nat):0≤cnt (h.bs.take i)∧cnt (h.bs.take i)≤1048576:=by
 have:=cnt_le x.bs.cn i
 have:=x.c
 omega
theorem HCx.lo {h:Hst}{q:Nat}(x:HCx h q){b:I2}(hb:b∈h.bs):b.1.toNat≤(41-q)*2 ^ q∧(Go.Proofs.YtedcnhbblgmdnaaGreat.Ab.lo q b.1.toNat:Int)≤1099511627776∧(hi q b.1.toNat:Int)≤1099511627776∧1≤b.2∧0≤b.1:=by
 have h0:=x.bs.lo0 b hb
 have h1:b.1.toNat≤(41-q)*2 ^ q:=kO
 have h2:=lo_last x.q8 h1
 have h3:hi q b.1.toNat≤1099511627776:=Nat.min_le_right _ _
 have h4:=x.bs.cn b hb
 omega
theorem HCx.lowR {h:Hst}{q:Nat}(x:HCx h q){i:Nat}{b:I2}(hb:b∈h.bs):0≤lowR q h.mn i b∧lowR q h.mn i b≤1099511627776:=by
 have h1:=x.lo hb
 have:=x.a;have:=x.b;have:=x.d
 unfold Go.Proofs.YtedcnhbblgmdnaaGreat.Ab.lowR
 split<;>omega
theorem HCx.highR {h:Hst}{q:Nat}(x:HCx h q){i:Nat}{b:I2}(hb:b∈h.bs):0≤highR q h.mx h.bs.length i b∧highR q h.mx h.bs.length i b≤1099511627776:=by
 have h1:=x.lo hb
 have:=x.a;have:=x.b;have:=x.d
 unfold Go.Proofs.YtedcnhbblgmdnaaGreat.Ab.highR
 split<;>omega
theorem HCx.mulB {h:Hst}{q:Nat}(x:HCx h q){g:Nat→I2→Int}(hg:∀(i:Nat) (b:I2),b∈h.bs→0≤g i b∧g i b≤1099511627776)(i:Nat):0≤sumI (fun i b=>g i b*b.2) 0 (h.bs.take i)∧sumI (fun i b=>g i b*b.2) 0 (h.bs.take i)≤1099511627776*cnt (h.bs.take i):=by
 refine sumI_bound (m:=1099511627776) fun j c hc=>?_
 have hcm:=List.mem_of_mem_take (gw hc)
 have h1:=hg (0+j) c hcm
 have h2:=x.bs.cn c hcm
 exact⟨Int.mul_nonneg h1.1 kO,Int.mul_le_mul_of_nonneg_right h1.2 kO⟩
theorem pf222 (h:Hst)(q:Nat)(x:HCx h q):Pf E0 222 [.agg (h.pd.map .p)] (P' (pI (leastR q h.mn h.mx h.bs))):=by
 have hfl:(h.bs.flatMap p2).length=h.bs.length*2:=flat_len (k:=2) (fun _=>rfl) _
 have xa:=x.a
 have xb:=x.b
 have xd:=x.d
 have xn:=x.n
 have w0:IntKind.i64.wrap (h.mx-h.mn)=(h.mx-h.mn):=by rw[wi64];omega
 refine gQ (fn:=Tryz.f222) ?_;simp only[gL,Tryz.ntmps222,Nat.reduceSub,Nat.reduceAdd];apply gS (by simp only[go_sem,x.p];rfl);apply gS (by simp only[go_sem,w0];rfl);refine gO ?_;refine gZ ?_;refine Wc.block (Wc.loop (fun k y=>∃(i:Nat) (o:Int),k=h.bs.length-i∧i≤h.bs.length∧y.ds=[]∧y.e.length=58∧y.e.getD 1 .junk=.v (.c (.ref 0 0))∧y.e.getD 3 .junk=P' (pI o)∧y.e.getD 4 .junk=P' (pI i)∧y.s.get 0=some (.cells [.p (pI q),.p (pI h.c),.p (pI h.s),.p (pI h.mn),.p (pI h.mx),.p (.lst h.bs.length (h.bs.flatMap p2))] false)∧o=(h.mx-h.mn)+sumI (termL q h.mn h.bs.length) 0 (h.bs.take i)) ?_ (k:=h.bs.length) ?_)
 ·rintro k ⟨e,ds,s1⟩ ⟨i,o,rfl,hi,rfl,hlen,h1,h3,h4,g0,ho⟩;simp only at hlen h1 h3 h4 g0;refine gO ?_;apply gR (by simp only[go_sem,hlen,h1,h3,h4,g0];rfl);refine Wc.cond (t:=decide ((i:Int)<h.bs.length)) kL (fun hc=>?_) (fun hc=>?_)
  ·have hil : i < h.bs.length := by have : (i : Int) < h.bs.length := by simpa using hc
                                    omega
   obtain⟨b,hb⟩:=gE hil
   have hbm:=gw hb
   obtain⟨b1,b2,b3,b4,b5⟩:=x.lo hbm
   have hbi:b.1=((b.1.toNat:Nat):Int):=kO
   have hix:=ixA ti148 rfl ti205 (j:=i) (m:=h.bs.length) (cs:=h.bs.flatMap p2) hil hfl kD
   have hca:=rpA (off:=i*2) (drop_flat (f:=p2) (k:=2) (fun _=>rfl) hb) (by rw[hfl];omega)
   have hce:=rpA (off:=i*2+1) (cs:=h.bs.flatMap p2) (pre:=[pI b.2]) (rest:=(h.bs.drop (i+1)).flatMap p2) (by rw[← List.drop_drop,drop_flat (f:=p2) (k:=2) (fun _=>rfl) hb];rfl) (by rw[hfl];omega)
   have el1:IntKind.i64.wrap ((h.bs.length:Int)-1)=((h.bs.length-1:Nat):Int):=by rw[wi64];omega
   have c1:=x.cnt_take i
   have c2:=x.cnt_take (i+1)
   have c3:cnt (h.bs.take (i+1))=cnt (h.bs.take i)+b.2:=sumI_take hb
   have hR:=x.lowR (i:=i) hbm
   have sB:=x.mulB (g:=(lowR q h.mn)) (fun i b hb=>x.lowR hb) i
   have sT:sumI (termL q h.mn h.bs.length) 0 (h.bs.take (i+1))=sumI (termL q h.mn h.bs.length) 0 (h.bs.take i)+(termL q h.mn h.bs.length i b):=sumI_take hb
   have sD:∃ d,-1099511627776≤d∧d≤1099511627776∧sumI (termL q h.mn h.bs.length) 0 (h.bs.take i)=sumI (fun i b=>lowR q h.mn i b*b.2) 0 (h.bs.take i)+d:=by
    have e9:sumI (termL q h.mn h.bs.length) 0 (h.bs.take i)=sumI (fun i b=>lowR q h.mn i b*b.2) 0 (h.bs.take i)+sumI (fun i b=>if i+1=h.bs.length then h.mn-lowR q h.mn i b else 0) 0 (h.bs.take i):=sumI_add _ _ _ _
    rw [sumI_zero (f := fun i b => if i + 1 = h.bs.length then h.mn - lowR q h.mn i b else 0) fun j c hj => by
     have hj1:=(List.getElem?_eq_some_iff.1 hj).1
     simp only[List.length_take] at hj1
     rw[if_neg kO]] at e9
    exact⟨0,by decide,by decide,e9⟩
   obtain⟨d,d1,d2,sD⟩:=sD
   have tB:(termL q h.mn h.bs.length i b)=(lowR q h.mn i b)*b.2+(if i+1=h.bs.length then h.mn-(lowR q h.mn i b) else 0):=rfl
   have X0:0≤(lowR q h.mn i b)*b.2:=Int.mul_nonneg kO kO
   have X1:(lowR q h.mn i b)*b.2≤1099511627776*b.2:=Int.mul_le_mul_of_nonneg_right kO kO
   refine Wc.skip (Wc.seq (Wc.block (Wc.seq ?_)));refine Wc.regD fun K F=>?_;simp only[go_sem,hlen,h1,h3,h4,g0,hix,hca]
   refine⟨by simp[o253,x253,plainD,plainV,plainC],?_⟩
   rw[hbi]
   refine gP (pf253 q b.1.toNat x.q8 b1) ?_
   rw[← hbi]
   simp only[go_sem,hlen,h1,h3,h4,g0,hix,hca];apply F;clear F K;refine Wc.seqA (fun y=>y.ds=[]∧y.e.length=58∧y.e.getD 1 .junk=.v (.c (.ref 0 0))∧y.e.getD 3 .junk=P' (pI o)∧y.e.getD 4 .junk=P' (pI i)∧y.e.getD 5 .junk=P' (pI ((lowR q h.mn i b)))∧y.s.get 0=some (.cells [.p (pI q),.p (pI h.c),.p (pI h.s),.p (pI h.mn),.p (pI h.mx),.p (.lst h.bs.length (h.bs.flatMap p2))] false)) ?_ ?_
   ·apply gS (by simp only[go_sem,hlen,h1,h3,h4,g0,el1];rfl);refine Wc.cond (t:=((i:Int)==0)) kL (fun hc=>?_) (fun hc=>?_)
    ·have hc1:i=0:=by simp at hc;omega
     apply gR (by simp only[go_sem,hlen,h1,h3,h4,g0];rfl)
     exact⟨rfl,rfl,by simp only[go_sem,hlen],by simp only[go_sem,hlen,h1],by simp only[go_sem,hlen,h3],by simp only[go_sem,hlen,h4],by simp only[go_sem,hlen,lowR,if_pos hc1],g0⟩
    ·have hc1:¬ (i=0):=by simp at hc;omega
     exact Wc.skip ⟨rfl,rfl,by simp only[go_sem,hlen],by simp only[go_sem,hlen,h1],by simp only[go_sem,hlen,h3],by simp only[go_sem,hlen,h4],by simp only[go_sem,hlen,lowR,if_neg hc1],g0⟩
   clear hlen h1 h3 h4 g0 e s1 hc
   rintro⟨e,ds,s1⟩ ⟨rfl,hlen,h1,h3,h4,h9,g0⟩
   simp only at hlen h1 h3 h4 h9 g0;generalize hRR:(lowR q h.mn i b)=r at *
   have w1:IntKind.i64.wrap (r*b.2)=r*b.2:=by rw[wi64];omega
   have w2:IntKind.i64.wrap (o+r*b.2)=o+r*b.2:=by rw[wi64,ho];omega
   apply gS (by simp only[go_sem,hlen,h1,h3,h4,h9,g0,hix,hce,w1,w2];rfl);refine Wc.mono (Q:=fun ex y=>ex=.normal∧y.ds=[]∧y.e.length=58∧y.e.getD 1 .junk=.v (.c (.ref 0 0))∧y.e.getD 3 .junk=P' (pI ((h.mx-h.mn)+sumI (termL q h.mn h.bs.length) 0 (h.bs.take (i+1))))∧y.e.getD 4 .junk=P' (pI i)∧y.s.get 0=some (.cells [.p (pI q),.p (pI h.c),.p (pI h.s),.p (pI h.mn),.p (pI h.mx),.p (.lst h.bs.length (h.bs.flatMap p2))] false)) ?_ ?_
   ·apply gS (by simp only[go_sem,hlen,h1,h3,h4,h9,g0,el1];rfl);refine Wc.cond (t:=((i:Int)==((h.bs.length-1:Nat):Int))) kL (fun hc=>?_) (fun hc=>?_)
    ·have hc1:i+1=h.bs.length:=by simp at hc;omega
     rw[if_pos hc1] at tB
     have w3:IntKind.i64.wrap (o+r*b.2+h.mn)=o+r*b.2+h.mn:=by rw[wi64,ho];omega
     have w4:IntKind.i64.wrap (o+r*b.2+h.mn-r)=(h.mx-h.mn)+sumI (termL q h.mn h.bs.length) 0 (h.bs.take (i+1)):=by rw[wi64,sT,tB,ho];omega
     apply gR (by simp only[go_sem,hlen,h1,h3,h4,h9,g0,w3,w4];rfl)
     exact⟨rfl,rfl,by simp only[go_sem,hlen],by simp only[go_sem,hlen,h1],by simp only[go_sem,hlen],by simp only[go_sem,hlen,h4],g0⟩
    ·have hc1:¬ (i+1=h.bs.length):=by simp at hc;omega
     rw[if_neg hc1] at tB
     have w4:o+r*b.2=(h.mx-h.mn)+sumI (termL q h.mn h.bs.length) 0 (h.bs.take (i+1)):=by rw[sT,tB,ho];omega
     exact Wc.skip ⟨rfl,rfl,by simp only[go_sem,hlen],by simp only[go_sem,hlen,h1],by simp only[go_sem,hlen,w4],by simp only[go_sem,hlen,h4],g0⟩
   clear hlen h1 h3 h4 h9 g0 e s1;rintro ex ⟨e,ds,s1⟩ ⟨rfl,rfl,hlen,h1,h3,h4,g0⟩;simp only at hlen h1 h3 h4 g0;apply gR (by simp only[go_sem,hlen,h1,h3,h4,i64n i kO];rfl)
   exact⟨h.bs.length-(i+1),kO,i+1,_,rfl,kO,rfl,by simp only[go_sem,hlen],by simp only[go_sem,hlen,h1],by simp only[go_sem,hlen,h3],by simp only[go_sem,hlen],g0,rfl⟩
  ·have hil : i = h.bs.length := by have : ¬ (i : Int) < h.bs.length := by simpa using hc
                                    omega
   subst hil
   rw[List.take_length] at ho
   have e9:o=leastR q h.mn h.mx h.bs:=ho
   subst e9;refine Wc.exit (Wc.seq ?_);apply gR (by simp only[go_sem,hlen,h3];rfl);exact wr (gV [.tmp 2] [.c (.p (pI (leastR q h.mn h.mx h.bs)))] kL)
 ·exact⟨0,(h.mx-h.mn),rfl,kO,rfl,rfl,rfl,rfl,rfl,by simp only[go_sem],by simp[sumI]⟩
theorem pf223 (h:Hst)(q:Nat)(x:HCx h q):Pf E0 223 [.agg (h.pd.map .p)] (P' (pI (mostR q h.mn h.mx h.bs))):=by
 have hfl:(h.bs.flatMap p2).length=h.bs.length*2:=flat_len (k:=2) (fun _=>rfl) _
 have xa:=x.a
 have xb:=x.b
 have xd:=x.d
 have xn:=x.n
 have w0:IntKind.i64.wrap (h.mn-h.mx)=(h.mn-h.mx):=by rw[wi64];omega
 refine gQ (fn:=Tryz.f223) ?_;simp only[gL,Tryz.ntmps223,Nat.reduceSub,Nat.reduceAdd];apply gS (by simp only[go_sem,x.p];rfl);apply gS (by simp only[go_sem,w0];rfl);refine gO ?_;refine gZ ?_;refine Wc.block (Wc.loop (fun k y=>∃(i:Nat) (o:Int),k=h.bs.length-i∧i≤h.bs.length∧y.ds=[]∧y.e.length=58∧y.e.getD 1 .junk=.v (.c (.ref 0 0))∧y.e.getD 3 .junk=P' (pI o)∧y.e.getD 4 .junk=P' (pI i)∧y.s.get 0=some (.cells [.p (pI q),.p (pI h.c),.p (pI h.s),.p (pI h.mn),.p (pI h.mx),.p (.lst h.bs.length (h.bs.flatMap p2))] false)∧o=(h.mn-h.mx)+sumI (termM q h.mx h.bs.length) 0 (h.bs.take i)) ?_ (k:=h.bs.length) ?_)
 ·rintro k ⟨e,ds,s1⟩ ⟨i,o,rfl,hi,rfl,hlen,h1,h3,h4,g0,ho⟩;simp only at hlen h1 h3 h4 g0;refine gO ?_;apply gR (by simp only[go_sem,hlen,h1,h3,h4,g0];rfl);refine Wc.cond (t:=decide ((i:Int)<h.bs.length)) kL (fun hc=>?_) (fun hc=>?_)
  ·have hil : i < h.bs.length := by have : (i : Int) < h.bs.length := by simpa using hc
                                    omega
   obtain⟨b,hb⟩:=gE hil
   have hbm:=gw hb
   obtain⟨b1,b2,b3,b4,b5⟩:=x.lo hbm
   have hbi:b.1=((b.1.toNat:Nat):Int):=kO
   have hix:=ixA ti148 rfl ti205 (j:=i) (m:=h.bs.length) (cs:=h.bs.flatMap p2) hil hfl kD
   have hca:=rpA (off:=i*2) (drop_flat (f:=p2) (k:=2) (fun _=>rfl) hb) (by rw[hfl];omega)
   have hce:=rpA (off:=i*2+1) (cs:=h.bs.flatMap p2) (pre:=[pI b.2]) (rest:=(h.bs.drop (i+1)).flatMap p2) (by rw[← List.drop_drop,drop_flat (f:=p2) (k:=2) (fun _=>rfl) hb];rfl) (by rw[hfl];omega)
   have el1:IntKind.i64.wrap ((h.bs.length:Int)-1)=((h.bs.length-1:Nat):Int):=by rw[wi64];omega
   have c1:=x.cnt_take i
   have c2:=x.cnt_take (i+1)
   have c3:cnt (h.bs.take (i+1))=cnt (h.bs.take i)+b.2:=sumI_take hb
   have hR:=x.highR (i:=i) hbm
   have sB:=x.mulB (g:=(highR q h.mx h.bs.length)) (fun i b hb=>x.highR hb) i
   have sT:sumI (termM q h.mx h.bs.length) 0 (h.bs.take (i+1))=sumI (termM q h.mx h.bs.length) 0 (h.bs.take i)+(termM q h.mx h.bs.length i b):=sumI_take hb
   have sD:∃ d,-1099511627776≤d∧d≤1099511627776∧sumI (termM q h.mx h.bs.length) 0 (h.bs.take i)=sumI (fun i b=>highR q h.mx h.bs.length i b*b.2) 0 (h.bs.take i)+d:=by
    have e9:sumI (termM q h.mx h.bs.length) 0 (h.bs.take i)=sumI (fun i b=>highR q h.mx h.bs.length i b*b.2) 0 (h.bs.take i)+sumI (fun i b=>if i=0 then h.mx-highR q h.mx h.bs.length i b else 0) 0 (h.bs.take i):=sumI_add _ _ _ _
    refine⟨_,?_,?_,e9⟩
    all_goals
     cases ht:h.bs.take i with
     |nil=>simp[sumI]
     |cons c r =>
      have hcm:c∈h.bs:=List.mem_of_mem_take (i:=i) (by rw[ht];simp)
      have h9:=x.highR (i:=0) hcm
      rw[sumI,sumI_firstT _ r (0+1) kD,if_pos rfl];omega
   obtain⟨d,d1,d2,sD⟩:=sD
   have tB:(termM q h.mx h.bs.length i b)=(highR q h.mx h.bs.length i b)*b.2+(if i=0 then h.mx-(highR q h.mx h.bs.length i b) else 0):=rfl
   have X0:0≤(highR q h.mx h.bs.length i b)*b.2:=Int.mul_nonneg kO kO
   have X1:(highR q h.mx h.bs.length i b)*b.2≤1099511627776*b.2:=Int.mul_le_mul_of_nonneg_right kO kO
   refine Wc.skip (Wc.seq (Wc.block (Wc.seq ?_)));refine Wc.regD fun K F=>?_;simp only[go_sem,hlen,h1,h3,h4,g0,hix,hca]
   refine⟨by simp[o253,x253,plainD,plainV,plainC],?_⟩
   rw[hbi]
   refine gP (pf253 q b.1.toNat x.q8 b1) ?_
   rw[← hbi]
   simp only[go_sem,hlen,h1,h3,h4,g0,hix,hca];apply F;clear F K;refine Wc.seqA (fun y=>y.ds=[]∧y.e.length=58∧y.e.getD 1 .junk=.v (.c (.ref 0 0))∧y.e.getD 3 .junk=P' (pI o)∧y.e.getD 4 .junk=P' (pI i)∧y.e.getD 6 .junk=P' (pI ((highR q h.mx h.bs.length i b)))∧y.s.get 0=some (.cells [.p (pI q),.p (pI h.c),.p (pI h.s),.p (pI h.mn),.p (pI h.mx),.p (.lst h.bs.length (h.bs.flatMap p2))] false)) ?_ ?_
   ·apply gS (by simp only[go_sem,hlen,h1,h3,h4,g0,el1];rfl);refine Wc.cond (t:=((i:Int)==((h.bs.length-1:Nat):Int))) kL (fun hc=>?_) (fun hc=>?_)
    ·have hc1:i+1=h.bs.length:=by simp at hc;omega
     apply gR (by simp only[go_sem,hlen,h1,h3,h4,g0];rfl)
     exact⟨rfl,rfl,by simp only[go_sem,hlen],by simp only[go_sem,hlen,h1],by simp only[go_sem,hlen,h3],by simp only[go_sem,hlen,h4],by simp only[go_sem,hlen,highR,if_pos hc1],g0⟩
    ·have hc1:¬ (i+1=h.bs.length):=by simp at hc;omega
     exact Wc.skip ⟨rfl,rfl,by simp only[go_sem,hlen],by simp only[go_sem,hlen,h1],by simp only[go_sem,hlen,h3],by simp only[go_sem,hlen,h4],by simp only[go_sem,hlen,highR,if_neg hc1],g0⟩
   clear hlen h1 h3 h4 g0 e s1 hc
   rintro⟨e,ds,s1⟩ ⟨rfl,hlen,h1,h3,h4,h9,g0⟩
   simp only at hlen h1 h3 h4 h9 g0;generalize hRR:(highR q h.mx h.bs.length i b)=r at *
   have w1:IntKind.i64.wrap (r*b.2)=r*b.2:=by rw[wi64];omega
   have w2:IntKind.i64.wrap (o+r*b.2)=o+r*b.2:=by rw[wi64,ho];omega
   apply gS (by simp only[go_sem,hlen,h1,h3,h4,h9,g0,hix,hce,w1,w2];rfl);refine Wc.mono (Q:=fun ex y=>ex=.normal∧y.ds=[]∧y.e.length=58∧y.e.getD 1 .junk=.v (.c (.ref 0 0))∧y.e.getD 3 .junk=P' (pI ((h.mn-h.mx)+sumI (termM q h.mx h.bs.length) 0 (h.bs.take (i+1))))∧y.e.getD 4 .junk=P' (pI i)∧y.s.get 0=some (.cells [.p (pI q),.p (pI h.c),.p (pI h.s),.p (pI h.mn),.p (pI h.mx),.p (.lst h.bs.length (h.bs.flatMap p2))] false)) ?_ ?_
   ·apply gS (by simp only[go_sem,hlen,h1,h3,h4,h9,g0,el1];rfl);refine Wc.cond (t:=((i:Int)==0)) kL (fun hc=>?_) (fun hc=>?_)
    ·have hc1:i=0:=by simp at hc;omega
     rw[if_pos hc1] at tB
     have w3:IntKind.i64.wrap (o+r*b.2+h.mx)=o+r*b.2+h.mx:=by rw[wi64,ho];omega
     have w4:IntKind.i64.wrap (o+r*b.2+h.mx-r)=(h.mn-h.mx)+sumI (termM q h.mx h.bs.length) 0 (h.bs.take (i+1)):=by rw[wi64,sT,tB,ho];omega
     apply gR (by simp only[go_sem,hlen,h1,h3,h4,h9,g0,w3,w4];rfl)
     exact⟨rfl,rfl,by simp only[go_sem,hlen],by simp only[go_sem,hlen,h1],by simp only[go_sem,hlen],by simp only[go_sem,hlen,h4],g0⟩
    ·have hc1:¬ (i=0):=by simp at hc;omega
     rw[if_neg hc1] at tB
     have w4:o+r*b.2=(h.mn-h.mx)+sumI (termM q h.mx h.bs.length) 0 (h.bs.take (i+1)):=by rw[sT,tB,ho];omega
     exact Wc.skip ⟨rfl,rfl,by simp only[go_sem,hlen],by simp only[go_sem,hlen,h1],by simp only[go_sem,hlen,w4],by simp only[go_sem,hlen,h4],g0⟩
   clear hlen h1 h3 h4 h9 g0 e s1;rintro ex ⟨e,ds,s1⟩ ⟨rfl,rfl,hlen,h1,h3,h4,g0⟩;simp only at hlen h1 h3 h4 g0;apply gR (by simp only[go_sem,hlen,h1,h3,h4,i64n i kO];rfl)
   exact⟨h.bs.length-(i+1),kO,i+1,_,rfl,kO,rfl,by simp only[go_sem,hlen],by simp only[go_sem,hlen,h1],by simp only[go_sem,hlen,h3],by simp only[go_sem,hlen],g0,rfl⟩
  ·have hil : i = h.bs.length := by have : ¬ (i : Int) < h.bs.length := by simpa using hc
                                    omega
   subst hil
   rw[List.take_length] at ho
   have e9:o=mostR q h.mn h.mx h.bs:=ho
   subst e9;refine Wc.exit (Wc.seq ?_);apply gR (by simp only[go_sem,hlen,h3];rfl);exact wr (gV [.tmp 2] [.c (.p (pI (mostR q h.mn h.mx h.bs)))] kL)
 ·exact⟨0,(h.mn-h.mx),rfl,kO,rfl,rfl,rfl,rfl,rfl,by simp only[go_sem],by simp[sumI]⟩
theorem o151:E0.opn 151=false:=by kernel_rfl
theorem x151:E0.xt 151=none:=by kernel_rfl
theorem o222:E0.opn 222=false:=by kernel_rfl
theorem x222:E0.xt 222=none:=by kernel_rfl
theorem o223:E0.opn 223=false:=by kernel_rfl
theorem x223:E0.xt 223=none:=by kernel_rfl
theorem pf152 (h:Hst)(t:Int)(q:Nat)(hq:q≤8)(hp:h.p=q)(hb:BsOK q h.bs)(hn:h.bs.length≤500)(ht:t=cnt h.bs)(ht2:t≤1048576):Pf E0 152 [.agg (h.pd.map .p),.c (.p (pI t))] (P' (.bool (agrB h q t))):=by
 have hfl:(h.bs.flatMap p2).length=h.bs.length*2:=flat_len (k:=2) (fun _=>rfl) _
 refine gQ (fn:=Tryz.f152) ?_;simp only[gL,Tryz.ntmps152,Nat.reduceSub,Nat.reduceAdd];apply gS (by simp only[go_sem,hp];rfl);refine gO ?_;refine gZ ?_;refine Wc.cond (t:=(t==0)) kA (fun hc=>?_) (fun hc=>?_)
 ·have ht0:t=0:=by simpa using hc
  have e:agrB h q t=(decide (h.c=0)&&(decide (h.s=0)&&(decide (h.mn=0)&&decide (h.mx=0)))):=by
   unfold agrB
   by_cases h0:h.c≠t
   ·have n0:¬ h.c=0:=kO
    rw[if_pos h0,decide_eq_false n0,Bool.false_and]
   ·have n0:h.c=0:=kO
    rw[if_neg h0,if_pos ht0,decide_eq_true n0,Bool.true_and]
  rw[e]
  refine Wc.seq ?_
  by_cases h0:h.c=0
  ·have b0:(h.c==0)=true:=by simpa using h0
   by_cases h1:h.s=0
   ·have b1:(h.s==0)=true:=by simpa using h1
    by_cases h2:h.mn=0
    ·have b2:(h.mn==0)=true:=by simpa using h2
     apply gR (by simp only[go_sem,b0,b1,b2];rfl)
     rw[decide_eq_true h0,decide_eq_true h1,decide_eq_true h2,Bool.true_and,Bool.true_and,Bool.true_and]
     exact wr (gV [.tmp 4] [.c (.p (.bool (decide (h.mx=0))))] (by simp only[go_sem,b1,b2];try rfl))
    ·have b2:(h.mn==0)=false:=by simpa using h2
     apply gR (by simp only[go_sem,b0,b1,b2];rfl)
     rw[decide_eq_false h2,Bool.false_and,Bool.and_false,Bool.and_false]
     exact wr (gV [.tmp 4] [.c (.p (.bool false))] (by simp only[go_sem,b1,b2]))
   ·have b1:(h.s==0)=false:=by simpa using h1
    apply gR (by simp only[go_sem,b0,b1];rfl)
    rw[decide_eq_false h1,Bool.false_and,Bool.and_false]
    exact wr (gV [.tmp 4] [.c (.p (.bool false))] (by simp only[go_sem,b1]))
  ·have b0:(h.c==0)=false:=by simpa using h0
   apply gR (by simp only[go_sem,b0];rfl)
   rw[decide_eq_false h0,Bool.false_and]
   exact wr (gV [.tmp 4] [.c (.p (.bool false))] (by simp only[go_sem,b0]))
 have ht0:¬ t=0:=by simpa using hc
 have hne:h.bs≠[]:=fun e=>by rw[e] at ht;exact ht0 (by rw[ht];rfl)
 have hl0:0<h.bs.length:=List.length_pos_iff.2 hne
 obtain⟨f,hf⟩:=gE hl0
 obtain⟨l,hl⟩:∃ l,h.bs[h.bs.length-1]? = some l:=⟨h.bs[h.bs.length-1],List.getElem?_eq_getElem kO⟩
 have bad:(h.mn<0∨mxv<h.mx∨h.mx<h.mn∨h.c≠t)→agrB h q t=false:=fun hx=>by
  unfold agrB
  by_cases h0:h.c≠t
  ·rw[if_pos h0]
  ·rw[if_neg h0,if_neg ht0,hf,hl]
   have h9:h.mn<0∨mxv<h.mn∨h.mx<0∨mxv<h.mx∨h.mx<h.mn:=kO
   simp only[agr1]
   rw[if_pos h9]
 have hM:mxv=1099511627776:=rfl
 refine Wc.skip (Wc.seqR (fun y=>(0≤h.mn∧h.mx≤1099511627776∧h.mn≤h.mx∧h.c=t)∧y.ds=[]∧y.e.length=100∧y.e.getD 1 .junk=P' (pI t)∧y.e.getD 2 .junk=.v (.c (.ref 0 0))∧y.s.get 0=some (.cells [.p (pI q),.p (pI h.c),.p (pI h.s),.p (pI h.mn),.p (pI h.mx),.p (.lst h.bs.length (h.bs.flatMap p2))] false)) ?_ ?_)
 ·refine Wc.seq ?_
  by_cases z1:h.mn<0
  ·apply gR (by simp only[go_sem,z1];rfl);refine gG ?_;refine gY ?_
   rw[bad (.inl z1)]
   exact wr (gU [.tmp 4] [.c (.p (.bool false))])
  by_cases z2:1099511627776<h.mx
  ·apply gR (by simp only[go_sem,z1,z2];rfl);refine gG ?_;refine gY ?_
   rw[bad (.inr (.inl z2))]
   exact wr (gU [.tmp 4] [.c (.p (.bool false))])
  by_cases z3:h.mx<h.mn
  ·apply gR (by simp only[go_sem,z1,z2,z3];rfl);refine gG ?_;refine gY ?_
   rw[bad (.inr (.inr (.inl z3)))]
   exact wr (gU [.tmp 4] [.c (.p (.bool false))])
  apply gR (by simp only[go_sem,z1,z2,z3];rfl);refine Wc.cond (t:=(h.c != t)) kA (fun hc=>?_) (fun hc=>?_)
  ·have z4:h.c≠t:=by simpa using hc
   refine gY ?_
   rw[bad (.inr (.inr (.inr z4)))]
   exact wr (gU [.tmp 4] [.c (.p (.bool false))])
  ·have z4:h.c=t:=by simpa using hc
   exact Wc.skip ⟨kO,rfl,rfl,rfl,rfl,by simp only[go_sem]⟩
 rintro⟨e,ds,s1⟩ ⟨⟨m0,m1,m2,m3⟩,rfl,hlen,h1,h2,g0⟩
 simp only at hlen h1 h2 g0
 obtain⟨a,ea⟩:∃ a:Nat,h.mn=(a:Int):=⟨h.mn.toNat,kO⟩
 obtain⟨b,eb⟩:∃ b:Nat,h.mx=(b:Int):=⟨h.mx.toNat,kO⟩
 have ta:h.mn.toNat=a:=kO
 have tb:h.mx.toNat=b:=kO
 have eA:agrB h q t=if (ix q a:Int)≠f.1∨(ix q b:Int)≠l.1 then false else if t=1 then decide (h.mn=h.mx)&&decide (h.s=h.mn) else decide (leastR q h.mn h.mx h.bs≤h.s)&&decide (h.s≤mostR q h.mn h.mx h.bs):=by
  have e1:agrB h q t=agr1 q h.s h.mn h.mx h.bs f l t:=by unfold agrB;rw[if_neg kO,if_neg ht0,hf,hl]
  rw[e1,← fit_agr hb hf hl ht]
  unfold fit1;rw[if_neg kO,ta,tb]
 rw[eA]
 have hif:=ixA ti148 rfl ti205 (j:=0) (m:=h.bs.length) (cs:=h.bs.flatMap p2) hl0 hfl kD
 have hcf:=rpA (off:=0*2) (drop_flat (f:=p2) (k:=2) (fun _=>rfl) hf) kO
 rw[show((0:Nat):Int)=0 from rfl,Nat.zero_mul] at hif
 rw[Nat.zero_mul] at hcf
 have hil:=ixA ti148 rfl ti205 (j:=h.bs.length-1) (m:=h.bs.length) (cs:=h.bs.flatMap p2) kO hfl kD
 have hcl:=rpA (off:=(h.bs.length-1)*2) (drop_flat (f:=p2) (k:=2) (fun _=>rfl) hl) (by rw[hfl];omega)
 have el1:IntKind.i64.wrap ((h.bs.length:Int)-1)=((h.bs.length-1:Nat):Int):=by rw[wi64];omega
 refine Wc.seqR (fun y=>((ix q a:Int)=f.1∧(ix q b:Int)=l.1)∧y.ds=[]∧y.e.length=100∧y.e.getD 1 .junk=P' (pI t)∧y.e.getD 2 .junk=.v (.c (.ref 0 0))∧y.s.get 0=some (.cells [.p (pI q),.p (pI h.c),.p (pI h.s),.p (pI h.mn),.p (pI h.mx),.p (.lst h.bs.length (h.bs.flatMap p2))] false)) ?_ ?_
 ·refine Wc.seq ?_;refine Wc.regD fun K F=>?_;simp only[go_sem,hlen,h1,h2,g0,ea,eb,hif,hcf,hil,hcl,el1]
  refine⟨by simp[o151,x151,plainD,plainV,plainC],?_⟩
  refine gP (pf151 q a hq kO) ?_
  by_cases v1:(ix q a:Int)=f.1
  ·have b1:((ix q a:Int) != f.1)=false:=by simpa using v1
   simp only[go_sem,hlen,h1,h2,g0,ea,eb,hif,hcf,hil,hcl,el1,b1]
   refine⟨by simp[o151,x151,plainD,plainV,plainC],?_⟩
   refine gP (pf151 q b hq kO) ?_;simp only[go_sem,hlen,h1,h2,g0,ea,eb,hif,hcf,hil,hcl,el1,b1];apply F;clear F K;refine Wc.cond (t:=((ix q b:Int) != l.1)) kL (fun hc=>?_) (fun hc=>?_)
   ·have hc3:(ix q b:Int)≠l.1:=by simpa using hc
    apply gS kM
    rw[if_pos (.inr hc3)]
    exact wr (gV [.tmp 4] [.c (.p (.bool false))] kL)
   ·have hc3:(ix q b:Int)=l.1:=by simpa using hc
    exact Wc.skip ⟨⟨v1,hc3⟩,rfl,by simp only[go_sem,hlen],by simp only[go_sem,hlen,h1],by simp only[go_sem,hlen,h2],g0⟩
  ·have b1:((ix q a:Int) != f.1)=true:=by simpa using v1
   simp only[go_sem,hlen,h1,h2,g0,ea,eb,hif,hcf,hil,hcl,el1,b1];apply F;clear F K;apply gT kL;apply gS kM
   rw[if_pos (.inl v1)]
   exact wr (gV [.tmp 4] [.c (.p (.bool false))] kL)
 clear hlen h1 h2 g0 e s1
 rintro⟨e,ds,s1⟩ ⟨⟨i1,i2⟩,rfl,hlen,h1,h2,g0⟩
 simp only at hlen h1 h2 g0
 rw[if_neg kO]
 refine gO ?_;apply gR (by simp only[go_sem,hlen,h1,h2];rfl);refine Wc.cond (t:=(t==1)) kL (fun hc=>?_) (fun hc=>?_)
 ·have z1:t=1:=by simpa using hc
  rw[if_pos z1]
  refine Wc.seq ?_
  by_cases z2:h.mn=h.mx
  ·have b2:(h.mn==h.mx)=true:=by simpa using z2
   apply gR (by simp only[go_sem,hlen,h1,h2,g0,b2];rfl)
   rw[decide_eq_true z2,Bool.true_and]
   exact wr (gV [.tmp 4] [.c (.p (.bool (decide (h.s=h.mn))))] (by simp only[go_sem,hlen];try rfl))
  ·have b2:(h.mn==h.mx)=false:=by simpa using z2
   apply gR (by simp only[go_sem,hlen,h1,h2,g0,b2];rfl)
   rw[decide_eq_false z2,Bool.false_and]
   exact wr (gV [.tmp 4] [.c (.p (.bool false))] kL)
 have z1:¬ t=1:=by simpa using hc
 rw[if_neg z1]
 have xx:HCx h q:=⟨hq,hp,hb,hn,kO,m0,m2,m1⟩
 have p133:=pf222 h q xx
 have p134:=pf223 h q xx
 simp only[List.map_cons,List.map_nil,hp] at p133 p134;refine Wc.skip (Wc.seq ?_);refine Wc.regD fun K F=>?_;simp only[go_sem,hlen,h1,h2,g0]
 refine⟨by simp[o222,x222,plainD,plainV,plainC],?_⟩
 refine gP p133 ?_
 by_cases z2:leastR q h.mn h.mx h.bs≤h.s
 ·simp only[go_sem,hlen,h1,h2,g0,z2]
  refine⟨by simp[o223,x223,plainD,plainV,plainC],?_⟩
  refine gP p134 ?_;simp only[go_sem,hlen,h1,h2,g0,z2];apply F;clear F K
  try rw[decide_eq_true z2,Bool.true_and]
  exact wr (gV [.tmp 4] [.c (.p (.bool (decide (h.s≤mostR q h.mn h.mx h.bs))))] kL)
 ·simp only[go_sem,hlen,h1,h2,g0,z2];apply F;clear F K
  rw[decide_eq_false z2,Bool.false_and]
  exact wr (gV [.tmp 4] [.c (.p (.bool false))] kL)
theorem pf94 (h:Hst)(hl:h.bs.length<2^60):Pf E0 94 [.agg (h.pd.map .p)] (P' (pI (hck h))):=by
 have hfl:(h.bs.flatMap p2).length=h.bs.length*2:=flat_len (k:=2) (fun _=>rfl) _
 refine gQ (fn:=Tryz.f94) ?_;simp only[gL,Tryz.ntmps94,Nat.reduceSub,Nat.reduceAdd];refine gY ?_
 have bad0:(h.p<0∨8<h.p)→hck h=2:=fun hx=>by unfold hck;rw[if_pos hx]
 refine Wc.seqR (fun y=>(0≤h.p∧h.p≤8)∧y.ds=[]∧y.e.length=75∧y.e.getD 1 .junk=.v (.c (.ref 0 0))∧OA y.s.nx y.s [] [(0,.cells (h.pd.map .p) false)]) ?_ ?_
 ·refine Wc.seq ?_
  by_cases z1:h.p<0
  ·apply gR (by simp only[go_sem,z1];rfl);refine gG ?_;refine gY ?_
   rw[bad0 (.inl z1)]
   exact wr (gU [.tmp 2] [.c (.p (pI 2))])
  apply gR (by simp only[go_sem,z1];rfl);refine Wc.cond (t:=decide (8<h.p)) kA (fun hc=>?_) (fun hc=>?_)
  ·refine gY ?_
   rw[bad0 (.inr (by simpa using hc))]
   exact wr (gU [.tmp 2] [.c (.p (pI 2))])
  ·have z2:¬ 8<h.p:=by simpa using hc
   refine Wc.skip ⟨kO,rfl,rfl,rfl,?_⟩
   have o0:=(s00_oa.adv (n:=2)).new (k:=0) (o:=.cells (h.pd.map .p) false) (Nat.le_refl _) rfl
   refine OA.mono (b:=0+1) ?_ (by simp only[St.nx_adv,St.nx_put];omega)
   repeat refine OA.adv ?_
   exact o0
 rintro⟨e,ds,s1⟩ ⟨hp,rfl,hlen,h1,ho⟩
 simp only at hlen h1 ho
 obtain⟨q,hq⟩:∃ q:Nat,h.p=(q:Int):=⟨h.p.toNat,kO⟩
 have hq8:q≤8:=kO
 have eq0:h.p.toNat=q:=kO
 have e1:hck h=if 500<h.bs.length then 4 else if bck (ix q 1099511627776) (-1) h.bs≠0 then bck (ix q 1099511627776) (-1) h.bs else if 1048576<cnt h.bs then 4 else if agrB h q (cnt h.bs)=false then 10 else 0:=by
  unfold hck;rw[if_neg kO,eq0]
 have g0:=ho.at_ (0,.cells (h.pd.map .p) false) kS
 simp only[gm] at g0;refine gO ?_;apply gR (by simp only[go_sem,hlen,h1,g0];rfl);refine Wc.cond (t:=decide ((500:Int)<h.bs.length)) kL (fun hc=>?_) (fun hc=>?_)
 ·have h5 : 500 < h.bs.length := by have : (500 : Int) < h.bs.length := by simpa using hc
                                    omega
  rw[e1,if_pos h5]
  apply gS kM;exact wr (gV [.tmp 2] [.c (.p (pI 4))] kL)
 have h5 : ¬ 500 < h.bs.length := by have : ¬ (500 : Int) < h.bs.length := by simpa using hc
                                     omega
 rw[if_neg h5] at e1
 have e2:bck (ix q 1099511627776) (-1) h.bs=bck (ix q 1099511627776) (prevB h.bs 0) (h.bs.drop 0):=rfl
 refine Wc.skip (Wc.seq ?_);apply gR (by simp only[go_sem,hlen,h1];rfl);refine Wc.seqR (fun y=>bck (ix q 1099511627776) (-1) h.bs=0∧y.ds=[]∧y.e.length=75∧y.e.getD 1 .junk=.v (.c (.ref 0 0))∧y.e.getD 3 .junk=P' (pI (cnt h.bs))∧OA y.s.nx y.s [] [(0,.cells (h.pd.map .p) false)]) ?_ ?_
 ·apply gS (by simp only[go_sem,hlen,h1];rfl)
  refine Wc.block (Wc.loop (fun k y => ∃ i : Nat, k = h.bs.length - i ∧ i ≤ h.bs.length ∧ y.ds = [] ∧ y.e.length = 75 ∧ y.e.getD 1 .junk = .v (.c (.ref 0 0)) ∧ y.e.getD 3 .junk = P' (pI (cnt (h.bs.take i))) ∧ y.e.getD 4 .junk = P' (pI i) ∧
   OA y.s.nx y.s [] [(0,.cells (h.pd.map .p) false)]∧(0≤cnt (h.bs.take i)∧cnt (h.bs.take i)≤i*1048576)∧bck (ix q 1099511627776) (-1) h.bs=bck (ix q 1099511627776) (prevB h.bs i) (h.bs.drop i)) ?_ (k:=h.bs.length) ?_)
  ·clear hlen h1 ho g0 e s1;rintro k ⟨e,ds,s1⟩ ⟨i,rfl,hi,rfl,hlen,h1,h3,h4,ho,hcn,hch⟩;simp only at hlen h1 h3 h4 ho
   have g0:=ho.at_ (0,.cells (h.pd.map .p) false) kS
   simp only[gm] at g0;refine gO ?_;apply gR (by simp only[go_sem,hlen,h1,h3,h4,g0];rfl);refine Wc.cond (t:=decide ((i:Int)<h.bs.length)) kL (fun hc=>?_) (fun hc=>?_)
   ·have hil : i < h.bs.length := by have : (i : Int) < h.bs.length := by simpa using hc
                                     omega
    obtain⟨b,hb⟩:=gE hil
    have hix:=ixA ti148 rfl ti205 (j:=i) (m:=h.bs.length) (cs:=h.bs.flatMap p2) hil hfl kD
    have hca:=rpA (off:=i*2) (drop_flat (f:=p2) (k:=2) (fun _=>rfl) hb) (by rw[hfl];omega)
    rw[bck_step hb] at hch
    have bad2:(b.1<0∨(ix q 1099511627776:Int)<b.1∨b.2<1∨1048576<b.2)→hck h=2:=fun hx=>by
     rw[e1,hch,if_pos hx,if_pos kD]
    refine Wc.skip (Wc.seq (Wc.block (Wc.seqA (fun y=>∃ k7,y.ds=[]∧y.e.length=75∧y.e.getD 1 .junk=.v (.c (.ref 0 0))∧y.e.getD 3 .junk=P' (pI (cnt (h.bs.take i)))∧y.e.getD 4 .junk=P' (pI i)∧y.e.getD 5 .junk=.v (.c (.ref k7 0))∧OA y.s.nx y.s [] [(k7,.cells ((p2 b).map .p) false),(0,.cells (h.pd.map .p) false)]) ?_ ?_)))
    ·apply gR (by simp only[go_sem,hlen,h1,h3,h4,g0,hix,hca];rfl)
     refine⟨rfl,s1.nx+10,rfl,by simp only[go_sem,hlen],by simp only[go_sem,hlen,h1],by simp only[go_sem,hlen,h3],by simp only[go_sem,hlen,h4],by simp only[go_sem,hlen],?_⟩
     have q1:=OA.set (M1:=[]) (o':=.cells ((p2 b).map .p) false) (((ho.adv (n:=5)).adv (n:=7)).new (k:=s1.nx+10) (o:=.cells [.p (.int .i64 0),.p (.int .i64 0)] false) kO rfl) rfl
     exact q1.mono kY
    clear hlen h1 h3 h4 ho e s1 hc g0
    rintro⟨e,ds,s1⟩ ⟨k7,rfl,hlen,h1,h3,h4,h7,ho⟩
    simp only at hlen h1 h3 h4 h7 ho
    have g7:=ho.at_ (k7,.cells ((p2 b).map .p) false) kS
    have g0:=ho.at_ (0,.cells (h.pd.map .p) false) kS
    simp only[gm] at g7 g0;refine Wc.seqR (fun y=>¬ (b.1<0∨(ix q 1099511627776:Int)<b.1∨b.2<1∨1048576<b.2)∧y.ds=[]∧y.e.length=75∧y.e.getD 1 .junk=.v (.c (.ref 0 0))∧y.e.getD 3 .junk=P' (pI (cnt (h.bs.take i)))∧y.e.getD 4 .junk=P' (pI i)∧y.e.getD 5 .junk=.v (.c (.ref k7 0))∧∃ n,y.s=s1.adv n) ?_ ?_
    ·refine Wc.seq ?_
     by_cases z1:b.1<0
     ·refine Wc.regD fun K F=>?_;simp only[go_sem,hlen,h1,h3,h4,h7,g7,g0,z1];apply F;clear F K;apply gT kL;apply gS kM
      rw[bad2 (.inl z1)]
      exact wr (gV [.tmp 2] [.c (.p (pI 2))] kL)
     refine Wc.regD fun K F=>?_;simp only[go_sem,hlen,h1,h3,h4,h7,g7,g0,hq,z1]
     refine⟨by simp[o151,x151,plainD,plainV,plainC],?_⟩
     refine gP (pf151 q 1099511627776 hq8 kD) ?_
     by_cases z2:(ix q 1099511627776:Int)<b.1
     ·simp only[go_sem,hlen,h1,h3,h4,h7,g7,g0,hq,z1,z2];apply F;clear F K;apply gT kL;apply gS kM
      rw[bad2 (.inr (.inl z2))]
      exact wr (gV [.tmp 2] [.c (.p (pI 2))] kL)
     by_cases z3:b.2<1
     ·simp only[go_sem,hlen,h1,h3,h4,h7,g7,g0,hq,z1,z2,z3];apply F;clear F K;apply gT kL;apply gS kM
      rw[bad2 (.inr (.inr (.inl z3)))]
      exact wr (gV [.tmp 2] [.c (.p (pI 2))] kL)
     simp only[go_sem,hlen,h1,h3,h4,h7,g7,g0,hq,z1,z2,z3];apply F;clear F K;refine Wc.cond (t:=decide (1048576<b.2)) kL (fun hc=>?_) (fun hc=>?_)
     ·apply gS kM
      rw[bad2 (.inr (.inr (.inr (by simpa using hc))))]
      exact wr (gV [.tmp 2] [.c (.p (pI 2))] kL)
     ·have z4:¬ 1048576<b.2:=by simpa using hc
      exact Wc.skip ⟨kO,rfl,by simp only[go_sem,hlen],by simp only[go_sem,hlen,h1],by simp only[go_sem,hlen,h3],by simp only[go_sem,hlen,h4],by simp only[go_sem,hlen,h7],_,rfl⟩
    clear hlen h1 h3 h4 h7 e
    rintro⟨e,ds,s2⟩ ⟨hz,rfl,hlen,h1,h3,h4,h7,n1,rfl⟩
    simp only at hlen h1 h3 h4 h7
    rw[if_neg hz] at hch
    refine Wc.seqR (fun y=>¬ b.1≤prevB h.bs i∧y.ds=[]∧y.e.length=75∧y.e.getD 1 .junk=.v (.c (.ref 0 0))∧y.e.getD 3 .junk=P' (pI (cnt (h.bs.take i)))∧y.e.getD 4 .junk=P' (pI i)∧y.e.getD 5 .junk=.v (.c (.ref k7 0))∧∃ n,y.s=s1.adv n) ?_ ?_
    ·refine Wc.seq ?_
     by_cases hi0:0<i
     ·obtain⟨y,hy⟩:∃ y,h.bs[i-1]? = some y:=⟨h.bs[i-1],List.getElem?_eq_getElem kO⟩
      have hiy:=ixA ti148 rfl ti205 (j:=i-1) (m:=h.bs.length) (cs:=h.bs.flatMap p2) kO hfl kD
      have hcb:=rpA (off:=(i-1)*2) (drop_flat (f:=p2) (k:=2) (fun _=>rfl) hy) (by rw[hfl];omega)
      have e3:IntKind.i64.wrap ((i:Int)-1)=((i-1:Nat):Int):=by rw[wi64];omega
      have hd:(0<(i:Int))=True:=by simp;omega
      have hpr:prevB h.bs i=y.1:=by unfold prevB;rw[if_neg kO,hy];rfl
      rw[hpr] at hch
      refine Wc.regD fun K F=>?_;simp only[go_sem,hlen,h1,h3,h4,h7,g7,g0,hiy,hcb,e3,hd];apply F;clear F K;refine Wc.cond (t:=decide (b.1≤y.1)) (by simp only[go_sem,hlen,hd]) (fun hc=>?_) (fun hc=>?_)
      ·have z5:b.1≤y.1:=by simpa using hc
       rw[if_pos z5] at hch
       apply gS kM
       rw[e1,hch,if_pos kD]
       exact wr (gV [.tmp 2] [.c (.p (pI 9))] kL)
      ·have z5:¬ b.1≤y.1:=by simpa using hc
       exact Wc.skip ⟨kO,rfl,by simp only[go_sem,hlen],by simp only[go_sem,hlen,h1],by simp only[go_sem,hlen,h3],by simp only[go_sem,hlen,h4],by simp only[go_sem,hlen,h7],_,St.adv_adv _ _ _⟩
     ·have hd:(0<(i:Int))=False:=by simp;omega
      have hpr:prevB h.bs i = -1:=by unfold prevB;rw[if_pos kO]
      refine Wc.regD fun K F=>?_;simp only[go_sem,hlen,h1,h3,h4,h7,g7,g0,hd];apply F;clear F K;refine Wc.cond (t:=false) (by simp only[go_sem,hlen,hd]) (fun hc=>by cases hc) (fun hc=>?_);exact Wc.skip ⟨kO,rfl,by simp only[go_sem,hlen],by simp only[go_sem,hlen,h1],by simp only[go_sem,hlen,h3],by simp only[go_sem,hlen,h4],by simp only[go_sem,hlen,h7],_,St.adv_adv _ _ _⟩
    clear hlen h1 h3 h4 h7 e n1
    rintro⟨e,ds,s2⟩ ⟨z5,rfl,hlen,h1,h3,h4,h7,n1,rfl⟩
    simp only at hlen h1 h3 h4 h7
    rw[if_neg z5] at hch
    have hcs:cnt (h.bs.take (i+1))=cnt (h.bs.take i)+b.2:=sumI_take hb
    have w1:IntKind.i64.wrap (cnt (h.bs.take i)+b.2)=cnt (h.bs.take (i+1)):=by rw[wi64];omega
    apply gR (by simp only[go_sem,hlen,h1,h3,h4,h7,g7,w1];rfl);apply gR (by simp only[go_sem,hlen,h1,h3,h4,h7,g7,i64n i kO];rfl)
    refine⟨h.bs.length-(i+1),kO,i+1,rfl,kO,rfl,by simp only[go_sem,hlen],by simp only[go_sem,hlen,h1],by simp only[go_sem,hlen],by simp only[go_sem,hlen],?_,kO,hch⟩
    have q1:=ho.sub (List.Sublist.refl _) (List.sublist_cons_self _ _)
    refine OA.mono (b:=s1.nx) ?_ (by simp only[St.nx_adv];omega)
    repeat refine OA.adv ?_
    exact q1
   ·have hil : i = h.bs.length := by have : ¬ (i : Int) < h.bs.length := by simpa using hc
                                     omega
    subst hil
    rw[List.drop_length] at hch
    rw[List.take_length] at h3
    exact Wc.exit ⟨hch,rfl,by simp only[go_sem,hlen],by simp only[go_sem,hlen,h1],by simp only[go_sem,hlen,h3],(ho.mono (Nat.le_add_right _ _)).adv⟩
  ·refine⟨0,rfl,kO,rfl,by simp only[go_sem,hlen],by simp only[go_sem,hlen,h1],by simp only[go_sem,hlen];try rfl,by simp only[go_sem,hlen];try rfl,?_,by simp[cnt,sumI],e2⟩
   refine OA.mono (b:=s1.nx) ?_ (by simp only[St.nx_adv];omega)
   repeat refine OA.adv ?_
   exact ho
 rintro⟨e,ds,s1⟩ ⟨hz,rfl,hlen,h1,h3,ho⟩
 simp only at hlen h1 h3 ho
 rw[if_neg (by rw[hz];decide)] at e1
 have hbs:=bck_bs hq8 hz
 refine gO ?_;apply gR (by simp only[go_sem,hlen,h1,h3];rfl);refine Wc.cond (t:=decide (1048576<cnt h.bs)) kL (fun hc=>?_) (fun hc=>?_)
 ·have z1:1048576<cnt h.bs:=by simpa using hc
  rw[e1,if_pos z1]
  apply gS kM;exact wr (gV [.tmp 2] [.c (.p (pI 4))] kL)
 have z1:¬ 1048576<cnt h.bs:=by simpa using hc
 rw[if_neg z1] at e1
 have g0:=ho.at_ (0,.cells (h.pd.map .p) false) kS
 simp only[gm] at g0;refine Wc.skip (Wc.seq (Wc.seq ?_));refine gM fun K F=>?_;simp only[go_sem,hlen,h1,h3,g0];refine gP (pf152 h (cnt h.bs) q hq8 hq hbs kO rfl kO) ?_;simp only[go_sem,hlen,h1,h3,g0];apply F;clear F K;refine Wc.cond (t:=!(agrB h q (cnt h.bs))) kL (fun hc=>?_) (fun hc=>?_)
 ·rw[e1,if_pos (by simpa using hc)]
  apply gS kM;exact wr (gV [.tmp 2] [.c (.p (pI 10))] kL)
 ·have z2:agrB h q (cnt h.bs)=true:=by simpa using hc
  rw[e1,if_neg (by rw[z2];decide)]
  refine Wc.skip (Wc.seq ?_);apply gR kM;exact wr (gV [.tmp 2] [.c (.p (pI 0))] kL)
def vh:Int→List HSm→Bool
 |_,[]=>true
 |p,x::r=>if x.t≤p∨1099511627776<x.t∨hck x.h≠0 then false else vh x.t r
def validH (l:List HSm):Bool:=!(l.length==0)&&decide (l.length≤2000)&&vh 0 l
def prevH (l:List HSm)(i:Nat):Int:=if i=0 then 0 else ((l[i-1]?).map (·.t)).getD 0
theorem vh_step {l:List HSm}{i:Nat}{x:HSm}(h:l[i]? = some x):vh (prevH l i) (l.drop i)=if x.t≤prevH l i∨1099511627776<x.t∨hck x.h≠0 then false else vh (prevH l (i+1)) (l.drop (i+1)):=by
 have hi:=(List.getElem?_eq_some_iff.1 h).1
 have hx:=(List.getElem?_eq_some_iff.1 h).2
 have hp:prevH l (i+1)=x.t:=by simp[prevH,h]
 rw[List.drop_eq_getElem_cons hi,hx,hp]
 rfl
structure Ser where
 lb:List Lb
 k:Int
 sm:List I2
 hs:List HSm
abbrev Ser.pd (x:Ser):List Pd:=[.lst x.lb.length (x.lb.flatMap lbP),pI x.k,.lst x.sm.length (x.sm.flatMap p2),.lst x.hs.length (x.hs.flatMap HSm.pd)]
structure Ser.Sz (x:Ser):Prop where
 lb:x.lb.length<2^40
 ls:∀ y∈x.lb,y.1.length<2^50∧y.2.length<2^50
 sm:x.sm.length<2^40
 hs:x.hs.length<2^40
 hb:∀ y∈x.hs,y.h.bs.length<2^60
def serOK (x:Ser):Bool:=if lckA x.lb≠0 then false else if x.k=3 then (x.sm.length==0)&&validH x.hs else (x.hs.length==0)&&(!(x.sm.length==0)&&(sckA x.k x.sm==0))
theorem len_beq (n:Nat):((n:Int)==0)=(n==0):=by
 rw[Bool.eq_iff_iff];simp
theorem len_pos (n:Nat):decide (0<(n:Int)) = !(n==0):=by
 cases n<;>simp
theorem o94:E0.opn 94=false:=by kernel_rfl
theorem x94:E0.xt 94=none:=by kernel_rfl
theorem validH_bad {l:List HSm}(hn:¬ (l.length≠0∧l.length≤2000)):validH l=false:=by
 unfold validH
 by_cases h0:l.length=0
 ·have b0:(l.length==0)=true:=by simpa using h0
  rw[b0];rfl
 ·have n0:¬ l.length≤2000:=kO
  rw[decide_eq_false n0,Bool.and_false,Bool.false_and]
theorem pf44 (x:Ser)(z:x.Sz):Pf E0 44 [.agg (x.pd.map .p)] (P' (.bool (serOK x))):=by
 have hfl:(x.hs.flatMap HSm.pd).length=x.hs.length*7:=flat_len (k:=7) (fun _=>rfl) x.hs
 refine gQ (fn:=Tryz.f44) ?_;simp only[gL,Tryz.ntmps44,Nat.reduceSub,Nat.reduceAdd];refine gY ?_;refine gO ?_;refine gM fun K F=>?_;simp only[go_sem];refine gP (pf92 x.lb z.lb z.ls) ?_;simp only[go_sem];apply F;clear F K;refine Wc.cond (t:=(lckA x.lb != 0)) kA (fun hc=>?_) (fun hc=>?_)
 ·have h0:lckA x.lb≠0:=by simpa using hc
  have e:serOK x=false:=by unfold serOK;rw[if_pos h0]
  rw[e]
  refine gY ?_;exact wr (gU [.tmp 2] [.c (.p (.bool false))])
 have h0:¬ lckA x.lb≠0:=by simpa using hc
 have e0:serOK x=if x.k=3 then (x.sm.length==0)&&validH x.hs else (x.hs.length==0)&&(!(x.sm.length==0)&&(sckA x.k x.sm==0)):=by unfold serOK;rw[if_neg h0]
 rw[e0]
 refine Wc.skip (Wc.seq (Wc.seq ?_));refine gZ ?_;refine Wc.cond (t:=(x.k != 3)) kA (fun hc=>?_) (fun hc=>?_)
 ·have h3:¬ x.k=3:=by simpa using hc
  rw[if_neg h3]
  refine Wc.seq ?_;cases hs:(x.hs.length==0) with
  |false =>
   apply gR (by simp only[go_sem,len_beq,hs];rfl);exact wr (gU [.tmp 2] [.c (.p (.bool false))])
  |true =>
   cases hm:(x.sm.length==0) with
   |true =>
    apply gR (by simp only[go_sem,len_beq,len_pos,hs,hm];rfl);exact wr (gU [.tmp 2] [.c (.p (.bool false))])
   |false =>
    refine gM fun K F=>?_;simp only[go_sem,len_beq,len_pos,hs,hm];refine gP (pf93 x.k x.sm z.sm) ?_;simp only[go_sem,len_beq,len_pos,hs,hm];apply F;clear F K;exact wr (gU [.tmp 2] [.c (.p (.bool (sckA x.k x.sm==0)))])
 have h3:x.k=3:=by simpa using hc
 rw[if_pos h3]
 refine Wc.skip (Wc.seqR (fun y=>(x.sm.length=0∧x.hs.length≠0∧x.hs.length≤2000)∧y.ds=[]∧y.e.length=88∧y.e.getD 1 .junk=.v (.c (.ref 0 0))∧OA y.s.nx y.s [] [(0,.cells (x.pd.map .p) false)]) ?_ ?_)
 ·refine Wc.seq ?_;cases hm:(x.sm.length==0) with
  |false =>
   rw[Bool.false_and]
   apply gR (by simp only[go_sem,len_beq,len_pos,hm];rfl);refine gG ?_;refine gY ?_;exact wr (gU [.tmp 2] [.c (.p (.bool false))])
  |true =>
   have y1:x.sm.length=0:=by simpa using hm
   cases hs:(x.hs.length==0) with
   |true =>
    have y2:x.hs.length=0:=by simpa using hs
    rw[validH_bad kO,Bool.and_false]
    apply gR (by simp only[go_sem,len_beq,len_pos,hm,hs];rfl);refine gG ?_;refine gY ?_;exact wr (gU [.tmp 2] [.c (.p (.bool false))])
   |false =>
    have y2:x.hs.length≠0:=by rw[beq_eq_false_iff_ne] at hs;exact hs
    apply gR (by simp only[go_sem,len_beq,len_pos,hm,hs];rfl);refine Wc.cond (t:=decide ((2000:Int)<x.hs.length)) kA (fun hc=>?_) (fun hc=>?_)
    ·have y3:(2000:Int)<x.hs.length:=of_decide_eq_true hc
     rw[validH_bad kO,Bool.and_false]
     refine gY ?_;exact wr (gU [.tmp 2] [.c (.p (.bool false))])
    ·have y3:¬ (2000:Int)<x.hs.length:=of_decide_eq_false hc
     refine Wc.skip ⟨kO,rfl,rfl,rfl,?_⟩
     have o0:=(s00_oa.adv (n:=2)).new (k:=0) (o:=.cells (x.pd.map .p) false) (Nat.le_refl _) rfl
     refine OA.mono (b:=0+1) ?_ (by simp only[St.nx_adv,St.nx_put];omega)
     repeat refine OA.adv ?_
     exact o0
 rintro⟨e,ds,s1⟩ ⟨⟨z1,z2,z3⟩,rfl,hlen,h1,ho⟩
 simp only at hlen h1 ho
 have e1:((x.sm.length==0)&&validH x.hs)=vh (prevH x.hs 0) (x.hs.drop 0):=by
  unfold validH
  have b1:(x.hs.length==0)=false:=by rw[beq_eq_false_iff_ne];exact z2
  have b2:(x.sm.length==0)=true:=by simpa using z1
  rw[b1,b2,decide_eq_true z3];rfl
 rw[e1]
 have eP:vh (prevH x.hs 0) (x.hs.drop 0)=vh (prevH x.hs 0) (x.hs.drop 0):=rfl
 generalize hV:vh (prevH x.hs 0) (x.hs.drop 0)=VV at eP ⊢;refine Wc.seqR (fun y=>VV=true∧y.ds=[]∧y.e.length=88) ?_ ?_
 ·apply gS (by simp only[go_sem,hlen,h1];rfl);refine Wc.block (Wc.loop (fun k y=>∃ i:Nat,k=x.hs.length-i∧i≤x.hs.length∧y.ds=[]∧y.e.length=88∧y.e.getD 1 .junk=.v (.c (.ref 0 0))∧y.e.getD 3 .junk=P' (pI i)∧OA y.s.nx y.s [] [(0,.cells (x.pd.map .p) false)]∧VV=vh (prevH x.hs i) (x.hs.drop i)∧(0<i→1≤prevH x.hs i)) ?_ (k:=x.hs.length) ?_)
  ·clear hlen h1 ho e s1;rintro k ⟨e,ds,s1⟩ ⟨i,rfl,hi,rfl,hlen,h1,h3,ho,hch,hpos⟩;simp only at hlen h1 h3 ho
   have g0:=ho.at_ (0,.cells (x.pd.map .p) false) kS
   simp only[gm] at g0;refine gO ?_;apply gR (by simp only[go_sem,hlen,h1,h3,g0];rfl);refine Wc.cond (t:=decide ((i:Int)<x.hs.length)) kL (fun hc=>?_) (fun hc=>?_)
   ·have hil : i < x.hs.length := by have : (i : Int) < x.hs.length := by simpa using hc
                                     omega
    obtain⟨u,hu⟩:=gE hil
    have hix:=ixA ti24 rfl ti152 (j:=i) (m:=x.hs.length) (cs:=x.hs.flatMap HSm.pd) hil hfl kD
    have hca:=rpA (off:=i*7) (drop_flat (f:=HSm.pd) (k:=7) (fun _=>rfl) hu) (by rw[hfl];omega)
    rw[vh_step hu] at hch
    have bad:(u.t≤prevH x.hs i∨1099511627776<u.t∨hck u.h≠0)→VV=false:=fun h=>by rw[hch,if_pos h]
    refine Wc.skip (Wc.seq (Wc.block (Wc.seqA (fun y=>∃ k4,y.ds=[]∧y.e.length=88∧y.e.getD 1 .junk=.v (.c (.ref 0 0))∧y.e.getD 3 .junk=P' (pI i)∧y.e.getD 4 .junk=.v (.c (.ref k4 0))∧OA y.s.nx y.s [] [(k4,.cells (u.pd.map .p) false),(0,.cells (x.pd.map .p) false)]) ?_ ?_)))
    ·apply gR (by simp only[go_sem,hlen,h1,h3,g0,hix,hca];rfl)
     refine⟨rfl,s1.nx+10,rfl,by simp only[go_sem,hlen],by simp only[go_sem,hlen,h1],by simp only[go_sem,hlen,h3],by simp only[go_sem,hlen],?_⟩
     have q1:=OA.set (M1:=[]) (o':=.cells (u.pd.map .p) false) (((ho.adv (n:=5)).adv (n:=7)).new (k:=s1.nx+10) (o:=.cells [.p (.int .i64 0),.p (.int .i64 0),.p (.int .i64 0),.p (.int .i64 0),.p (.int .i64 0),.p (.int .i64 0),.nils] false) kO rfl) rfl
     exact q1.mono kY
    clear hlen h1 h3 ho e s1 hc g0
    rintro⟨e,ds,s1⟩ ⟨k4,rfl,hlen,h1,h3,h4,ho⟩
    simp only at hlen h1 h3 h4 ho
    have g4:=ho.at_ (k4,.cells (u.pd.map .p) false) kS
    have g0:=ho.at_ (0,.cells (x.pd.map .p) false) kS
    simp only[gm] at g4 g0;refine Wc.mono (Q:=fun ex y=>(ex=.ret∧VV=false∧y.ds=[]∧y.e.length=88∧y.e.getD 2 .junk=P' (.bool false))∨(ex=.normal∧¬ (u.t≤prevH x.hs i∨1099511627776<u.t∨hck u.h≠0)∧y.ds=[]∧y.e.length=88∧y.e.getD 1 .junk=.v (.c (.ref 0 0))∧y.e.getD 3 .junk=P' (pI i)∧∃ n,y.s=s1.adv n)) ?_ ?_
    ·refine Wc.seq ?_
     have out:∀ {P:Prop},P→P:=id
     by_cases y1:u.t<1
     ·refine Wc.regD fun K F=>?_;simp only[go_sem,hlen,h1,h3,h4,g4,g0,y1];apply F;clear F K;apply gT kL;apply gS kM;refine Wc.ret (.inl ⟨rfl,bad (.inl ?_),rfl,by simp only[go_sem,hlen],by simp only[go_sem,hlen]⟩)
      by_cases hi0:0<i
      ·have:=hpos hi0;omega
      ·have hpr:prevH x.hs i=0:=by unfold prevH;rw[if_pos kO]
       omega
     by_cases y2:1099511627776<u.t
     ·refine Wc.regD fun K F=>?_;simp only[go_sem,hlen,h1,h3,h4,g4,g0,y1,y2];apply F;clear F K;apply gT kL;apply gS kM;exact wr (.inl ⟨rfl,bad (.inr (.inl y2)),rfl,by simp only[go_sem,hlen],by simp only[go_sem,hlen]⟩)
     by_cases hi0:0<i
     ·obtain⟨w,hw⟩:∃ w,x.hs[i-1]? = some w:=⟨x.hs[i-1],List.getElem?_eq_getElem kO⟩
      have hiy:=ixA ti24 rfl ti152 (j:=i-1) (m:=x.hs.length) (cs:=x.hs.flatMap HSm.pd) kO hfl kD
      have hcb:=rpA (off:=(i-1)*7) (drop_flat (f:=HSm.pd) (k:=7) (fun _=>rfl) hw) (by rw[hfl];omega)
      have e3:IntKind.i64.wrap ((i:Int)-1)=((i-1:Nat):Int):=by rw[wi64];omega
      have hd:(0<(i:Int))=True:=by simp;omega
      have hpr:prevH x.hs i=w.t:=by unfold prevH;rw[if_neg kO,hw];rfl
      by_cases y3:u.t≤w.t
      ·refine Wc.regD fun K F=>?_;simp only[go_sem,hlen,h1,h3,h4,g4,g0,y1,y2,y3,hiy,hcb,e3,hd];apply F;clear F K;apply gT kL;apply gS kM;exact wr (.inl ⟨rfl,bad (.inl kO),rfl,by simp only[go_sem,hlen],by simp only[go_sem,hlen]⟩)
      refine Wc.regD fun K F=>?_;simp only[go_sem,hlen,h1,h3,h4,g4,g0,y1,y2,y3,hiy,hcb,e3,hd]
      refine⟨by simp[o94,x94,plainD,plainV,plainC],?_⟩
      refine gP (pf94 u.h (z.hb u (gw hu))) ?_;simp only[go_sem,hlen,h1,h3,h4,g4,g0,y1,y2,y3,hiy,hcb,e3,hd];apply F;clear F K;refine Wc.cond (t:=(hck u.h != 0)) kL (fun hc=>?_) (fun hc=>?_)
      ·apply gS kM;exact wr (.inl ⟨rfl,bad (.inr (.inr (by simpa using hc))),rfl,by simp only[go_sem,hlen],by simp only[go_sem,hlen]⟩)
      ·have y4:hck u.h=0:=by simpa using hc
       exact Wc.skip (.inr ⟨rfl,kO,rfl,by simp only[go_sem,hlen],by simp only[go_sem,hlen,h1],by simp only[go_sem,hlen,h3],_,rfl⟩)
     ·have hd:(0<(i:Int))=False:=by simp;omega
      have hpr:prevH x.hs i=0:=by unfold prevH;rw[if_pos kO]
      refine Wc.regD fun K F=>?_;simp only[go_sem,hlen,h1,h3,h4,g4,g0,y1,y2,hd]
      refine⟨by simp[o94,x94,plainD,plainV,plainC],?_⟩
      refine gP (pf94 u.h (z.hb u (gw hu))) ?_;simp only[go_sem,hlen,h1,h3,h4,g4,g0,y1,y2,hd];apply F;clear F K;refine Wc.cond (t:=(hck u.h != 0)) kL (fun hc=>?_) (fun hc=>?_)
      ·apply gS kM;exact wr (.inl ⟨rfl,bad (.inr (.inr (by simpa using hc))),rfl,by simp only[go_sem,hlen],by simp only[go_sem,hlen]⟩)
      ·have y4:hck u.h=0:=by simpa using hc
       exact Wc.skip (.inr ⟨rfl,kO,rfl,by simp only[go_sem,hlen],by simp only[go_sem,hlen,h1],by simp only[go_sem,hlen,h3],_,rfl⟩)
    clear hlen h1 h3 h4 e;rintro ex ⟨e,ds,s2⟩ h9;rcases h9 with ⟨rfl,hvf,rfl,hlen,h2⟩|⟨rfl,hz,rfl,hlen,h1,h3,n1,rfl⟩
    ·simp only at hlen h2
     rw[hvf]
     exact Pf.ret [.tmp 2] [.c (.p (.bool false))] rfl rfl (by simp only[go_sem,hlen,h2]) rfl
    simp only at hlen h1 h3
    rw[if_neg hz] at hch
    have hpb:prevH x.hs (i+1)=u.t:=by simp[prevH,hu]
    have hpge:0≤prevH x.hs i:=by
     by_cases hi0:0<i
     ·have:=hpos hi0;omega
     ·unfold prevH;rw[if_pos kO];omega
    apply gR (by simp only[go_sem,hlen,h1,h3,i64n i kO];rfl)
    refine⟨x.hs.length-(i+1),kO,i+1,rfl,kO,rfl,by simp only[go_sem,hlen],by simp only[go_sem,hlen,h1],by simp only[go_sem,hlen],?_,hch,fun _=>kO⟩
    have q1:=ho.sub (List.Sublist.refl _) (List.sublist_cons_self _ _)
    refine OA.mono (b:=s1.nx) ?_ (by simp only[St.nx_adv];omega)
    repeat refine OA.adv ?_
    exact q1
   ·have hil : i = x.hs.length := by have : ¬ (i : Int) < x.hs.length := by simpa using hc
                                     omega
    rw[hil,List.drop_length] at hch
    exact Wc.exit ⟨hch,rfl,by simp only[go_sem,hlen]⟩
  ·refine⟨0,rfl,kO,rfl,by simp only[go_sem,hlen],by simp only[go_sem,hlen,h1],by simp only[go_sem,hlen];try rfl,?_,hV.symm,fun h=>kO⟩
   refine OA.mono (b:=s1.nx) ?_ (by simp only[St.nx_adv];omega)
   repeat refine OA.adv ?_
   exact ho
 ·rintro⟨e,ds,s1⟩ ⟨hch,rfl,hlen⟩
  simp only at hlen
  rw[hch]
  apply gS kM;exact wr (gV [.tmp 2] [.c (.p (.bool true))] kL)
end Go.Proofs.YtedcnhbblgmdnaaGreat.Ab
