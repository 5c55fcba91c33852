/- A part of the proof. -/
import Derived.Test.YtedcnhbblgmdnaaGreatT29
import Derived.Test.YtedcnhbblgmdnaaGreatT28
set_option maxHeartbeats 8000000
set_option maxRecDepth 10000
set_option linter.unusedSimpArgs false
set_option linter.unusedVariables false
namespace Go.Proofs.YtedcnhbblgmdnaaGreat.Ab
theorem b20:((2:Int) != 0)=true:=rfl
def lstR {A:Type}(ck:A→Int)(cmp:A→A→Int):Option A→List A→Int
 |_,[]=>0
 |none,y::t=>bif ck y != 0 then ck y else lstR ck cmp (some y) t
 |some q,y::t=>bif ck y != 0 then ck y else bif decide (0≤cmp q y) then 9 else lstR ck cmp (some y) t
def prevG {A:Type}(l:List A)(i:Nat):Option A:=if i=0 then none else l[i-1]?
def cmpG {A:Type}(cmp:A→A→Int)(q:Option A)(c:A):Int:=(q.map fun q=>cmp q c).getD (-1)
theorem lstR_step {A:Type}{ck:A→Int}{cmp:A→A→Int}{l:List A}{i:Nat}{c:A}(h:l[i]? = some c):lstR ck cmp (prevG l i) (l.drop i)=bif ck c != 0 then ck c else bif decide (0<i)&&decide (0≤cmpG cmp (l[i-1]?) c) then 9 else lstR ck cmp (prevG l (i+1)) (l.drop (i+1)):=by
 obtain⟨h1,h2⟩:=List.getElem?_eq_some_iff.1 h
 have hp:prevG l (i+1)=some c:=by simp[prevG,h]
 rw[List.drop_eq_getElem_cons h1,h2,hp]
 by_cases h0:i=0
 ·subst h0
  simp[prevG,lstR]
 ·have hq2:l[i-1]? = some l[i-1]:=List.getElem?_eq_getElem kO
  have hq:prevG l i=some l[i-1]:=by rw[prevG,if_neg h0,hq2]
  rw[hq,hq2,lstR,decide_eq_true (show 0<i by omega),Bool.true_and]
  rfl
theorem lstR_nil {A:Type}{ck:A→Int}{cmp:A→A→Int}(q:Option A):lstR ck cmp q []=0:=by
 cases q<;>rfl
def ckLk (y:I2):Int:=bif !isTr y.1 || !btw y.2 1 1152921504606846976 then 2 else 0
def lkC (l:List I2):Int:=bif decide (16<(l.length:Int)) then 4 else lstR ckLk cmpLk none l
theorem o215:E0.opn 215=false:=by kernel_rfl
theorem x215:E0.xt 215=none:=by kernel_rfl
theorem pf143 (l:List I2)(hl:l.length<2^60):Pf E0 143 [.c (.p (.lst l.length (l.flatMap p2)))] (P' (pI (lkC l))):=by
 have hfl:(l.flatMap p2).length=l.length*2:=flat_len (k:=2) (fun _=>rfl) l
 generalize hR:lkC l=R;unfold lkC at hR;refine gQ (fn:=Tryz.f143) ?_;simp only[gL,Tryz.ntmps143,Nat.reduceSub,Nat.reduceAdd];refine gY ?_;refine gO ?_;refine gZ ?_;cases k0:decide (16<(l.length:Int)) with
 |true =>
  simp only[k0,gC] at hR;subst hR;apply gT (by simp only[go_sem,k0]);refine gY ?_;exact wr (gU [.tmp 2] [.c (.p (pI 4))])
 |false =>
 simp only[k0,gC] at hR;apply gF (by simp only[go_sem,k0])
 have hR0:lstR ckLk cmpLk (prevG l 0) (l.drop 0)=R:=hR
 clear hR k0;refine Wc.seqR (fun y=>R=0∧y.ds=[]∧Fs y.e 38 []) ?_ ?_
 ·refine gY ?_;refine Wc.block (Wc.loop (fun k y=>∃ i:Nat,k=l.length-i∧(i≤l.length∧lstR ckLk cmpLk (prevG l i) (l.drop i)=R)∧y.ds=[]∧Fs y.e 38 [(0,P' (.lst l.length (l.flatMap p2))),(8,P' (.lst l.length (l.flatMap p2))),(9,P' (pI l.length)),(10,P' (pI i))]∧OA y.s.nx y.s [] []) ?_ (k:=l.length) ⟨0,rfl,⟨kO,hR0⟩,rfl,by simp only[go_sem],oW⟩);clear hR0;rintro k ⟨e,ds,s1⟩ ⟨i,rfl,⟨hi,hR⟩,rfl,hF,ho⟩;simp only[Fs] at hF ho;apply gS kG;refine Wc.seq ?_;refine Wc.cond (t:=decide ((i:Int)<l.length)) kF (fun hc=>?_) (fun hc=>?_)
  ·have hil:i<l.length:=gi hc
   obtain⟨c,hcc⟩:=gE hil
   rw[lstR_step hcc] at hR
   have hix:=ixA ti126 rfl ti234 (j:=i) (m:=l.length) (cs:=l.flatMap p2) hil hfl kD
   have hca:=rpG (f:=p2) (k:=2) (fun _=>rfl) hcc
   have p139:=pf139 c.1
   have p140:=pf140 c.2
   refine Wc.skip (Wc.seq (Wc.block (Wc.seqA (fun y=>∃ k4,y.ds=[]∧Fs y.e 38 [(0,P' (.lst l.length (l.flatMap p2))),(8,P' (.lst l.length (l.flatMap p2))),(9,P' (pI l.length)),(10,P' (pI i)),(3,P' (pI i)),(4,.v (.c (.ref k4 0)))]∧OA y.s.nx y.s [] [(k4,.cells ((p2 c).map .p) false)]) ?_ ?_)))
   ·apply gR (by simp only[go_sem,hF,hix,hca];rfl)
    exact⟨rfl,s1.nx+4,rfl,by simp only[go_sem,hF],by(try simp only[St.put_adv,St.adv_adv,St.put_put,gI]);repeat (first | exact oM ho | refine oN ?_ | refine oP ?_ | refine oA ?_)⟩
   clear hF ho e s1
   rintro⟨e,ds,s1⟩ ⟨k4,rfl,hF,ho⟩
   simp only[Fs] at hF ho
   have g4:=ho.at_ (k4,.cells ((p2 c).map .p) false) kS
   simp only[gm] at g4;refine gO ?_;cases k1:isTr c.1 with
   |false =>
    rw[k1] at p139
    have hk:ckLk c=2:=by unfold ckLk;rw[k1];rfl
    simp only[hk,b20,gC] at hR;subst hR;refine gM fun K F=>?_;simp only[go_sem,hF,g4];refine gP p139 ?_;simp only[go_sem,hF,Bool.not_false];apply F;clear F K;apply gT kF;apply gS kG;exact wr (gV [.tmp 2] [.c (.p (pI 2))] kF)
   |true =>
   rw[k1] at p139
   cases k2:btw c.2 1 1152921504606846976 with
   |false =>
    rw[k2] at p140
    have hk:ckLk c=2:=by unfold ckLk;rw[k1,k2];rfl
    simp only[hk,b20,gC] at hR;subst hR;refine gM fun K F=>?_;simp only[go_sem,hF,g4];refine gP p139 ?_;simp only[go_sem,hF,g4,Bool.not_true];refine gP p140 ?_;simp only[go_sem,hF,Bool.not_false];apply F;clear F K;apply gT kF;apply gS kG;exact wr (gV [.tmp 2] [.c (.p (pI 2))] kF)
   |true =>
   rw[k2] at p140
   have hk:ckLk c=0:=by unfold ckLk;rw[k1,k2];rfl
   simp only[hk,b00,gC] at hR;refine gM fun K F=>?_;simp only[go_sem,hF,g4];refine gP p139 ?_;simp only[go_sem,hF,g4,Bool.not_true];refine gP p140 ?_;simp only[go_sem,hF,Bool.not_true];apply F;clear F K;apply gF kF;refine Wc.cutR (fun y=>lstR ckLk cmpLk (prevG l (i+1)) (l.drop (i+1))=R∧y.ds=[]∧Fs y.e 38 [(0,P' (.lst l.length (l.flatMap p2))),(8,P' (.lst l.length (l.flatMap p2))),(9,P' (pI l.length)),(10,P' (pI i))]∧OA y.s.nx y.s [] []) ?_ ?_
   ·by_cases h0:i=0
    ·have hh:((0:Int)<(i:Int))=False:=by simp;omega
     have hd:decide (0<i)=false:=by simp;omega
     simp only[hd,gC] at hR;refine Wc.seq ?_;refine Wc.regT fun K F=>?_;simp only[go_sem,hF,hh];refine⟨by rw[trOK_eq3];rfl,F _ _ ?_⟩;clear F K;apply gF kF
     exact⟨hR,rfl,by simp only[go_sem,hF],by(try simp only[gI]);repeat (first | exact oM (ho.sub (List.Sublist.refl _) (List.nil_sublist _)) | refine oN ?_ | refine oA ?_)⟩
    ·have hh:((0:Int)<(i:Int))=True:=by simp;omega
     have hd:decide (0<i)=true:=by simp;omega
     obtain⟨q,hq⟩:∃ q,l[i-1]? = some q:=⟨l[i-1],List.getElem?_eq_getElem kO⟩
     have w1:IntKind.i64.wrap ((i:Int)-1)=((i-1:Nat):Int):=by rw[wi64];omega
     have hiq:=ixA ti126 rfl ti234 (j:=i-1) (m:=l.length) (cs:=l.flatMap p2) kO hfl kD
     have hcq:=rpG (f:=p2) (k:=2) (fun _=>rfl) hq
     have p215:=pf215 q c
     have hcp:cmpG cmpLk (l[i-1]?) c=cmpLk q c:=by rw[hq];rfl
     rw[hcp] at hR
     generalize cmpLk q c=V2 at hR p215;simp only[hd,gC] at hR;refine Wc.seq ?_;refine Wc.regT fun K F=>?_;simp only[go_sem,hF,hh,g4,w1,hiq,hcq];refine gP p215 ?_;simp only[go_sem,hF,o215,x215];refine⟨by rw[trOK_eq3];rfl,F _ _ ?_⟩;clear F K;refine Wc.cond (t:=decide (0≤V2)) kF (fun hc=>?_) (fun hc=>?_)
     ·simp only[hc,gC] at hR;subst hR;apply gS kG;exact wr (gV [.tmp 2] [.c (.p (pI 9))] kF)
     simp only[hc,gC] at hR;exact Wc.skip ⟨hR,rfl,by simp only[go_sem,hF],by(try simp only[gI]);repeat (first | exact oM (ho.sub (List.Sublist.refl _) (List.nil_sublist _)) | refine oN ?_ | refine oA ?_)⟩
   clear hF ho g4 e s1 hR
   rintro⟨e,ds,s1⟩ ⟨hR,rfl,hF,ho⟩
   simp only[Fs] at hF ho;apply gR kX
   exact⟨l.length-(i+1),kO,i+1,rfl,⟨kO,hR⟩,rfl,by simp only[go_sem,hF],oZ⟩
  ·have hil:i=l.length:=by have:=of_decide_eq_false hc;omega
   rw[hil,List.drop_length,lstR_nil] at hR
   exact Wc.exit ⟨hR.symm,rfl,by simp only[go_sem,hF]⟩
 rintro⟨e,ds,s1⟩ ⟨rfl,rfl,hF⟩
 simp only[Fs] at hF;apply gS kG;exact wr (gV [.tmp 2] [.c (.p (pI 0))] kF)
def chkP (x:Spn):Int:=bif !isTr x.tr || (!btw x.id 1 1152921504606846976 || (decide (x.pa<0) || decide (1152921504606846976<x.pa))) then 2 else bif x.pa==x.id then 27 else bif !nmL x.sv || !nmL x.nm then 5 else bif decide (x.st<x.tr / 1024) || (decide (1099511627776<x.st) || (decide (x.en<x.st) || decide (1099511627776<x.en))) then 2 else bif (x.ss != 0)&&(x.ss != 1) then 8 else bif lckA x.ab != 0 then lckA x.ab else lkC x.lk
structure Spn.Sz (x:Spn):Prop where
 lb:x.ab.length<2^40
 ls:∀ y∈x.ab,y.1.length<2^50∧y.2.length<2^50
 lk:x.lk.length<2^60
 tr : -2^63≤x.tr∧x.tr<2^63
 lt:∀ y∈x.lk,-2^63≤y.1∧y.1<2^63
theorem o142:E0.opn 142=false:=by kernel_rfl
theorem x142:E0.xt 142=none:=by kernel_rfl
theorem pf79 (x:Spn)(z:x.Sz):Pf E0 79 [.agg (x.pd.map .p)] (P' (pI (chkP x))):=by
 generalize hR:chkP x=R;unfold chkP at hR
 have p1:=pf139 x.tr
 have p2:=pf140 x.id
 have p3:=pf141 x.sv
 have p4:=pf141 x.nm
 have p5:=pf142 x.tr
 have hfd:x.tr.fdiv 1024=x.tr / 1024:=Int.fdiv_eq_ediv_of_nonneg _ kD
 have p6:=pf134 x.ab z.lb z.ls
 have p7:=pf143 x.lk z.lk
 refine gQ (fn:=Tryz.f79) ?_;simp only[gL,Tryz.ntmps79,Nat.reduceSub,Nat.reduceAdd];refine gY ?_;refine Wc.seq (Wc.block (Wc.seq ?_))
 rw[hfd] at p5
 cases k1:isTr x.tr with
 |false =>
  simp only[k1,gC] at hR;subst hR
  rw[k1] at p1
  refine gM fun K F=>?_;simp only[go_sem];refine gP p1 ?_;simp only[go_sem,Bool.not_false];apply F;clear F K;refine gG ?_;refine gY ?_;exact wr (gU [.tmp 2] [.c (.p (pI 2))])
 |true =>
 simp only[k1,gC] at hR
 rw[k1] at p1
 cases k2:btw x.id 1 1152921504606846976 with
 |false =>
  simp only[k2,gC] at hR;subst hR
  rw[k2] at p2
  refine gM fun K F=>?_;simp only[go_sem];refine gP p1 ?_;simp only[go_sem,Bool.not_true];refine gP p2 ?_;simp only[go_sem,Bool.not_false];apply F;clear F K;refine gG ?_;refine gY ?_;exact wr (gU [.tmp 2] [.c (.p (pI 2))])
 |true =>
 simp only[k2,gC] at hR
 rw[k2] at p2
 cases k3:decide (x.pa<0) with
 |true =>
  simp only[k3,gC] at hR;subst hR;refine gM fun K F=>?_;simp only[go_sem];refine gP p1 ?_;simp only[go_sem,Bool.not_true];refine gP p2 ?_;simp only[go_sem,Bool.not_true,k3];apply F;clear F K;apply gT (by simp only[go_sem,k3]);refine gY ?_;exact wr (gU [.tmp 2] [.c (.p (pI 2))])
 |false =>
 simp only[k3,gC] at hR;refine gM fun K F=>?_;simp only[go_sem];refine gP p1 ?_;simp only[go_sem,Bool.not_true];refine gP p2 ?_;simp only[go_sem,Bool.not_true,k3];apply F;clear F K;cases k4:decide (1152921504606846976<x.pa) with
 |true =>
  simp only[k4,gC] at hR;subst hR;apply gT (by simp only[go_sem,k4]);refine gY ?_;exact wr (gU [.tmp 2] [.c (.p (pI 2))])
 |false =>
 simp only[k4,gC] at hR;apply gX (by simp only[go_sem,k4]);refine gY ?_;cases k5:(x.pa==x.id) with
 |true =>
  simp only[k5,gC] at hR;subst hR;apply gT (by simp only[go_sem,k5]);refine gY ?_;exact wr (gU [.tmp 2] [.c (.p (pI 27))])
 |false =>
 simp only[k5,gC] at hR;apply gX (by simp only[go_sem,k5]);refine Wc.seq ?_;cases k6:nmL x.sv with
 |false =>
  simp only[k6,gC] at hR;subst hR
  rw[k6] at p3
  refine gM fun K F=>?_;simp only[go_sem];refine gP p3 ?_;simp only[go_sem,Bool.not_false];apply F;clear F K;refine gG ?_;refine gY ?_;exact wr (gU [.tmp 2] [.c (.p (pI 5))])
 |true =>
 simp only[k6,gC] at hR
 rw[k6] at p3
 refine gM fun K F=>?_;simp only[go_sem];refine gP p3 ?_;simp only[go_sem,Bool.not_true];refine gP p4 ?_;simp only[go_sem,Bool.not_true];apply F;clear F K;cases k7:nmL x.nm with
 |false =>
  simp only[k7,gC] at hR;subst hR;apply gT (by simp only[go_sem,k7,Bool.not_false]);refine gY ?_;exact wr (gU [.tmp 2] [.c (.p (pI 5))])
 |true =>
 simp only[k7,gC] at hR;apply gX (by simp only[go_sem,k7,Bool.not_true]);refine Wc.seq ?_;cases c1:decide (x.st<x.tr / 1024) with
 |true =>
  simp only[c1,gC] at hR;subst hR;refine Wc.regT fun K F=>?_;simp only[go_sem,c1];refine gP p5 ?_;simp only[go_sem,c1,o142,x142];refine⟨by rw[trOK_eq3];rfl,F _ _ ?_⟩;clear F K;apply gT (by simp only[go_sem,c1]);refine gY ?_;exact wr (gU [.tmp 2] [.c (.p (pI 2))])
 |false =>
 simp only[c1,gC] at hR;cases c2:decide (1099511627776<x.st) with
 |true =>
  simp only[c2,gC] at hR;subst hR;refine Wc.regT fun K F=>?_;simp only[go_sem,c1,c2];refine gP p5 ?_;simp only[go_sem,c1,c2,o142,x142];refine⟨by rw[trOK_eq3];rfl,F _ _ ?_⟩;clear F K;apply gT (by simp only[go_sem,c1,c2]);refine gY ?_;exact wr (gU [.tmp 2] [.c (.p (pI 2))])
 |false =>
 simp only[c2,gC] at hR;cases c3:decide (x.en<x.st) with
 |true =>
  simp only[c3,gC] at hR;subst hR;refine Wc.regT fun K F=>?_;simp only[go_sem,c1,c2,c3];refine gP p5 ?_;simp only[go_sem,c1,c2,c3,o142,x142];refine⟨by rw[trOK_eq3];rfl,F _ _ ?_⟩;clear F K;apply gT (by simp only[go_sem,c1,c2,c3]);refine gY ?_;exact wr (gU [.tmp 2] [.c (.p (pI 2))])
 |false =>
 simp only[c3,gC] at hR;cases c4:decide (1099511627776<x.en) with
 |true =>
  simp only[c4,gC] at hR;subst hR;refine Wc.regT fun K F=>?_;simp only[go_sem,c1,c2,c3,c4];refine gP p5 ?_;simp only[go_sem,c1,c2,c3,c4,o142,x142];refine⟨by rw[trOK_eq3];rfl,F _ _ ?_⟩;clear F K;apply gT (by simp only[go_sem,c1,c2,c3,c4]);refine gY ?_;exact wr (gU [.tmp 2] [.c (.p (pI 2))])
 |false =>
 simp only[c4,gC] at hR;refine Wc.regT fun K F=>?_;simp only[go_sem,c1,c2,c3,c4];refine gP p5 ?_;simp only[go_sem,c1,c2,c3,c4,o142,x142];refine⟨by rw[trOK_eq3];rfl,F _ _ ?_⟩;clear F K;apply gX (by simp only[go_sem,c1,c2,c3,c4]);refine Wc.seq ?_;cases k8:(x.ss != 0) with
 |true =>
  simp only[k8,gC] at hR;cases k9:(x.ss != 1) with
  |true =>
   simp only[k9,gC] at hR;subst hR;apply gR (by simp only[go_sem,k8,k9];rfl);apply gT (by simp only[go_sem,k8,k9]);refine gY ?_;exact wr (gU [.tmp 2] [.c (.p (pI 8))])
  |false =>
  simp only[k9,gC] at hR;apply gR (by simp only[go_sem,k8,k9];rfl);apply gX (by simp only[go_sem,k8,k9]);refine Wc.skip (Wc.seq (Wc.seq ?_));refine gM fun K F=>?_;simp only[go_sem];refine gP p6 ?_;simp only[go_sem];apply F;clear F K;refine gY ?_;generalize lckA x.ab=L at *;cases k:(L != 0) with
  |true =>
   simp only[k,gC] at hR;subst hR;apply gT (by simp only[go_sem,k]);refine gY ?_;exact wr (gU [.tmp 2] [.c (.p (pI L))])
  |false =>
  simp only[k,gC] at hR;subst hR;apply gF (by simp only[go_sem,k]);refine gN fun K F=>?_;simp only[go_sem];refine gP p7 ?_;simp only[go_sem];apply F;clear F K;exact wr (gU [.tmp 2] [.c (.p (pI (lkC x.lk)))])
 |false =>
 simp only[k8,gC] at hR;apply gR (by simp only[go_sem,k8];rfl);apply gX (by simp only[go_sem,k8]);refine Wc.skip (Wc.seq (Wc.seq ?_));refine gM fun K F=>?_;simp only[go_sem];refine gP p6 ?_;simp only[go_sem];apply F;clear F K;refine gY ?_;generalize lckA x.ab=L at *;cases k:(L != 0) with
 |true =>
  simp only[k,gC] at hR;subst hR;apply gT (by simp only[go_sem,k]);refine gY ?_;exact wr (gU [.tmp 2] [.c (.p (pI L))])
 |false =>
 simp only[k,gC] at hR;subst hR;apply gF (by simp only[go_sem,k]);refine gN fun K F=>?_;simp only[go_sem];refine gP p7 ?_;simp only[go_sem];apply F;clear F K;exact wr (gU [.tmp 2] [.c (.p (pI (lkC x.lk)))])
theorem pf78 (x:Spn)(z:x.Sz):Pf E0 78 [.agg (x.pd.map .p)] (P' (.bool (chkP x==0))):=by
 have p:=pf79 x z
 generalize chkP x=R at *;refine gQ (fn:=Tryz.f78) ?_;simp only[gL,Tryz.ntmps78,Nat.reduceSub,Nat.reduceAdd];refine gY ?_;refine gN fun K F=>?_;simp only[go_sem];refine gP p ?_;simp only[go_sem];apply F;clear F K;exact wr (gU [.tmp 2] [.c (.p (.bool (R==0)))])
theorem Pf.retP {E:Env}{fn:Func}{x:Fr}{d:D}(rs:List ResultVar)(hd:x.ds=[])(hrs:fn.results.toList=rs)(h:∃ vs,resultsD E x.e x.s rs=some vs∧∃ s3,purD x.s (packD vs)=some (d,s3)) :
  bodyQ E fn (fun d0 s2=>∃ s3,purD s2 d0=some (d,s3)) .ret x:=by
 obtain⟨vs,h1,s3,h2⟩:=h
 exact Pf.ret rs vs hd hrs h1 h2
theorem gy {E:Env}{fn:Func}{x:Fr}{d:D}(rs:List ResultVar)(h:∃ vs,resultsD E x.e x.s rs=some vs∧∃ s3,purD x.s (packD vs)=some (d,s3))(hd:x.ds=[]:=by rfl)(hrs:fn.results.toList=rs:=by rfl):bodyQ E fn (fun d0 s2=>∃ s3,purD s2 d0=some (d,s3)) .ret x:=Pf.retP rs hd hrs h
def Xf (E:Env)(g:Nat)(args:List V)(d:D):Prop:=∃ h,E.xt g=some h∧∀ s,h args s=some (d,s)
theorem wpCall.xf {E:Env}{g:Nat}{args:List D}{a:List V}{d:D}{s:St}{K:D→St→Prop}(h:Xf E g a d)(ha:vs? args=some a)(hk:K d s):wpCall E (.v (.c (.p (.fnc g)))) args s K:=by
 obtain⟨h,h1,h2⟩:=h
 exact wpCall.xt h1 ha (h2 s) hk
theorem leN_eq:∀ a b:List UInt8,leN a b = !(Op.bytesLess b a)
 |[],[]=>rfl
 |[],_::_=>rfl
 |_::_,[]=>rfl
 |x::a,y::b=>by
  have ih:=leN_eq a b
  unfold leN at ih ⊢;simp only[Op.bytesLess];rcases Nat.lt_trichotomy x.toNat y.toNat with h|h|h
  ·have h1:x<y:=UInt8.lt_iff_toNat_lt.2 h
   have h2:¬ y<x:=fun h3=>by have:=UInt8.lt_iff_toNat_lt.1 h3;omega
   have h3:(y==x)=false:=beq_eq_false_iff_ne.2 fun e=>by subst e;omega
   simp[h1,h2,h3]
  ·have h1:x=y:=UInt8.toNat_inj.1 h
   subst h1
   have h2:¬ x<x:=UInt8.lt_irrefl x
   simp only[h2,decide_false,Bool.false_or,beq_self_eq_true,Bool.true_and]
   rw[← ih]
   have:((x::a)==(x::b))=(a==b):=by simp
   rw[this]
  ·have h1:y<x:=UInt8.lt_iff_toNat_lt.2 h
   have h2:¬ x<y:=fun h3=>by have:=UInt8.lt_iff_toNat_lt.1 h3;omega
   have h3:(x==y)=false:=beq_eq_false_iff_ne.2 fun e=>by subst e;omega
   have h4:((x::a)==(y::b))=false:=by simp[h3]
   simp[h1,h2,h3,h4]
theorem topP_nil:topP [] = -1:=rfl
theorem topP_cons (a:Nat)(r:List Nat):topP (a::r)=(a:Int):=rfl
def parF (l:List Frm)(j:Nat):Int:=(getF l j).d
theorem pf261 (l:List Frm)(hl:l.length<2^60)(S:List Nat)(t:Int)(hch:Chn (parF l) S)(hS:∀ a∈S,a<l.length)(ht : -1≤t):Pf E0 261 [.c (.p (.lst l.length (l.flatMap Frm.pd))),.c (.p (pI t)),.c (.p (pI (topP S)))] (P' (.bool (ancB t S))):=by
 have hfl:(l.flatMap Frm.pd).length=l.length*3:=flat_len (k:=3) (fun _=>rfl) l
 generalize hR:ancB t S=R;refine gQ (fn:=Tryz.f261) ?_;simp only[gL,Tryz.ntmps261,Nat.reduceSub,Nat.reduceAdd];refine gY ?_;refine Wc.seqR (fun y=>∃ v,(v==t)=R∧y.ds=[]∧Fs y.e 18 [(1,P' (pI t)),(2,P' (pI v))]) ?_ ?_
 ·refine Wc.block (Wc.loop (fun k y=>∃ S:List Nat,k=S.length∧Chn (parF l) S∧(∀ a∈S,a<l.length)∧ancB t S=R∧y.ds=[]∧Fs y.e 18 [(0,P' (.lst l.length (l.flatMap Frm.pd))),(1,P' (pI t)),(2,P' (pI (topP S)))]) ?_ (k:=S.length) ⟨S,rfl,hch,hS,hR,rfl,by simp only[go_sem]⟩);clear hR hch hS;rintro k ⟨e,ds,s1⟩ ⟨S,rfl,hch,hS,hR,rfl,hF⟩;simp only[Fs] at hF;refine gO ?_;cases S with
  |nil =>
   simp only[topP_nil] at hF
   have h1:decide (t<(-1:Int))=false:=decide_eq_false kO
   apply gR kG;apply gX (by simp only[go_sem,hF,h1]);refine Wc.exit ⟨topP [],?_,rfl,by simp only[go_sem,hF,topP_nil]⟩
   rw[← hR,ancB,topP,Bool.eq_iff_iff,beq_iff_eq,decide_eq_true_iff]
  |cons a r =>
   simp only[topP_cons] at hF;apply gR kG;refine Wc.cond (t:=decide (t<(a:Int))) kF (fun hc=>?_) (fun hc=>?_)
   ·have h1:=of_decide_eq_true hc
    have ha:a<l.length:=hS a (List.mem_cons_self ..)
    obtain⟨c,hcc⟩:=gE ha
    have hd:c.d=topP r:=by have:=hch.1;unfold parF getF at this;rw[hcc] at this;exact this
    have hix:=ixA ti104 rfl ti170 (j:=a) (m:=l.length) (cs:=l.flatMap Frm.pd) ha hfl kD
    have hca:=rpG (f:=Frm.pd) (k:=3) (fun _=>rfl) hcc
    refine Wc.skip (Wc.block ?_);apply gR (by simp only[go_sem,hF,hix,hca,hd];rfl)
    exact⟨r.length,by simp,r,rfl,hch.2.2,fun b hb=>hS b (List.mem_cons_of_mem _ hb),by rw[← hR,ancB,if_pos h1],rfl,by simp only[go_sem,hF]⟩
   ·have h1:=of_decide_eq_false hc
    refine Wc.exit ⟨topP (a::r),?_,rfl,by simp only[go_sem,hF,topP_cons]⟩
    rw[← hR,ancB,if_neg h1,topP,Bool.eq_iff_iff,beq_iff_eq,decide_eq_true_iff]
 rintro⟨e,ds,s1⟩ ⟨v,hv,rfl,hF⟩
 simp only[Fs] at hF;apply gS (by simp only[go_sem,hF,hv];rfl);exact wr (gy [.tmp 6] (by simp only[go_sem,hF];exact⟨_,rfl,_,rfl⟩))
theorem pf263 (l:List Frm)(hl:l.length<2^60)(S:List Nat)(i:Nat)(hi:i<l.length)(hp:parF l i=topP S)(hch:Chn (parF l) S)(hS:∀ a∈S,a<l.length):Pf E0 263 [.c (.p (.lst l.length (l.flatMap Frm.pd))),.c (.p (pI i))] (P' (pI S.length)):=by
 have hfl:(l.flatMap Frm.pd).length=l.length*3:=flat_len (k:=3) (fun _=>rfl) l
 have hn:∀ T:List Nat,Chn (parF l) T→(∀ a∈T,a<l.length)→T.length≤(topP T+1).toNat:=by
  intro T
  induction T with
  |nil=>intro _ _;simp[topP]
  |cons a r ih =>
   intro h1 h2
   have h3:=ih h1.2.2 fun b hb=>h2 b (List.mem_cons_of_mem _ hb)
   have h4:=h1.2.1
   have h5:=topP_ge r
   simp only[topP,List.length_cons];omega
 have hSl:S.length≤l.length:=by
  have h1:=hn S hch hS
  cases S with
  |nil=>simp
  |cons a r=>have h2:=hS a (List.mem_cons_self ..);simp only[topP] at h1;omega
 generalize hR:S.length=R at hSl;refine gQ (fn:=Tryz.f263) ?_;simp only[gL,Tryz.ntmps263,Nat.reduceSub,Nat.reduceAdd];refine gY ?_;refine gY ?_;refine Wc.seqR (fun y=>y.ds=[]∧Fs y.e 20 [(5,P' (pI R))]) ?_ ?_
 ·refine Wc.block (Wc.loop (fun k y=>∃(S:List Nat) (i n:Nat),k=S.length∧i<l.length∧parF l i=topP S∧Chn (parF l) S∧(∀ a∈S,a<l.length)∧n+S.length=R∧y.ds=[]∧Fs y.e 20 [(0,P' (.lst l.length (l.flatMap Frm.pd))),(1,P' (pI i)),(5,P' (pI n))]) ?_ (k:=S.length) ⟨S,i,0,rfl,hi,hp,hch,hS,kO,rfl,by simp only[go_sem]⟩);clear hR hch hS hp hi i;rintro k ⟨e,ds,s1⟩ ⟨S,i,n,rfl,hi,hp,hch,hS,hR,rfl,hF⟩;simp only[Fs] at hF
  obtain⟨c,hcc⟩:=gE hi
  have hd:c.d=topP S:=by unfold parF getF at hp;rw[hcc] at hp;exact hp
  have hix:=ixA ti104 rfl ti170 (j:=i) (m:=l.length) (cs:=l.flatMap Frm.pd) hi hfl kD
  have hca:=rpG (f:=Frm.pd) (k:=3) (fun _=>rfl) hcc
  refine gO ?_;cases S with
  |nil =>
   rw[topP_nil] at hd
   have h1:decide ((0:Int)≤-1)=false:=by decide
   apply gR (by simp only[go_sem,hF,hix,hca,hd];rfl);apply gX (by simp only[go_sem,hF,h1])
   have:n=R:=by simpa using hR
   subst this;exact Wc.exit ⟨rfl,by simp only[go_sem,hF]⟩
  |cons a r =>
   rw[topP_cons] at hd
   have h1:decide ((0:Int)≤(a:Int))=true:=decide_eq_true kO
   apply gR (by simp only[go_sem,hF,hix,hca,hd];rfl);apply gT (by simp only[go_sem,hF,h1]);refine Wc.skip (Wc.block ?_);apply gS (by simp only[go_sem,hF,hix,hca,hd];rfl);apply gR (by simp only[go_sem,hF,i64n n kO];rfl)
   refine⟨r.length,by simp,r,a,n+1,rfl,hS a (List.mem_cons_self ..),hch.1,hch.2.2,fun b hb=>hS b (List.mem_cons_of_mem _ hb),by simp at hR;omega,rfl,by simp only[go_sem,hF]⟩
 rintro⟨e,ds,s1⟩ ⟨rfl,hF⟩
 simp only[Fs] at hF;apply gS kG;exact wr (gy [.tmp 4] (by simp only[go_sem,hF];exact⟨_,rfl,_,rfl⟩))
theorem pf262 (l:List Frm)(hl:l.length<2^60)(S:List Nat)(i:Nat)(hi:i<l.length)(hS:Stk (parF l) i S)(ht : -1≤parF l i)(hok:(popTo (parF l i) S (-1)).2≠[]∨parF l i = -1):Pf E0 262 [.c (.p (.lst l.length (l.flatMap Frm.pd))),.c (.p (pI i))] (P' (pI (popTo (parF l i) S (-1)).1)):=by
 have hfl:(l.flatMap Frm.pd).length=l.length*3:=flat_len (k:=3) (fun _=>rfl) l
 have hps:=pop_sib (-1) _ hS.ch hS.sub rfl hok ht
 obtain⟨c,hcc⟩:=gE hi
 have hd:c.d=parF l i:=by unfold parF getF;rw[hcc];rfl
 have hix:=ixA ti104 rfl ti170 (j:=i) (m:=l.length) (cs:=l.flatMap Frm.pd) hi hfl kD
 have hca:=rpG (f:=Frm.pd) (k:=3) (fun _=>rfl) hcc
 have htop:=hS.top
 have hmem:∀ a∈S,(a:Int)≤i-1:=fun a ha=>by have:=Chn.lt hS.ch a ha;omega
 have hall:=hS.all
 generalize hT:parF l i=t at *
 have hps':((popTo t S (-1)).1 = -1∧t=i-1)∨∃ b:Nat,(popTo t S (-1)).1=b∧(b:Int)≤i-1∧parF l b=t∧t<b∧∀ k:Nat,b<k→k<i→parF l k≠t:=by
  rcases hps with ⟨h1,h2⟩|⟨b,h1,h2,h3,h4,_,h6⟩
  ·exact .inl ⟨by rw[h1],kO⟩
  ·exact .inr ⟨b,h1,hmem b h2,h3,h4,h6⟩
 generalize (popTo t S (-1)).1=R at *;clear hps hmem hok hS htop
 have w1:IntKind.i64.wrap ((i:Int)-1)=(i:Int)-1:=by rw[wi64];omega
 have htl:t≤(i:Int)-1:=by
  rcases hps' with ⟨_,h⟩|⟨b,_,h,_,h2,_⟩<;>omega
 refine gQ (fn:=Tryz.f262) ?_;simp only[gL,Tryz.ntmps262,Nat.reduceSub,Nat.reduceAdd];refine gY ?_;refine Wc.seqR (fun y=>R = -1∧y.ds=[]∧Fs y.e 29 []) ?_ ?_
 ·apply gS (by simp only[go_sem,w1];rfl);refine Wc.block (Wc.loop (fun k y=>∃ j:Int,k=(j-t).toNat∧t≤j∧j≤(i:Int)-1∧(∀ k:Nat,j<k→k<i→parF l k≠t)∧y.ds=[]∧Fs y.e 29 [(0,P' (.lst l.length (l.flatMap Frm.pd))),(1,P' (pI i)),(5,P' (pI j))]) ?_ (k:=((i:Int)-1-t).toNat) ⟨(i:Int)-1,rfl,htl,kO,fun k h1 h2=>kO,rfl,by simp only[go_sem]⟩);rintro k ⟨e,ds,s1⟩ ⟨j,rfl,hj1,hj2,hj3,rfl,hF⟩;simp only[Fs] at hF;refine gO ?_;apply gR (by simp only[go_sem,hF,hix,hca,hd];rfl);refine Wc.cond (t:=decide (t<j)) kF (fun hc=>?_) (fun hc=>?_)
  ·have h1:=of_decide_eq_true hc
   obtain⟨m,rfl⟩:∃ m:Nat,j=m:=⟨j.toNat,kO⟩
   have hm:m<l.length:=kO
   obtain⟨c2,hc2⟩:=gE hm
   have hd2:c2.d=parF l m:=by unfold parF getF;rw[hc2];rfl
   have hix2:=ixA ti104 rfl ti170 (j:=m) (m:=l.length) (cs:=l.flatMap Frm.pd) hm hfl kD
   have hca2:=rpG (f:=Frm.pd) (k:=3) (fun _=>rfl) hc2
   have w2:IntKind.i64.wrap ((m:Int)-1)=(m:Int)-1:=by rw[wi64];omega
   refine Wc.skip (Wc.seq (Wc.block (Wc.seq ?_)));refine Wc.regD fun K F=>?_;simp only[go_sem,hF,hix,hca,hd,hix2,hca2,hd2];apply F;clear F K;refine Wc.cond (t:=parF l m==t) kF (fun hc=>?_) (fun hc=>?_)
   ·have h2:parF l m=t:=by simpa using hc
    have hRm:R=m:=by
     rcases hps' with ⟨_,h3⟩|⟨b,h3,h4,h5,h6,h7⟩
     ·omega
     ·have h8:¬ ((m:Int)<b):=fun hh=>hj3 b hh kO h5
      have h9:¬ (b<m):=fun hh=>h7 m hh kO h2
      omega
    subst hRm;apply gS kG;exact wr (gy [.tmp 4] (by simp only[go_sem,hF];exact⟨_,rfl,_,rfl⟩))
   ·have h2:parF l m≠t:=by simpa using hc
    refine Wc.skip ?_;apply gR (by simp only[go_sem,hF,w2];rfl)
    refine⟨((m:Int)-1-t).toNat,kO,(m:Int)-1,rfl,kO,kO,fun k h3 h4=>?_,rfl,by simp only[go_sem,hF]⟩
    by_cases h5:k=m
    ·subst h5;exact h2
    ·exact hj3 k kO h4
  ·have h1:=of_decide_eq_false hc
   refine Wc.exit ⟨?_,rfl,by simp only[go_sem,hF]⟩;rcases hps' with ⟨h3,_⟩|⟨b,h3,h4,h5,h6,h7⟩
   ·exact h3
   ·exact absurd h5 (hj3 b kO kO)
 rintro⟨e,ds,s1⟩ ⟨rfl,rfl,hF⟩
 simp only[Fs] at hF;apply gS kG;exact wr (gy [.tmp 4] (by simp only[go_sem,hF];exact⟨_,rfl,_,rfl⟩))
theorem nodeE_ok {l:List Frm}{S:List Nat}{i:Nat}{x:Frm}(h:nodeE l S i x=0) : -1≤x.d∧((popTo x.d S (-1)).2≠[]∨x.d = -1):=by
 unfold nodeE at h
 have hc:((popTo x.d S (-1)).2.isEmpty&&(x.d != -1))=false:=by
  cases h1 : !nmL x.nm with
  |true=>rw[h1,cond_true] at h;cases h
  |false =>
   rw[h1,cond_false] at h
   cases h2 : !btw x.w (-1099511627776) 1099511627776 with
   |true=>rw[h2,cond_true] at h;cases h
   |false =>
    rw[h2,cond_false] at h
    cases h3:(popTo x.d S (-1)).2.isEmpty&&(x.d != -1) with
    |true=>rw[h3,cond_true] at h;cases h
    |false=>rfl
 have hok:(popTo x.d S (-1)).2≠[]∨x.d = -1:=by
  rw[Bool.and_eq_false_iff] at hc
  rcases hc with hc|hc
  ·exact .inl fun e=>by rw[e] at hc;cases hc
  ·exact .inr (by simpa using hc)
 refine⟨?_,hok⟩
 rcases hok with h1|h1
 ·by_cases h2 : -1≤x.d
  ·exact h2
  ·exact absurd (popTo_none _ fun a _=>kO) h1
 ·omega
theorem Stk.lt {l:List Frm}{i:Nat}{S:List Nat}(h:Stk (parF l) i S)(hi:i≤l.length):∀ a∈S,a<l.length:=fun a ha=>by
 have:=Chn.lt h.ch a ha
 have:=h.top
 omega
theorem pop_topP {t:Int}{S:List Nat}(h:(popTo t S (-1)).2≠[]∨t = -1):topP (popTo t S (-1)).2=t:=by
 rcases popTo_top (t:=t) S (-1) with h1|h1
 ·rcases h with h2|h2
  ·exact absurd h1 h2
  ·rw[h1,h2];rfl
 ·exact h1
theorem pf233 (l:List Frm)(hl:l.length<2^60)(S:List Nat)(i:Nat)(hi:i<l.length)(hS:Stk (parF l) i S):Pf E0 233 [.c (.p (.lst l.length (l.flatMap Frm.pd))),.c (.p (pI i))] (P' (pI (nodeE l S i (getF l i)))):=by
 have hfl:(l.flatMap Frm.pd).length=l.length*3:=flat_len (k:=3) (fun _=>rfl) l
 obtain⟨c,hcc⟩:=gE hi
 have hg:getF l i=c:=by unfold getF;rw[hcc];rfl
 have hd:parF l i=c.d:=by unfold parF;rw[hg]
 rw[hg]
 generalize hR:nodeE l S i c=R;unfold nodeE at hR
 rw[← par_eq hS,leN_eq] at hR
 have p259:=pf259 c.nm
 have p260:=pf260 c.w
 have hix:=ixA ti104 rfl ti170 (j:=i) (m:=l.length) (cs:=l.flatMap Frm.pd) hi hfl kD
 have hca:=rpG (f:=Frm.pd) (k:=3) (fun _=>rfl) hcc
 have w1:IntKind.i64.wrap ((i:Int)-1)=topP S:=by rw[wi64,hS.top];omega
 have w2:IntKind.i64.wrap ((i:Int)+1)=(i:Int)+1:=by rw[wi64];omega
 have hSl:=hS.lt (Nat.le_of_lt hi)
 have hps:=fun h1 h2=>pop_sib (t:=c.d) (-1) _ hS.ch hS.sub rfl h1 h2
 refine gQ (fn:=Tryz.f233) ?_;simp only[gL,Tryz.ntmps233,Nat.reduceSub,Nat.reduceAdd];apply gS (by simp only[go_sem,hix,hca];rfl);apply gS (by simp only[go_sem,hix,hca];rfl);refine Wc.seq ?_;refine gN fun K F=>?_;simp only[go_sem,hix,hca];refine gP p259 ?_;simp only[go_sem,hix,hca];apply F;clear F K;rcases (gK (nmL c.nm)).symm with w0_1|w0_1
 ·simp only[w0_1,gC] at hR;apply gT (by simp only[go_sem,hix,hca,w0_1]);apply gS (by simp only[go_sem,hix,hca,w0_1];rfl);subst hR;exact wr (gy [.tmp 4] (by simp only[go_sem,hix,hca,w0_1];exact⟨_,rfl,_,rfl⟩))
 simp only[w0_1,gC] at hR;apply gX (by simp only[go_sem,hix,hca,w0_1]);refine Wc.skip ?_;refine Wc.seq ?_;refine gN fun K F=>?_;simp only[go_sem,hix,hca,w0_1];refine gP p260 ?_;simp only[go_sem,hix,hca,w0_1];apply F;clear F K;rcases (gK (btw c.w (-1099511627776:Int) (1099511627776:Int))).symm with w0_2|w0_2
 ·simp only[w0_2,gC] at hR;apply gT (by simp only[go_sem,hix,hca,w0_1,w0_2]);apply gS (by simp only[go_sem,hix,hca,w0_1,w0_2];rfl);subst hR;exact wr (gy [.tmp 4] (by simp only[go_sem,hix,hca,w0_1,w0_2];exact⟨_,rfl,_,rfl⟩))
 simp only[w0_2,gC] at hR;apply gX (by simp only[go_sem,hix,hca,w0_1,w0_2]);refine Wc.skip ?_;refine gO ?_;cases c1:decide (c.d < -1) with
 |true =>
  simp only[c1,gC] at hR;apply gR (by simp only[go_sem,c1];rfl);apply gT (by simp only[go_sem,c1]);apply gS (by simp only[go_sem,c1];rfl);subst hR;exact wr (gy [.tmp 4] (by simp only[go_sem,c1];exact⟨_,rfl,_,rfl⟩))
 |false =>
 simp only[c1,gC] at hR;cases c2:decide ((i:Int)≤c.d) with
 |true =>
  simp only[c2,gC] at hR;apply gR (by simp only[go_sem,c1,c2];rfl);apply gT (by simp only[go_sem,c1,c2]);apply gS (by simp only[go_sem,c1,c2];rfl);subst hR;exact wr (gy [.tmp 4] (by simp only[go_sem,c1,c2];exact⟨_,rfl,_,rfl⟩))
 |false =>
 simp only[c2,gC] at hR
 have ht : -1≤c.d:=by have:=of_decide_eq_false c1;omega
 have p261:=pf261 l hl S c.d hS.ch hSl ht
 cases c3:ancB c.d S with
 |false =>
  rw[c3] at p261
  simp only[c3,gC] at hR;refine gM fun K F=>?_;simp only[go_sem,c1,c2,w1];refine gP p261 ?_;simp only[go_sem,c1,c2,w1];apply F;clear F K;apply gT (by simp only[go_sem,c1,c2,w1]);apply gS (by simp only[go_sem,c1,c2,w1];rfl);subst hR;exact wr (gy [.tmp 4] (by simp only[go_sem,c1,c2,w1];exact⟨_,rfl,_,rfl⟩))
 |true =>
 have hok:(popTo c.d S (-1)).2≠[]∨c.d = -1:=((ancB_pop ht (-1) hS.ch).1 c3).symm
 rw[c3] at p261
 simp only[c3,gC] at hR
 have p262:=pf262 l hl S i hi hS (by rw[hd];exact ht) (by rw[hd];exact hok)
 rw[hd] at p262
 have p263:=pf263 l hl (popTo c.d S (-1)).2 i hi (by rw[hd,pop_topP hok]) (popTo_ch (-1) hS.ch) (fun a ha=>hSl a (popTo_mem _ _ a ha))
 have hps:=hps hok ht
 have hps':(popTo c.d S (-1)).1 = -1∨∃ b:Nat,(popTo c.d S (-1)).1=b∧b<l.length:=by
  rcases hps with ⟨h1,h2⟩|⟨b,h1,h2,_⟩
  ·exact .inl (by rw[h1])
  ·exact .inr ⟨b,h1,hSl b h2⟩
 generalize (popTo c.d S (-1)).1=Z at *;generalize (popTo c.d S (-1)).2=S2 at *;clear hps hok hS;refine gM fun K F=>?_;simp only[go_sem,c1,c2,w1];refine gP p261 ?_;simp only[go_sem,c1,c2,w1];apply F;clear F K;apply gX (by simp only[go_sem,c1,c2,w1]);refine Wc.skip ?_;refine Wc.seq ?_;refine gN fun K F=>?_;simp only[go_sem,c1,c2,w1];refine gP p262 ?_;simp only[go_sem,c1,c2,w1];apply F;clear F K;refine Wc.seq ?_;rcases hps' with rfl|⟨b,rfl,hb⟩
 ·simp only[(by decide:decide ((0:Int)≤-1)=false),gC] at hR;refine Wc.regD fun K F=>?_;simp only[go_sem,c1,c2,w1];apply F;clear F K;apply gX (by simp only[go_sem,c1,c2,w1]);refine Wc.skip ?_;refine Wc.seq ?_;refine gN fun K F=>?_;simp only[go_sem,c1,c2,w1];refine gP p263 ?_;simp only[go_sem,c1,c2,w1];apply F;clear F K;rcases gK (decide ((63:Int)<(↑S2.length:Int))) with w5_1|w5_1
  ·simp only[w5_1,gC] at hR;apply gT (by simp only[go_sem,c1,c2,w1,w5_1]);apply gS (by simp only[go_sem,c1,c2,w1,w5_1];rfl);subst hR;exact wr (gy [.tmp 4] (by simp only[go_sem,c1,c2,w1,w5_1];exact⟨_,rfl,_,rfl⟩))
  simp only[w5_1,gC] at hR;apply gX (by simp only[go_sem,c1,c2,w1,w5_1]);refine Wc.skip ?_;refine gO ?_
  by_cases hk:i+1=l.length
  ·have e1:((i:Int)+1==(l.length:Int))=true:=by rw[beq_iff_eq];omega
   simp only[e1,gC] at hR;rcases gK (c.w==(0:Int)) with w6_1|w6_1
   ·simp only[w6_1,gC] at hR;apply gR (by simp only[go_sem,w2,e1,w6_1];rfl);apply gT (by simp only[go_sem,w2,e1,w6_1]);apply gS (by simp only[go_sem,w2,e1,w6_1];rfl);subst hR;exact wr (gy [.tmp 4] (by simp only[go_sem,w2,e1,w6_1];exact⟨_,rfl,_,rfl⟩))
   simp only[w6_1,gC] at hR;apply gR (by simp only[go_sem,w2,e1,w6_1];rfl);apply gX (by simp only[go_sem,w2,e1,w6_1]);refine Wc.skip ?_;apply gS (by simp only[go_sem,w2,e1,w6_1];rfl);subst hR;exact wr (gy [.tmp 4] (by simp only[go_sem,w2,e1,w6_1];exact⟨_,rfl,_,rfl⟩))
  ·have e1:((i:Int)+1==(l.length:Int))=false:=by rw[beq_eq_false_iff_ne];omega
   obtain⟨c',hc'⟩:∃ c',l[i+1]? = some c':=⟨l[i+1],List.getElem?_eq_getElem kO⟩
   have hg':getF l (i+1)=c':=by unfold getF;rw[hc'];rfl
   have hix2:=ixA ti104 rfl ti170 (j:=i+1) (m:=l.length) (cs:=l.flatMap Frm.pd) kO hfl kD
   have e2:((i+1:Nat):Int)=(i:Int)+1:=kO
   rw[e2] at hix2
   have hca2:=rpG (f:=Frm.pd) (k:=3) (fun _=>rfl) hc'
   simp only[e1,hg',gC] at hR;rcases gK (c.w==(0:Int)) with w7_1|w7_1
   ·simp only[w7_1,gC] at hR;apply gR (by simp only[go_sem,w2,e1,hix2,hca2,w7_1];rfl);rcases gK (c'.d !=(↑i:Int)) with w7_2|w7_2
    ·simp only[w7_2,gC] at hR;apply gT (by simp only[go_sem,w2,e1,hix2,hca2,w7_1,w7_2]);apply gS (by simp only[go_sem,w2,e1,hix2,hca2,w7_1,w7_2];rfl);subst hR;exact wr (gy [.tmp 4] (by simp only[go_sem,w2,e1,hix2,hca2,w7_1,w7_2];exact⟨_,rfl,_,rfl⟩))
    simp only[w7_2,gC] at hR;apply gX (by simp only[go_sem,w2,e1,hix2,hca2,w7_1,w7_2]);refine Wc.skip ?_;apply gS (by simp only[go_sem,w2,e1,hix2,hca2,w7_1,w7_2];rfl);subst hR;exact wr (gy [.tmp 4] (by simp only[go_sem,w2,e1,hix2,hca2,w7_1,w7_2];exact⟨_,rfl,_,rfl⟩))
   simp only[w7_1,gC] at hR;apply gR (by simp only[go_sem,w2,e1,hix2,hca2,w7_1];rfl);apply gX (by simp only[go_sem,w2,e1,hix2,hca2,w7_1]);refine Wc.skip ?_;apply gS (by simp only[go_sem,w2,e1,hix2,hca2,w7_1];rfl);subst hR;exact wr (gy [.tmp 4] (by simp only[go_sem,w2,e1,hix2,hca2,w7_1];exact⟨_,rfl,_,rfl⟩))
 ·obtain⟨cb,hcb⟩:∃ c',l[b]? = some c':=⟨l[b],List.getElem?_eq_getElem hb⟩
  have hgb:getF l b=cb:=by unfold getF;rw[hcb];rfl
  have hixb:=ixA ti104 rfl ti170 (j:=b) (m:=l.length) (cs:=l.flatMap Frm.pd) hb hfl kD
  have hcab:=rpGo (f:=Frm.pd) (k:=3) (o:=1) (fun _=>rfl) hcb kD
  simp only[Frm.pd,List.drop_succ_cons,List.drop_zero] at hcab;simp only[Int.natCast_nonneg,decide_true,Int.toNat_natCast,hgb,gC] at hR;refine Wc.regD fun K F=>?_;simp only[go_sem,c1,c2,w1,hixb,hcab];apply F;clear F K;rcases (gK (Op.bytesLess cb.nm c.nm)).symm with w8_1|w8_1
  ·simp only[w8_1,gC] at hR;apply gT (by simp only[go_sem,c1,c2,w1,hixb,hcab,w8_1]);apply gS (by simp only[go_sem,c1,c2,w1,hixb,hcab,w8_1];rfl);subst hR;exact wr (gy [.tmp 4] (by simp only[go_sem,c1,c2,w1,hixb,hcab,w8_1];exact⟨_,rfl,_,rfl⟩))
  simp only[w8_1,gC] at hR;apply gX (by simp only[go_sem,c1,c2,w1,hixb,hcab,w8_1]);refine Wc.skip ?_;refine Wc.seq ?_;refine gN fun K F=>?_;simp only[go_sem,c1,c2,w1,hixb,hcab,w8_1];refine gP p263 ?_;simp only[go_sem,c1,c2,w1,hixb,hcab,w8_1];apply F;clear F K;rcases gK (decide ((63:Int)<(↑S2.length:Int))) with w8_2|w8_2
  ·simp only[w8_2,gC] at hR;apply gT (by simp only[go_sem,c1,c2,w1,hixb,hcab,w8_1,w8_2]);apply gS (by simp only[go_sem,c1,c2,w1,hixb,hcab,w8_1,w8_2];rfl);subst hR;exact wr (gy [.tmp 4] (by simp only[go_sem,c1,c2,w1,hixb,hcab,w8_1,w8_2];exact⟨_,rfl,_,rfl⟩))
  simp only[w8_2,gC] at hR;apply gX (by simp only[go_sem,c1,c2,w1,hixb,hcab,w8_1,w8_2]);refine Wc.skip ?_;refine gO ?_
  by_cases hk:i+1=l.length
  ·have e1:((i:Int)+1==(l.length:Int))=true:=by rw[beq_iff_eq];omega
   simp only[e1,gC] at hR;rcases gK (c.w==(0:Int)) with w9_1|w9_1
   ·simp only[w9_1,gC] at hR;apply gR (by simp only[go_sem,w2,e1,w9_1];rfl);apply gT (by simp only[go_sem,w2,e1,w9_1]);apply gS (by simp only[go_sem,w2,e1,w9_1];rfl);subst hR;exact wr (gy [.tmp 4] (by simp only[go_sem,w2,e1,w9_1];exact⟨_,rfl,_,rfl⟩))
   simp only[w9_1,gC] at hR;apply gR (by simp only[go_sem,w2,e1,w9_1];rfl);apply gX (by simp only[go_sem,w2,e1,w9_1]);refine Wc.skip ?_;apply gS (by simp only[go_sem,w2,e1,w9_1];rfl);subst hR;exact wr (gy [.tmp 4] (by simp only[go_sem,w2,e1,w9_1];exact⟨_,rfl,_,rfl⟩))
  ·have e1:((i:Int)+1==(l.length:Int))=false:=by rw[beq_eq_false_iff_ne];omega
   obtain⟨c',hc'⟩:∃ c',l[i+1]? = some c':=⟨l[i+1],List.getElem?_eq_getElem kO⟩
   have hg':getF l (i+1)=c':=by unfold getF;rw[hc'];rfl
   have hix2:=ixA ti104 rfl ti170 (j:=i+1) (m:=l.length) (cs:=l.flatMap Frm.pd) kO hfl kD
   have e2:((i+1:Nat):Int)=(i:Int)+1:=kO
   rw[e2] at hix2
   have hca2:=rpG (f:=Frm.pd) (k:=3) (fun _=>rfl) hc'
   simp only[e1,hg',gC] at hR;rcases gK (c.w==(0:Int)) with w10_1|w10_1
   ·simp only[w10_1,gC] at hR;apply gR (by simp only[go_sem,w2,e1,hix2,hca2,w10_1];rfl);rcases gK (c'.d !=(↑i:Int)) with w10_2|w10_2
    ·simp only[w10_2,gC] at hR;apply gT (by simp only[go_sem,w2,e1,hix2,hca2,w10_1,w10_2]);apply gS (by simp only[go_sem,w2,e1,hix2,hca2,w10_1,w10_2];rfl);subst hR;exact wr (gy [.tmp 4] (by simp only[go_sem,w2,e1,hix2,hca2,w10_1,w10_2];exact⟨_,rfl,_,rfl⟩))
    simp only[w10_2,gC] at hR;apply gX (by simp only[go_sem,w2,e1,hix2,hca2,w10_1,w10_2]);refine Wc.skip ?_;apply gS (by simp only[go_sem,w2,e1,hix2,hca2,w10_1,w10_2];rfl);subst hR;exact wr (gy [.tmp 4] (by simp only[go_sem,w2,e1,hix2,hca2,w10_1,w10_2];exact⟨_,rfl,_,rfl⟩))
   simp only[w10_1,gC] at hR;apply gR (by simp only[go_sem,w2,e1,hix2,hca2,w10_1];rfl);apply gX (by simp only[go_sem,w2,e1,hix2,hca2,w10_1]);refine Wc.skip ?_;apply gS (by simp only[go_sem,w2,e1,hix2,hca2,w10_1];rfl);subst hR;exact wr (gy [.tmp 4] (by simp only[go_sem,w2,e1,hix2,hca2,w10_1];exact⟨_,rfl,_,rfl⟩))
theorem pf186 (l:List Frm)(hl:l.length<2^60):Pf E0 186 [.c (.p (.lst l.length (l.flatMap Frm.pd)))] (P' (pI (chkF l))):=by
 generalize hR:chkF l=R;unfold chkF at hR;refine gQ (fn:=Tryz.f186) ?_;simp only[gL,Tryz.ntmps186,Nat.reduceSub,Nat.reduceAdd];refine gY ?_;refine Wc.seq ?_;refine gY ?_;rcases gK (decide ((2000:Int)<(↑l.length:Int))) with w11_1|w11_1
 ·simp only[w11_1,gC] at hR;apply gT (by simp only[go_sem,w11_1]);apply gS (by simp only[go_sem,w11_1];rfl);subst hR;exact wr (gy [.tmp 2] (by simp only[go_sem,w11_1];exact⟨_,rfl,_,rfl⟩))
 simp only[w11_1,gC] at hR;apply gX (by simp only[go_sem,w11_1]);refine Wc.skip ?_
 have hS0:Stk (parF l) 0 []:=⟨trivial,rfl,fun a ha=>(by cases ha),fun k hk=>kO⟩
 refine Wc.seqR (fun y=>R=0∧y.ds=[]∧Fs y.e 20 []) ?_ ?_
 ·refine gY ?_;refine Wc.block (Wc.loop (fun k y=>∃(i:Nat) (S:List Nat),k=l.length-i∧(i≤l.length∧Stk (parF l) i S∧flW l (l.length-i) i S=R)∧y.ds=[]∧Fs y.e 20 [(0,P' (.lst l.length (l.flatMap Frm.pd))),(3,P' (pI i))]) ?_ (k:=l.length) ⟨0,[],rfl,⟨kO,hS0,hR⟩,rfl,by simp only[go_sem]⟩);clear hR hS0;rintro k ⟨e,ds,s1⟩ ⟨i,S,rfl,⟨hi,hS,hR⟩,rfl,hF⟩;simp only[Fs] at hF;refine gO ?_;apply gR kG;refine Wc.cond (t:=decide ((i:Int)<l.length)) kF (fun hc=>?_) (fun hc=>?_)
  ·have hil:i<l.length:=gi hc
   have p233:=pf233 l hl S i hil hS
   obtain⟨k,hk⟩:∃ k,l.length-i=k+1:=⟨l.length-i-1,kO⟩
   rw[hk,flW] at hR
   have hk2:l.length-(i+1)=k:=kO
   refine Wc.skip ?_;cases hN:(nodeE l S i (getF l i) != 0) with
   |true =>
    simp only[hN,gC] at hR;refine Wc.seq ?_;refine Wc.block ?_;refine gN fun K F=>?_;simp only[go_sem,hF,hN];refine gP p233 ?_;simp only[go_sem,hF,hN];apply F;clear F K;apply gS (by simp only[go_sem,hF,hN];rfl);apply gT (by simp only[go_sem,hF,hN]);apply gS (by simp only[go_sem,hF,hN];rfl);subst hR;exact wr (gy [.tmp 2] (by simp only[go_sem,hF,hN];exact⟨_,rfl,_,rfl⟩))
   |false =>
    simp only[hN,gC] at hR
    have h0:nodeE l S i (getF l i)=0:=by simpa using hN
    have hok:=nodeE_ok h0
    refine Wc.seq ?_;refine Wc.block ?_;refine gN fun K F=>?_;simp only[go_sem,hF,hN,i64n i kO];refine gP p233 ?_;simp only[go_sem,hF,hN,i64n i kO];apply F;clear F K;apply gS (by simp only[go_sem,hF,hN,i64n i kO];rfl);apply gX (by simp only[go_sem,hF,hN,i64n i kO]);refine Wc.skip ?_;apply gR (by simp only[go_sem,hF,hN,i64n i kO];rfl)
    exact⟨l.length-(i+1),kO,i+1,_,rfl,⟨kO,hS.next (z:=-1) hok.1 hok.2,by rw[hk2];exact hR⟩,rfl,by simp only[go_sem,hF]⟩
  ·have hil:i=l.length:=by have:=of_decide_eq_false hc;omega
   rw[hil,Nat.sub_self,flW] at hR
   exact Wc.exit ⟨hR.symm,rfl,by simp only[go_sem,hF]⟩
 rintro⟨e,ds,s1⟩ ⟨rfl,rfl,hF⟩
 simp only[Fs] at hF;apply gS kG;exact wr (gy [.tmp 2] (by simp only[go_sem,hF];exact⟨_,rfl,_,rfl⟩))
/-! ### the environment in which a slice of numbers is a stack -/
theorem E1ti (t:Nat):E1.ti t=E0.ti t:=rfl
theorem E1ix (t:Nat)(x i:D):indexAddrD E1 t x i=indexAddrD E0 t x i:=rfl
theorem btE1 (t:Nat):E1.bt t=(t==245):=btE t
theorem gtE1 (t:Nat):E1.gt t=if t=29 then true else if t=23 then true else if t=175 then true else false:=by
 show List.elem t [29,23,175]=_
 by_cases h1:t=29
 ·subst h1;rfl
 ·by_cases h2:t=23
  ·subst h2;rfl
  ·by_cases h3:t=175
   ·subst h3;rfl
   ·have b1:(t==29)=false:=by simpa using h1
    have b2:(t==23)=false:=by simpa using h2
    have b3:(t==175)=false:=by simpa using h3
    simp only[List.elem,b1,b2,b3,h1,h2,h3,if_false]
attribute [go_sem] E1ti E1ix btE1 gtE1
theorem pf216' (s:List UInt8):Pf E1 216 [.c (.p (.str s))] (P' (.bool (nmL s))):=by
 unfold nmL btw;refine gQ (fn:=Tryz.f216) ?_;simp only[gL,Tryz.ntmps216,Nat.reduceSub,Nat.reduceAdd];refine gY ?_;refine Wc.seq ?_;cases h:decide ((1:Int)≤s.length) with
 |true =>
  apply gR (by simp only[go_sem,h,ge_iff_le];rfl)
  rw[Bool.true_and]
  exact wr (gU [.tmp 2] [.c (.p (.bool (decide ((s.length:Int)≤60))))])
 |false =>
  apply gR (by simp only[go_sem,h,ge_iff_le];rfl)
  rw[Bool.false_and]
  exact wr (gU [.tmp 2] [.c (.p (.bool false))])
theorem pf217' (t:Int):Pf E1 217 [.c (.p (pI t))] (P' (.bool (btw t (-1099511627776) 1099511627776))):=by
 unfold btw;refine gQ (fn:=Tryz.f217) ?_;simp only[gL,Tryz.ntmps217,Nat.reduceSub,Nat.reduceAdd];refine gY ?_;refine Wc.seq ?_;cases h:decide ((-1099511627776:Int)≤t) with
 |true =>
  apply gR (by simp only[go_sem,h,ge_iff_le];rfl)
  rw[Bool.true_and]
  exact wr (gU [.tmp 2] [.c (.p (.bool (decide (t≤1099511627776))))])
 |false =>
  apply gR (by simp only[go_sem,h,ge_iff_le];rfl)
  rw[Bool.false_and]
  exact wr (gU [.tmp 2] [.c (.p (.bool false))])
theorem OA.appP {E:Env}{b:Nat}{s:St}{L:List (Nat×D×Nat×List Pd)}{key t u e es n m q id:Nat}{x y:D}{cs:List C}{ys:List Pd}{k:D→St→Prop}{ie:TI}{M1 M2:List (Nat×Ob)}(h:OA b s L (M1++(id,.grow es q cs false)::M2))(hx:x=.v (.c (.gs q id 0 n es)))(ht:∃ i,E.ti t=some i∧i.kn=.slice e)(he:E.ti e=some ie)(hes:ie.size=es)(h0:0<es)
  (hy:srcD E u s y=some (m,ys)) (hl:ys.length=m*es) (hm:0<m) (hnm:n+m≤q) (hcl:cs.length=q*es)
  (hk:∀ s',OA b s' L (M1++(id,.grow es q (setR cs (n*es) (ys.map .p)) false)::M2)→s'.nx=s.nx→k (.v (.c (.gs q id 0 (n+m) es))) s') (hg:E.gt t=true):stepK (appendD E key [t,u] x y s) k:=by
 obtain⟨i,hti,hkn⟩:=ht
 obtain⟨sz,ag,bb,z,kn,eq⟩:=i
 simp only at hkn;subst hkn hx;subst hes
 have hid:s.get id=some (.grow ie.size q cs false):=h.at_ (id,.grow ie.size q cs false) kS
 unfold appendD;simp only[hti,he,hy,hl,if_true]
 rw[if_neg kO]
 simp only[hid]
 rw[if_neg kO,if_pos ⟨hg,trivial,trivial,hnm,trivial,trivial,h0,hcl⟩]
 exact hk _ (h.set rfl) rfl
def GP (x:C)(S:List Nat)(G:List (Nat×Ob)):Prop:=(x=.nils∧S=[]∧G=[])∨∃ id q cs,x=.gs q id 0 S.length 1∧G=[(id,.grow 1 q cs false)]∧cs.length=q∧S.length≤q∧cs.take S.length=S.reverse.map fun(a:Nat)=>C.p (pI a)
theorem GP.len {x:C}{S:List Nat}{G:List (Nat×Ob)}(h:GP x S G):lenD E1 175 (.v (.c x))=some (P' (pI S.length)):=by
 rcases h with ⟨rfl,rfl,_⟩|⟨id,q,cs,rfl,_⟩
 ·simp only[go_sem]
 ·simp only[go_sem]
theorem GP.top {x:C}{a:Nat}{r:List Nat}{G M:List (Nat×Ob)}{b:Nat}{s:St}{L:List (Nat×D×Nat×List Pd)}(h:GP x (a::r) G)(ho:OA b s L (G++M)) :
  ∃ q id y rest,x=.gs q id 0 (r.length+1) 1∧indexAddrD E0 175 (.v (.c x)) (.v (.c (.p (.int .i64 (r.length:Int)))))=some (.v (.c y))∧(∀ n,cellsAt (s.adv n) (.v (.c y))=some (.p (pI a)::rest))∧GP (.gs q id 0 r.length 1) r G:=by
 rcases h with ⟨_,h,_⟩|⟨id,q,cs,rfl,rfl,h1,h2,h3⟩
 ·cases h
 ·have hg:s.get id=some (.grow 1 q cs false):=ho.at_ (id,.grow 1 q cs false) kS
  simp only[List.length_cons,List.reverse_cons,List.map_append,List.map_cons,List.map_nil] at h2 h3
  have hlt:r.length<cs.length:=kO
  have hget:cs[r.length]? = some (.p (pI a)):=by
   have h4:(cs.take (r.length+1))[r.length]? = some (.p (pI a)):=by rw[h3];simp
   rwa [List.getElem?_take,if_pos kO] at h4
  have hge:cs[r.length]=.p (pI a):=by rw[List.getElem?_eq_getElem hlt] at hget;exact Option.some.inj hget
  have htk:cs.take r.length=r.reverse.map fun(a:Nat)=>C.p (pI a):=by
   have h4:(cs.take (r.length+1)).take r.length=_:=congrArg (List.take r.length) h3
   rw[List.take_take,Nat.min_eq_left kO] at h4
   rw[h4,List.take_append_of_le_length kS,List.take_of_length_le kS]
  refine⟨q,id,.gref q id (0+r.length*1),cs.drop (r.length+1),rfl,ixG ti175 rfl ti3 kS rfl,fun n=>?_,.inr ⟨id,q,cs,rfl,rfl,h1,kO,htk⟩⟩
  simp only[cellsAt,St.get_adv,hg,Nat.zero_add,Nat.mul_one]
  rw[if_pos ⟨trivial,kO⟩,List.drop_eq_getElem_cons hlt,hge]
theorem GP.push {x:C}{S:List Nat}{G M:List (Nat×Ob)}{b key kx i:Nat}{s:St}{L:List (Nat×D×Nat×List Pd)}{k:D→St→Prop}(h:GP x S G)(ho:OA b s L (G++M))(hkey:b≤key)(hS:S.length<2^40)
  (hk:∀ x' G' s',OA (key+1) s' L (G' ++ M)→GP x' (i::S) G'→s'.nx=s.nx→k (.v (.c x')) s'):stepK (appendD E1 key [175,175] (.v (.c x)) (.v (.c (.own 1 [pI i] kx))) s) k:=by
 rcases h with ⟨rfl,rfl,rfl⟩|⟨id,q,cs,rfl,rfl,h1,h2,h3⟩
 ·refine OA.appN (by_:=8) (m:=1) (es:=1) (ys:=[pI i]) (L:=L) (M:=M) ho hkey rfl ⟨_,by rw[E1ti];exact ti175,rfl⟩ (by rw[E1ti];exact ti3) rfl rfl rfl kD kD kA rfl kD kD (fun s' hs hnx=>hk _ [_] s' hs (.inr ⟨key,1,_,rfl,rfl,rfl,by simp,rfl⟩) hnx) kR
 ·by_cases hq:S.length=q
  ·subst hq;refine OA.appG (M1:=[]) (M2:=M) (by_:=8) (n:=S.length) (m:=1) (ys:=[pI i]) (cs:=cs) (L:=L) (b:=b) ho rfl ⟨_,by rw[E1ti];exact ti175,rfl⟩ (by rw[E1ti];exact ti3) rfl rfl rfl kD kD kA rfl kO (fun s' hs hnx=>hk _ [_] s' (hs.mono kO) (.inr ⟨id,S.length+1,_,rfl,rfl,by simp[h1],by simp,?_⟩) hnx) kR
   rw[List.take_of_length_le (by simp[h1]),List.reverse_cons,List.map_append,← h3,List.take_of_length_le kO]
   rfl
  ·refine OA.appP (M1:=[]) (M2:=M) (n:=S.length) (m:=1) (es:=1) (ys:=[pI i]) (cs:=cs) (L:=L) (b:=b) ho rfl ⟨_,by rw[E1ti];exact ti175,rfl⟩ (by rw[E1ti];exact ti3) rfl kD kA rfl kD kO kO (fun s' hs hnx=>hk _ [_] s' (hs.mono kO) (.inr ⟨id,q,_,rfl,rfl,?_,by simp;omega,?_⟩) hnx) kR
   ·simp only[setR,List.length_append,List.length_take,List.length_drop,List.length_map,List.length_cons,List.length_nil,Nat.mul_one];omega
   ·have e1:setR cs (S.length*1) (List.map C.p [pI i])=cs.take S.length++[C.p (pI i)]++cs.drop (S.length+1):=by simp[setR]
    rw[e1,h3,List.length_cons,List.take_append_of_le_length kS,List.take_of_length_le kS,List.reverse_cons,List.map_append]
    rfl
theorem ok_ge {t:Int}{S:List Nat}(h:(popTo t S (-1)).2≠[]∨t = -1) : -1≤t:=by
 rcases h with h1|h1
 ·by_cases h2 : -1≤t
  ·exact h2
  ·exact absurd (popTo_none _ fun a _=>kO) h1
 ·omega
end Go.Proofs.YtedcnhbblgmdnaaGreat.Ab
