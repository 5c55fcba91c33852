/- A part of the proof. -/
import Derived.Test.YtedcnhbblgmdnaaGreatT25
import Derived.Test.YtedcnhbblgmdnaaGreatT21
import Derived.Test.YtedcnhbblgmdnaaGreatT23
set_option maxHeartbeats 8000000
set_option maxRecDepth 10000
set_option linter.unusedSimpArgs false
set_option linter.unusedVariables false
namespace Go.Proofs.YtedcnhbblgmdnaaGreat.Ab
/-! ### labels are compared -/
def cmpS (a b:List UInt8):Int:=if Op.bytesLess a b then -1 else if a==b then 0 else 1
def cmpL:List Lb→List Lb→Int
 |[],[]=>0
 |[],_::_=>-1
 |_::_,[]=>1
 |x::r,y::t=>if cmpS x.1 y.1≠0 then cmpS x.1 y.1 else if cmpS x.2 y.2≠0 then cmpS x.2 y.2 else cmpL r t
theorem cmpS_zero {a b:List UInt8}:cmpS a b=0 ↔ a=b:=by
 unfold cmpS
 constructor
 ·intro h
  split at h
  ·cases h
  ·split at h
   ·rename_i h1;simpa using h1
   ·cases h
 ·rintro rfl
  rw[less_irr];simp
theorem cmpL_zero:∀ {a b:List Lb},cmpL a b=0 ↔ a=b
 |[],[]=>by simp[cmpL]
 |[],y::t=>by simp[cmpL]
 |x::r,[]=>by simp[cmpL]
 |x::r,y::t=>by
  rw[cmpL]
  by_cases h1:cmpS x.1 y.1=0
  ·rw[if_neg (by simpa using h1)]
   by_cases h2:cmpS x.2 y.2=0
   ·rw[if_neg (by simpa using h2),cmpL_zero]
    have e1:=cmpS_zero.1 h1
    have e2:=cmpS_zero.1 h2
    constructor
    ·rintro rfl
     rw[show x=y from Prod.ext e1 e2]
    ·intro h;cases h;rfl
   ·rw[if_pos h2]
    constructor
    ·intro h;exact absurd h h2
    ·intro h;cases h;exact absurd (cmpS_zero.2 rfl) h2
  ·rw[if_pos h1]
   constructor
   ·intro h;exact absurd h h1
   ·intro h;cases h;exact absurd (cmpS_zero.2 rfl) h1
theorem cmpL_step {a b:List Lb}{i:Nat}{x y:Lb}(hx:a[i]? = some x)(hy:b[i]? = some y):cmpL (a.drop i) (b.drop i)=if cmpS x.1 y.1≠0 then cmpS x.1 y.1 else if cmpS x.2 y.2≠0 then cmpS x.2 y.2 else cmpL (a.drop (i+1)) (b.drop (i+1)):=by
 rw[List.drop_eq_getElem_cons (List.getElem?_eq_some_iff.1 hx).1,(List.getElem?_eq_some_iff.1 hx).2,List.drop_eq_getElem_cons (List.getElem?_eq_some_iff.1 hy).1,(List.getElem?_eq_some_iff.1 hy).2]
 rfl
theorem pf154g (a b:List UInt8):Pf E0 154 [.c (.p (.str a)),.c (.p (.str b))] (P' (pI (cmpS a b))):=by
 refine gQ (fn:=Tryz.f154) ?_;simp only[gL,Tryz.ntmps154,Nat.reduceSub,Nat.reduceAdd];refine gY ?_;refine gO ?_;cases h1:Op.bytesLess a b with
 |true =>
  have e:cmpS a b = -1:=by unfold cmpS;rw[if_pos h1]
  rw[e]
  apply gR (by simp only[go_sem,h1];rfl);apply gT (by simp only[go_sem,h1]);refine gY ?_;exact wr (gU [.tmp 4] [.c (.p (pI (-1)))])
 |false =>
 apply gR (by simp only[go_sem,h1];rfl);apply gF (by simp only[go_sem,h1]);refine gO ?_;cases h2:(a==b) with
 |true =>
  have e:cmpS a b=0:=by unfold cmpS;rw[if_neg (by simp[h1]),if_pos h2]
  rw[e]
  apply gR (by simp only[go_sem,h1,h2];rfl);apply gF (by simp only[go_sem,h1,h2,Bool.or_true]);refine gY ?_;exact wr (gU [.tmp 4] [.c (.p (pI 0))])
 |false =>
  have e:cmpS a b=1:=by unfold cmpS;rw[if_neg (by simp[h1]),if_neg (by simp[h2])]
  rw[e]
  apply gR (by simp only[go_sem,h1,h2];rfl);apply gT (by simp only[go_sem,h1,h2,Bool.or_self]);refine gY ?_;exact wr (gU [.tmp 4] [.c (.p (pI 1))])
theorem pf96g (a b:List Lb)(ha:a.length<2^60)(hb:b.length<2^60):Pf E0 96 [.c (.p (.lst a.length (a.flatMap lbP))),.c (.p (.lst b.length (b.flatMap lbP)))] (P' (pI (cmpL a b))):=by
 have hfa:(a.flatMap lbP).length=a.length*2:=flat_len (k:=2) (fun _=>rfl) a
 have hfb:(b.flatMap lbP).length=b.length*2:=flat_len (k:=2) (fun _=>rfl) b
 have hR0:cmpL (a.drop 0) (b.drop 0)=cmpL a b:=rfl
 generalize cmpL a b=R at hR0 ⊢;refine gQ (fn:=Tryz.f96) ?_;simp only[gL,Tryz.ntmps96,Nat.reduceSub,Nat.reduceAdd];refine gY ?_;refine Wc.seqR (fun y=>∃ i:Nat,(i=a.length∧i≤b.length∨i≤a.length∧i=b.length)∧cmpL (a.drop i) (b.drop i)=R∧y.ds=[]∧Fs y.e 58 [(0,P' (.lst a.length (a.flatMap lbP))),(1,P' (.lst b.length (b.flatMap lbP)))]) ?_ ?_
 ·refine gY ?_;refine Wc.block (Wc.loop (fun k y=>∃ i:Nat,k=a.length-i∧(i≤a.length∧i≤b.length)∧cmpL (a.drop i) (b.drop i)=R∧y.ds=[]∧Fs y.e 58 [(0,P' (.lst a.length (a.flatMap lbP))),(1,P' (.lst b.length (b.flatMap lbP))),(5,P' (pI i))]) ?_ (k:=a.length) ⟨0,rfl,kO,hR0,rfl,by simp only[go_sem]⟩);rintro k ⟨e,ds,s1⟩ ⟨i,rfl,hi,hR,rfl,hF⟩;simp only[Fs] at hF;refine gO ?_
  by_cases h1:i<a.length
  ·by_cases h2:i<b.length
   ·have d1:((i:Int)<(a.length:Int))=True:=by simp;omega
    have d2:((i:Int)<(b.length:Int))=True:=by simp;omega
    obtain⟨x,hx⟩:=gE h1
    obtain⟨y,hy⟩:=gE h2
    have hix:=ixA ti22 rfl ti117 (j:=i) (m:=a.length) (cs:=a.flatMap lbP) h1 hfa kD
    have hca:=rpA (off:=i*2) (drop_flat (f:=lbP) (k:=2) (fun _=>rfl) hx) (by rw[hfa];omega)
    have hcc:=rpA (off:=i*2+1) (cs:=a.flatMap lbP) (pre:=[.str x.2]) (rest:=(a.drop (i+1)).flatMap lbP) (by rw[← List.drop_drop,drop_flat (f:=lbP) (k:=2) (fun _=>rfl) hx];rfl) (by rw[hfa];omega)
    have hiy:=ixA ti22 rfl ti117 (j:=i) (m:=b.length) (cs:=b.flatMap lbP) h2 hfb kD
    have hda:=rpA (off:=i*2) (drop_flat (f:=lbP) (k:=2) (fun _=>rfl) hy) (by rw[hfb];omega)
    have hdc:=rpA (off:=i*2+1) (cs:=b.flatMap lbP) (pre:=[.str y.2]) (rest:=(b.drop (i+1)).flatMap lbP) (by rw[← List.drop_drop,drop_flat (f:=lbP) (k:=2) (fun _=>rfl) hy];rfl) (by rw[hfb];omega)
    rw[cmpL_step hx hy] at hR
    apply gR (by simp only[go_sem,hF,d1,d2];rfl);apply gT (by simp only[go_sem,hF,d1,d2]);refine Wc.skip (Wc.seq (Wc.block (Wc.seq (Wc.seq ?_))));refine Wc.regD fun K F=>?_;simp only[go_sem,hF,hix,hca,hiy,hda]
    refine⟨by simp[o154,x154,plainD,plainV,plainC],?_⟩
    refine gP (pf154g x.1 y.1) ?_;simp only[go_sem,hF];apply F;clear F K;apply gS kG;refine Wc.cond (t:=cmpS x.1 y.1 != 0) kF (fun hc=>?_) (fun hc=>?_)
    ·have hn:cmpS x.1 y.1≠0:=by simpa using hc
     rw[if_pos hn] at hR
     apply gS kG
     rw[← hR]
     exact wr (gV [.tmp 4] [.c (.p (pI (cmpS x.1 y.1)))] kF)
    have hn:¬ cmpS x.1 y.1≠0:=by simpa using hc
    rw[if_neg hn] at hR
    refine Wc.skip (Wc.seq ?_);refine Wc.regD fun K F=>?_;simp only[go_sem,hF,hix,hcc,hiy,hdc]
    refine⟨by simp[o154,x154,plainD,plainV,plainC],?_⟩
    refine gP (pf154g x.2 y.2) ?_;simp only[go_sem,hF];apply F;clear F K;apply gS kG;refine Wc.cond (t:=cmpS x.2 y.2 != 0) kF (fun hc=>?_) (fun hc=>?_)
    ·have hn2:cmpS x.2 y.2≠0:=by simpa using hc
     rw[if_pos hn2] at hR
     apply gS kG
     rw[← hR]
     exact wr (gV [.tmp 4] [.c (.p (pI (cmpS x.2 y.2)))] kF)
    have hn2:¬ cmpS x.2 y.2≠0:=by simpa using hc
    rw[if_neg hn2] at hR
    refine Wc.skip ?_;apply gR kX
    exact⟨a.length-(i+1),kO,i+1,rfl,kO,hR,rfl,by simp only[go_sem,hF]⟩
   ·have d1:((i:Int)<(a.length:Int))=True:=by simp;omega
    have d2:((i:Int)<(b.length:Int))=False:=by simp;omega
    apply gR (by simp only[go_sem,hF,d1,d2];rfl);apply gX (by simp only[go_sem,hF,d1,d2]);exact Wc.exit ⟨i,.inr kO,hR,rfl,by simp only[go_sem,hF]⟩
  ·have d1:((i:Int)<(a.length:Int))=False:=by simp;omega
   apply gR (by simp only[go_sem,hF,d1];rfl);apply gX (by simp only[go_sem,hF,d1]);exact Wc.exit ⟨i,.inl kO,hR,rfl,by simp only[go_sem,hF]⟩
 rintro⟨e,ds,s1⟩ ⟨i,hi,hR,rfl,hF⟩
 simp only[Fs] at hF;refine gO ?_;apply gR kG;refine Wc.cond (t:=decide ((a.length:Int)<b.length)) kF (fun hc=>?_) (fun hc=>?_)
 ·have hlt:=of_decide_eq_true hc
  have hia:i=a.length:=kO
  have e1:R = -1:=by
   rw[← hR,hia,List.drop_length]
   cases hd:b.drop a.length with
   |nil=>have:=congrArg List.length hd;simp at this;omega
   |cons y t=>rfl
  rw[e1]
  apply gS kG;exact wr (gV [.tmp 4] [.c (.p (pI (-1)))] kF)
 have h1:=of_decide_eq_false hc
 refine Wc.skip (Wc.seq (Wc.seq ?_));apply gR kG;refine Wc.cond (t:=decide ((b.length:Int)<a.length)) kF (fun hc=>?_) (fun hc=>?_)
 ·have hlt:=of_decide_eq_true hc
  have hib:i=b.length:=kO
  have e1:R=1:=by
   rw[← hR,hib,List.drop_length]
   cases hd:a.drop b.length with
   |nil=>have:=congrArg List.length hd;simp at this;omega
   |cons y t=>rfl
  rw[e1]
  apply gS kG;exact wr (gV [.tmp 4] [.c (.p (pI 1))] kF)
 have h2:=of_decide_eq_false hc
 have e1:R=0:=by
  have hia:i=a.length:=kO
  have hib:i=b.length:=kO
  rw[← hR,hia,List.drop_length,← hia,hib,List.drop_length];rfl
 rw[e1]
 refine Wc.skip ?_;apply gS kG;exact wr (gV [.tmp 4] [.c (.p (pI 0))] kF)
theorem pf179 (a:List UInt8):Pf E0 179 [.c (.p (.str a))] (P' (.bool false)):=by
 refine gQ (fn:=Tryz.f179) ?_;simp only[gL,Tryz.ntmps179,Nat.reduceSub,Nat.reduceAdd];refine gY ?_;refine gY ?_;exact wr (gU [.tmp 2] [.c (.p (.bool false))])
theorem pf105 (a b:List UInt8):Pf E0 105 [.c (.p (.str a)),.c (.p (.str b))] (P' (pI (cmpS a b))):=by
 refine gQ (fn:=Tryz.f105) ?_;simp only[gL,Tryz.ntmps105,Nat.reduceSub,Nat.reduceAdd];refine gY ?_;refine gN fun K F=>?_;simp only[go_sem];refine gP (pf179 a) ?_;simp only[go_sem];apply F;clear F K;refine gN fun K F=>?_;simp only[go_sem];refine gP (pf179 b) ?_;simp only[go_sem];apply F;clear F K;refine gO ?_;refine gZ ?_;refine gH ?_;refine gO ?_;refine gZ ?_;refine gH ?_;refine gO ?_;cases h1:Op.bytesLess a b with
 |true =>
  have e:cmpS a b = -1:=by unfold cmpS;rw[if_pos h1]
  rw[e]
  apply gR (by simp only[go_sem,h1];rfl);apply gT (by simp only[go_sem,h1]);refine gY ?_;exact wr (gU [.tmp 4] [.c (.p (pI (-1)))])
 |false =>
 apply gR (by simp only[go_sem,h1];rfl);apply gF (by simp only[go_sem,h1]);refine gO ?_;cases h2:(a==b) with
 |true =>
  have e:cmpS a b=0:=by unfold cmpS;rw[if_neg (by simp[h1]),if_pos h2]
  rw[e]
  apply gR (by simp only[go_sem,h1,h2];rfl);apply gF (by simp only[go_sem,h1,h2,Bool.or_true]);refine gY ?_;exact wr (gU [.tmp 4] [.c (.p (pI 0))])
 |false =>
  have e:cmpS a b=1:=by unfold cmpS;rw[if_neg (by simp[h1]),if_neg (by simp[h2])]
  rw[e]
  apply gR (by simp only[go_sem,h1,h2];rfl);apply gT (by simp only[go_sem,h1,h2,Bool.or_self]);refine gY ?_;exact wr (gU [.tmp 4] [.c (.p (pI 1))])
theorem pf104 (c d:Int):Pf E0 104 [.c (.p (.lst 2 [pI c,pI d]))] (P' (pI (if c≠0 then c else d))):=by
 have hR1:c≠0→(if c≠0 then c else d)=c:=fun h=>if_pos h
 have hR2:c=0→(if c≠0 then c else d)=d:=fun h=>if_neg (by simpa using h)
 generalize (if c≠0 then c else d)=R at hR1 hR2 ⊢
 have h2n:((2:Nat):Int)=2:=rfl
 refine gQ (fn:=Tryz.f104) ?_;simp only[gL,Tryz.ntmps104,Nat.reduceSub,Nat.reduceAdd];refine gY ?_;refine gY ?_;refine Wc.seqR (fun y=>R=0∧y.ds=[]∧Fs y.e 18 [(3,P' (pI 0))]) ?_ ?_
 ·refine gY ?_;refine Wc.block (Wc.loop (fun k y=>∃ i:Nat,k=2-i∧i≤2∧(0<i→c=0)∧(1<i→d=0)∧y.ds=[]∧Fs y.e 18 [(3,P' (pI 0)),(6,P' (.lst 2 [pI c,pI d])),(7,P' (pI 2)),(8,P' (pI i))]) ?_ (k:=2) ⟨0,rfl,kO,kO,kO,rfl,by simp only[go_sem,h2n]⟩);rintro k ⟨e,ds,s1⟩ ⟨i,rfl,hi,h1,h2,rfl,hF⟩;simp only[Fs] at hF;apply gS kG;refine Wc.seq ?_;refine Wc.cond (t:=decide ((i:Int)<2)) kF (fun hc=>?_) (fun hc=>?_)
  ·have hil:i<2:=gi hc
   obtain⟨x,hx⟩:∃ x,[c,d][i]? = some x:=⟨[c,d][i]'hil,List.getElem?_eq_getElem hil⟩
   have hix:indexAddrD E0 175 (.v (.c (.p (.lst 2 [pI c,pI d])))) (.v (.c (.p (.int .i64 (i:Int)))))=_:=ixA ti175 rfl ti3 (j:=i) (m:=2) (cs:=[c,d].map pI) hil rfl kD
   have hca:∀ s,cellsAt s (.v (.c (.rp [pI c,pI d] i)))=_:=rpA (off:=i) (drop_map pI hx) (by simp;omega)
   simp only[List.map_cons,List.map_nil,Nat.mul_one] at hix;refine Wc.skip (Wc.seq (Wc.block (Wc.seq ?_)));apply gR (by simp only[go_sem,hF,hix,hca];rfl);apply gS kG;refine Wc.cond (t:=x != 0) kF (fun hc=>?_) (fun hc=>?_)
   ·have hn:x≠0:=by simpa using hc
    have hRx:R=x:=by
     rcases i with _|_|i
     ·simp at hx;subst hx;exact hR1 hn
     ·simp at hx;subst hx;exact hR2 (h1 kO)
     ·omega
    apply gS kG
    rw[hRx]
    exact wr (gV [.tmp 2] [.c (.p (pI x))] kF)
   ·have hn:x=0:=by simpa using hc
    refine Wc.skip ?_;apply gR kX
    refine⟨2-(i+1),kO,i+1,rfl,kO,fun _=>?_,fun _=>?_,rfl,by simp only[go_sem,hF]⟩
    ·rcases i with _|i
     ·simp at hx;omega
     ·exact h1 kO
    ·rcases i with _|_|i
     ·omega
     ·simp at hx;omega
     ·omega
  ·have hil:i=2:=by have:=of_decide_eq_false hc;omega
   exact Wc.exit ⟨by rw[hR2 (h1 kO),h2 kO],rfl,by simp only[go_sem,hF]⟩
 rintro⟨e,ds,s1⟩ ⟨hR,rfl,hF⟩
 simp only[Fs] at hF
 rw[hR]
 apply gS kG;exact wr (gV [.tmp 2] [.c (.p (pI 0))] kF)
def cmpLb (x y:Lb):Int:=if cmpS x.1 y.1≠0 then cmpS x.1 y.1 else cmpS x.2 y.2
theorem cmpL_step2 {a b:List Lb}{i:Nat}{x y:Lb}(hx:a[i]? = some x)(hy:b[i]? = some y):cmpL (a.drop i) (b.drop i)=if cmpLb x y≠0 then cmpLb x y else cmpL (a.drop (i+1)) (b.drop (i+1)):=by
 rw[cmpL_step hx hy]
 unfold cmpLb
 by_cases h1:cmpS x.1 y.1=0<;>simp[h1]
theorem o104:E0.opn 104=false:=by kernel_rfl
theorem x104:E0.xt 104=none:=by kernel_rfl
theorem o105:E0.opn 105=false:=by kernel_rfl
theorem x105:E0.xt 105=none:=by kernel_rfl
theorem pf103 (x y:Lb):Pf E0 103 [.agg ((lbP x).map .p),.agg ((lbP y).map .p)] (P' (pI (cmpLb x y))):=by
 refine gQ (fn:=Tryz.f103) ?_;simp only[gL,Tryz.ntmps103,Nat.reduceSub,Nat.reduceAdd];refine gY ?_;refine Wc.seq ?_;refine Wc.regT fun K F=>?_;simp only[go_sem];refine gP (pf105 x.1 y.1) ?_;simp only[go_sem,o105,x105];refine gP (pf105 x.2 y.2) ?_;simp only[go_sem,o105,x105]
 have q:=pf104 (cmpS x.1 y.1) (cmpS x.2 y.2)
 rw[show(if cmpS x.1 y.1≠0 then cmpS x.1 y.1 else cmpS x.2 y.2)=cmpLb x y from rfl] at q
 refine gP q ?_;simp only[go_sem,o104,x104]
 refine⟨by rw[trOK_eq3];rfl,F _ _ ?_⟩
 exact wr (gU [.tmp 4] [.c (.p (pI (cmpLb x y)))])
theorem pf102c (a b:List Lb)(ha:a.length<2^60)(hb:b.length<2^60):Pf E0 102 [.c (.p (.lst a.length (a.flatMap lbP))),.c (.p (.lst b.length (b.flatMap lbP))),.c (.p (.fnc 103))] (P' (pI (cmpL a b))):=by
 have hfa:(a.flatMap lbP).length=a.length*2:=flat_len (k:=2) (fun _=>rfl) a
 have hfb:(b.flatMap lbP).length=b.length*2:=flat_len (k:=2) (fun _=>rfl) b
 have hR0:cmpL (a.drop 0) (b.drop 0)=cmpL a b:=rfl
 generalize cmpL a b=R at hR0 ⊢;refine gQ (fn:=Tryz.f102) ?_;simp only[gL,Tryz.ntmps102,Nat.reduceSub,Nat.reduceAdd];refine gY ?_;refine Wc.seqR (fun y=>(a.length≤b.length∧cmpL [] (b.drop a.length)=R)∧y.ds=[]∧Fs y.e 39 [(0,P' (.lst a.length (a.flatMap lbP))),(1,P' (.lst b.length (b.flatMap lbP)))]) ?_ ?_
 ·refine gY ?_;refine Wc.block (Wc.loop (fun k y=>∃ i:Nat,k=a.length-i∧(i≤a.length∧i≤b.length)∧cmpL (a.drop i) (b.drop i)=R∧y.ds=[]∧Fs y.e 39 [(0,P' (.lst a.length (a.flatMap lbP))),(1,P' (.lst b.length (b.flatMap lbP))),(2,P' (.fnc 103)),(11,P' (.lst a.length (a.flatMap lbP))),(12,P' (pI a.length)),(13,P' (pI i))]) ?_ (k:=a.length) ⟨0,rfl,kO,hR0,rfl,by simp only[go_sem]⟩);rintro k ⟨e,ds,s1⟩ ⟨i,rfl,hi,hR,rfl,hF⟩;simp only[Fs] at hF;apply gS kG;refine Wc.seq ?_;refine Wc.cond (t:=decide ((i:Int)<a.length)) kF (fun hc=>?_) (fun hc=>?_)
  ·have h1:i<a.length:=gi hc
   obtain⟨x,hx⟩:=gE h1
   have hix:=ixA ti22 rfl ti117 (j:=i) (m:=a.length) (cs:=a.flatMap lbP) h1 hfa kD
   have hca:=rpA (off:=i*2) (drop_flat (f:=lbP) (k:=2) (fun _=>rfl) hx) (by rw[hfa];omega)
   refine Wc.skip (Wc.seq (Wc.block (Wc.seq ?_)));apply gR (by simp only[go_sem,hF,hix,hca];rfl);refine gO ?_;apply gR kG;refine Wc.cond (t:=decide ((b.length:Int)≤i)) kF (fun hc=>?_) (fun hc=>?_)
   ·have h2:b.length=i:=by have:=of_decide_eq_true hc;omega
    have e1:R=1:=by
     rw[← hR,h2.symm,List.drop_length,List.drop_eq_getElem_cons kO];rfl
    rw[e1]
    apply gS kG;exact wr (gV [.tmp 6] [.c (.p (pI 1))] kF)
   have h2:i<b.length:=by have:=of_decide_eq_false hc;omega
   obtain⟨y,hy⟩:=gE h2
   have hiy:=ixA ti22 rfl ti117 (j:=i) (m:=b.length) (cs:=b.flatMap lbP) h2 hfb kD
   have hda:=rpA (off:=i*2) (drop_flat (f:=lbP) (k:=2) (fun _=>rfl) hy) (by rw[hfb];omega)
   rw[cmpL_step2 hx hy] at hR
   refine Wc.skip (Wc.seq ?_);apply gR (by simp only[go_sem,hF,hiy,hda];rfl)
   have n11:(s1.nx+11=s1.nx)=False:=by simp
   refine gN fun K F=>?_;simp only[go_sem,hF,n11];refine gP (pf103 x y) ?_;simp only[go_sem,hF];apply F;clear F K;apply gS kG;refine Wc.cond (t:=cmpLb x y != 0) kF (fun hc=>?_) (fun hc=>?_)
   ·have hn:cmpLb x y≠0:=by simpa using hc
    rw[if_pos hn] at hR
    apply gS kG
    rw[← hR]
    exact wr (gV [.tmp 6] [.c (.p (pI (cmpLb x y)))] kF)
   have hn:¬ cmpLb x y≠0:=by simpa using hc
   rw[if_neg hn] at hR
   refine Wc.skip ?_;apply gR kX
   exact⟨a.length-(i+1),kO,i+1,rfl,kO,hR,rfl,by simp only[go_sem,hF]⟩
  ·have hil:i=a.length:=by have:=of_decide_eq_false hc;omega
   rw[hil,List.drop_length] at hR
   exact Wc.exit ⟨⟨kO,hR⟩,rfl,by simp only[go_sem,hF]⟩
 rintro⟨e,ds,s1⟩ ⟨⟨hi,hR⟩,rfl,hF⟩
 simp only[Fs] at hF;refine gO ?_;apply gR kG;refine Wc.cond (t:=decide ((a.length:Int)<b.length)) kF (fun hc=>?_) (fun hc=>?_)
 ·have hlt:=of_decide_eq_true hc
  have e1:R = -1:=by
   rw[← hR]
   cases hd:b.drop a.length with
   |nil=>have:=congrArg List.length hd;simp at this;omega
   |cons y t=>rfl
  rw[e1]
  apply gS kG;exact wr (gV [.tmp 6] [.c (.p (pI (-1)))] kF)
 have h1:=of_decide_eq_false hc
 have e1:R=0:=by
  have:a.length=b.length:=kO
  rw[← hR,this,List.drop_length];rfl
 rw[e1]
 refine Wc.skip ?_;apply gS kG;exact wr (gV [.tmp 6] [.c (.p (pI 0))] kF)
theorem pf52 (a b:List Lb)(ha:a.length<2^60)(hb:b.length<2^60):Pf E0 52 [.c (.p (.lst a.length (a.flatMap lbP))),.c (.p (.lst b.length (b.flatMap lbP)))] (P' (pI (cmpL a b))):=by
 refine gQ (fn:=Tryz.f52) ?_;simp only[gL,Tryz.ntmps52,Nat.reduceSub,Nat.reduceAdd];refine gY ?_;refine gN fun K F=>?_;simp only[go_sem];refine gP (pf102c a b ha hb) ?_;simp only[go_sem];apply F;clear F K;exact wr (gU [.tmp 4] [.c (.p (pI (cmpL a b)))])
theorem fB (l:List Bkt):(l.flatMap Bkt.pd).length=l.length*10:=flat_len (k:=10) (fun _=>rfl) _
theorem rpB0 {l:List Bkt}{i:Nat}{c:Bkt}(h:l[i]? = some c)(s:St):cellsAt s (.v (.c (.rp (l.flatMap Bkt.pd) (i*10))))=some ((c.pd++(l.drop (i+1)).flatMap Bkt.pd).map .p):=by
 have hf:=fB l
 have hi:=(List.getElem?_eq_some_iff.1 h).1
 exact rpA (off:=i*10) (drop_flat (f:=Bkt.pd) (k:=10) (fun _=>rfl) h) kO s
theorem rpB {l:List Bkt}{i:Nat}{c:Bkt}(h:l[i]? = some c)(q:Nat)(hq:q≤10)(s:St):cellsAt s (.v (.c (.rp (l.flatMap Bkt.pd) (i*10+q))))=some ((c.pd.drop q++(l.drop (i+1)).flatMap Bkt.pd).map .p):=by
 have hf:(l.flatMap Bkt.pd).length=l.length*10:=flat_len (k:=10) (fun _=>rfl) _
 have hi:=(List.getElem?_eq_some_iff.1 h).1
 exact rpA (off:=i*10+q) (by rw[← List.drop_drop,drop_flat (f:=Bkt.pd) (k:=10) (fun _=>rfl) h,List.drop_append,show q-c.pd.length=0 from Nat.sub_eq_zero_of_le hq,List.drop_zero]) kO s
theorem GB.appG {b key id:Nat}{s:St}{L:List (Nat×D×Nat×List Pd)}{M:List (Nat×Ob)}{l m:List Bkt}{y:D}{K:D→St→Prop}(ho:OA b s L ((id,.grow 10 l.length (cB l) false)::M))(hn:l.length+m.length<2^30)(hy:srcD E0 29 s y=some (m.length,m.flatMap Bkt.pd))
  (hk:∀ s',OA b s' L ((id,.grow 10 (l++m).length (cB (l++m)) false)::M)→s'.nx=s.nx→K (.v (.c (.gs (l++m).length id 0 (l++m).length 10))) s'):stepK (appendD E0 key [29,29] (.v (.c (.gs l.length id 0 l.length 10))) y s) K:=by
 have hfl:(m.flatMap Bkt.pd).length=m.length*10:=flat_len (k:=10) (fun _=>rfl) m
 refine OA.appG (M1:=[]) (M2:=M) (by_:=80) (n:=l.length) (m:=m.length) (ys:=m.flatMap Bkt.pd) (cs:=cB l) (L:=L) ho rfl ⟨_,ti29,rfl⟩ ti41 rfl rfl rfl kD kD hy hfl kO fun s' hs hnx=>?_;simp only[List.length_append,cB_app] at hk;exact hk s' hs hnx
theorem b00:((0:Int) != 0)=false:=rfl
end Go.Proofs.YtedcnhbblgmdnaaGreat.Ab
namespace Go.Proofs.YtedcnhbblgmdnaaGreat.Ab
theorem x12:E0.xt 12=none:=by kernel_rfl
theorem o17:E0.opn 17=false:=by kernel_rfl
theorem x17:E0.xt 17=none:=by kernel_rfl
theorem o23:E0.opn 23=false:=by kernel_rfl
theorem x23:E0.xt 23=none:=by kernel_rfl
/-! ### reading numbers -/
def rdB:Nat→Nat→List UInt8→Nat×Nat×Int
 |_,_,[]=>(0,0,11)
 |i,acc,b::r=>if (128≤b.toNat∧i=8)∨(b.toNat=0∧0<i) then (0,0,12) else if b.toNat<128 then (acc+b.toNat*2 ^ (7*i),i+1,0) else rdB (i+1) (acc+(b.toNat-128)*2 ^ (7*i)) r
def rdV (s:List UInt8):Int×Nat×Int:=if (rdB 0 0 s).2.2≠0 then (0,0,(rdB 0 0 s).2.2) else if 1152921504606846976<(rdB 0 0 s).1 then (0,0,12) else ((rdB 0 0 s).1,(rdB 0 0 s).2.1,0)
def unf (u:Nat):Int:=if u % 2=0 then ((u / 2:Nat):Int) else -((u / 2:Nat):Int)-1
def rdS (s:List UInt8):Int×Nat×Int:=if (rdB 0 0 s).2.2≠0 then (0,0,(rdB 0 0 s).2.2) else if inR (unf (rdB 0 0 s).1)=false then (0,0,12) else (unf (rdB 0 0 s).1,(rdB 0 0 s).2.1,0)
theorem vb_pos (n:Nat):0<(vb n).length:=by
 rcases Nat.lt_or_ge n 128 with h|h
 ·rw[vb_lt h];simp
 ·rw[vb_ge h];simp
theorem rdB_vb:∀(k n i acc:Nat)(rest:List UInt8),i+k=9→n<2 ^ (7*k)→(i=0∨0<n)→rdB i acc (vb n++rest)=(acc+n*2 ^ (7*i),i+(vb n).length,0)
 |0,n,i,acc,rest,hi,hn,h0=>by
  have:n=0:=by simpa using hn
  omega
 |k+1,n,i,acc,rest,hi,hn,h0=>by
  rcases Nat.lt_or_ge n 128 with h|h
  ·rw[vb_lt h]
   have e:(UInt8.ofNat n).toNat=n:=by simp;omega
   simp only[List.cons_append,List.nil_append,rdB,e]
   rw[if_neg kO,if_pos h];rfl
  ·rw[vb_ge h]
   have e:(UInt8.ofNat (n % 128+128)).toNat=n % 128+128:=by simp;omega
   have hk:k≠0:=by
    rintro rfl;simp at hn;omega
   simp only[List.cons_append,rdB,e]
   rw[if_neg kO,if_neg kO]
   have hd:n / 128<2 ^ (7*k):=by
    have e2:2 ^ (7*(k+1))=2 ^ (7*k)*128:=by rw[Nat.mul_add,Nat.pow_add]
    rw[e2] at hn
    exact Nat.div_lt_of_lt_mul (by rw[Nat.mul_comm];exact hn)
   rw[rdB_vb k (n / 128) (i+1) _ rest kO hd (.inr kO)]
   have e3:2 ^ (7*(i+1))=2 ^ (7*i)*128:=by rw[Nat.mul_add,Nat.pow_add]
   have e4:n % 128+128-128=n % 128:=kO
   have e5:n*2 ^ (7*i)=(n % 128)*2 ^ (7*i)+n / 128*(2 ^ (7*i)*128):=by
    have:n=n % 128+128*(n / 128):=(Nat.mod_add_div n 128).symm
    conv=>lhs;rw[this]
    rw[Nat.add_mul,Nat.mul_comm (2 ^ (7*i)) 128,← Nat.mul_assoc,Nat.mul_comm (n / 128) 128]
   simp only[Prod.mk.injEq,and_true]
   refine⟨?_,?_⟩
   ·rw[e3,e4,e5];omega
   ·simp only[List.length_cons];omega
theorem rdV_vb {n:Nat}(h:n≤1152921504606846976)(rest:List UInt8):rdV (vb n++rest)=((n:Int),(vb n).length,0):=by
 have:=rdB_vb 9 n 0 0 rest rfl kO (.inl rfl)
 unfold rdV
 rw[this]
 simp only[Nat.mul_zero,Nat.pow_zero,Nat.mul_one,Nat.zero_add,ne_eq,not_true_eq_false,if_false]
 rw[if_neg kO]
theorem unf_zz {n:Int}(h:inR n=true):unf (zz n)=n:=by
 simp only[inR,Bool.and_eq_true,decide_eq_true_eq] at h;unfold unf zz
 split<;>split<;>omega
theorem rdS_vb {n:Int}(h:inR n=true)(rest:List UInt8):rdS (vb (zz n)++rest)=(n,(vb (zz n)).length,0):=by
 have:=rdB_vb 9 (zz n) 0 0 rest rfl (by have:=zz_lt h;omega) (.inl rfl)
 unfold rdS
 rw[this]
 simp only[Nat.mul_zero,Nat.pow_zero,Nat.mul_one,Nat.zero_add,ne_eq,not_true_eq_false,if_false,unf_zz h]
 rw[if_neg (by simp[h])]
/-! ### lists of numbers -/
def rdN:Nat→List UInt8→List Int×Nat×Int
 |0,_=>([],0,0)
 |k+1,s=>if (rdS s).2.2≠0 then ([],0,(rdS s).2.2) else
  if (rdN k (s.drop (rdS s).2.1)).2.2≠0 then ([],0,(rdN k (s.drop (rdS s).2.1)).2.2) else ((rdS s).1::(rdN k (s.drop (rdS s).2.1)).1,(rdS s).2.1+(rdN k (s.drop (rdS s).2.1)).2.1,0)
def decI (s:List UInt8):List Int×Int:=if (rdV s).2.2≠0 then ([],(rdV s).2.2) else if 20000<(rdV s).1 then ([],4) else
 if (rdN (rdV s).1.toNat (s.drop (rdV s).2.1)).2.2≠0 then ([],(rdN (rdV s).1.toNat (s.drop (rdV s).2.1)).2.2) else
 if (rdV s).2.1+(rdN (rdV s).1.toNat (s.drop (rdV s).2.1)).2.1≠s.length then ([],12) else ((rdN (rdV s).1.toNat (s.drop (rdV s).2.1)).1,0)
theorem rdN_enc:∀(l:List Int)(rest:List UInt8),l.all inR=true→rdN l.length (encL l++rest)=(l,(encL l).length,0)
 |[],rest,_=>rfl
 |x::r,rest,h=>by
  simp only[List.all_cons,Bool.and_eq_true] at h
  have e:encL (x::r)++rest=vb (zz x)++(encL r++rest):=by simp[encL]
  have hd:(vb (zz x)++(encL r++rest)).drop (vb (zz x)).length=encL r++rest:=by simp
  rw[List.length_cons,e,rdN,rdS_vb h.1,hd,rdN_enc r rest h.2]
  simp[encL]
theorem decI_enc {l:List Int}(h:(encI l).2=0):decI (encI l).1=(l,0):=by
 unfold encI at *
 split at h
 ·cases h
 ·rename_i hl
  split at h
  ·rename_i hr
   rw[if_neg hl,if_pos hr]
   simp only;unfold decI
   rw[rdV_vb kO]
   have hd:(vb l.length++encL l).drop (vb l.length).length=encL l:=by simp
   have e:=rdN_enc l [] hr
   rw[List.append_nil] at e
   simp only[ne_eq,not_true_eq_false,if_false]
   rw[if_neg kO,Int.toNat_natCast,hd,e]
   simp
  ·cases h
/-! ### columns -/
abbrev RdT:=Nat×Int
def numR (rd:List UInt8→Int×Nat×Int)(t:List UInt8)(st:RdT):Int×RdT:=if st.2≠0 then (0,st) else ((rd (t.drop st.1)).1,(st.1+(rd (t.drop st.1)).2.1,(rd (t.drop st.1)).2.2))
def runB (m:Nat)(y:Int×RdT):Int:=if y.2.2=0∧(y.1=0∨(m:Int)<y.1) then 12 else y.2.2
def runsR (t:List UInt8):Nat→Nat→RdT→List Int×RdT
 |0,_,st=>([],st)
 |k+1,m,st=>if m=0 then ([],st) else
  let x:=numR rdS t st
  let y:=numR rdV t x.2
  if runB m y≠0 then ([],(y.2.1,runB m y)) else
  let q:=runsR t k (m-y.1.toNat) y.2
  (if q.2.2≠0 then ([],q.2) else (List.replicate y.1.toNat x.1++q.1,q.2))
def sumsW (f:Int):List Int→List Int
 |[]=>[f]
 |x::r=>f::sumsW (IntKind.i64.wrap (f+x)) r
def timesR (t:List UInt8)(c:Nat)(st:RdT):List Int×RdT :=
 if c=0 then ([],st) else
 let f:=numR rdS t st
 if c=1 then ([f.1],f.2) else
 let d:=numR rdS t f.2
 let o:=runsR t (c-2) (c-2) d.2
 (sumsW f.1 (sumsW d.1 o.1),o.2)
def valuesR (t:List UInt8)(c:Nat)(st:RdT):List Int×RdT :=
 if c=0 then ([],st) else
 let f:=numR rdS t st
 let o:=runsR t (c-1) (c-1) f.2
 (sumsW f.1 o.1,o.2)
def colR (rd:Nat→RdT→List Int×RdT)(enc:List Int→List UInt8×Int)(t:List UInt8):List Int×Int :=
 let c:=numR rdV t (0,0)
 if 20000<c.1 then ([],4) else
 let q:=rd c.1.toNat c.2
 if q.2.2≠0 then ([],q.2.2) else if q.2.1≠t.length then ([],12) else if (enc q.1).2=0∧(enc q.1).1=t then (q.1,0) else ([],12)
def decT (t:List UInt8):List Int×Int:=colR (timesR t) encT t
def decV (t:List UInt8):List Int×Int:=colR (valuesR t) encV t
theorem numR_S {t rest:List UInt8}{at_:Nat}{n:Int}(hd:t.drop at_=vb (zz n)++rest)(h:inR n=true):numR rdS t (at_,0)=(n,(at_+(vb (zz n)).length,0)):=by
 simp[numR,hd,rdS_vb h]
theorem numR_V {t rest:List UInt8}{at_ n:Nat}(hd:t.drop at_=vb n++rest)(h:n≤1152921504606846976):numR rdV t (at_,0)=((n:Int),(at_+(vb n).length,0)):=by
 simp[numR,hd,rdV_vb h]
theorem runE_cons (x:Int)(r:List Int):∃ m r',x::r=List.replicate (m+1) x++r'∧runE (x::r)=vb (zz x)++(vb (m+1)++runE r')∧r'.length+(m+1)=r.length+1:=by
 refine⟨(r.takeWhile (· == x)).length,r.dropWhile (· == x),?_,by rw[runE],?_⟩
 ·have h1:r.takeWhile (· == x)=List.replicate (r.takeWhile (· == x)).length x:=by
   rw[List.eq_replicate_iff]
   exact⟨rfl,fun y hy=>by have:=List.all_eq_true.1 (List.all_takeWhile (p:=(· == x)) (l:=r)) y hy;simpa using this⟩
  rw[List.replicate_succ,← h1,List.cons_append,List.takeWhile_append_dropWhile]
 ·have:=congrArg List.length (List.takeWhile_append_dropWhile (p:=(· == x)) (l:=r))
  rw[List.length_append] at this
  omega
theorem runsR_enc (t:List UInt8):∀(k:Nat) (l:List Int) (at_:Nat) (rest:List UInt8),l.length≤k→l.length≤20000→l.all inR=true→t.drop at_=runE l++rest→runsR t k l.length (at_,0)=(l,(at_+(runE l).length,0))
 |0,l,at_,rest,hk,_,_,hd=>by
  have:l=[]:=List.length_eq_zero_iff.1 kO
  subst this
  simp[runsR,runE]
 |k+1,[],at_,rest,hk,_,_,hd=>by simp[runsR,runE]
 |k+1,x::r,at_,rest,hk,hm,hr,hd=>by
  obtain⟨m,r',e1,e2,e3⟩:=runE_cons x r
  have hx:inR x=true:=by simp only[List.all_cons,Bool.and_eq_true] at hr;exact hr.1
  have hr':r'.all inR=true:=by rw[e1,List.all_append,Bool.and_eq_true] at hr;exact hr.2
  simp only[List.length_cons] at hk hm
  rw[e2,List.append_assoc,List.append_assoc] at hd
  have n1:=numR_S hd hx
  have hd2:t.drop (at_+(vb (zz x)).length)=vb (m+1)++(runE r' ++ rest):=by rw[← List.drop_drop,hd];simp
  have n2:=numR_V hd2 kO
  have hd3:t.drop (at_+(vb (zz x)).length+(vb (m+1)).length)=runE r' ++ rest:=by rw[← List.drop_drop,hd2];simp
  have ih:=runsR_enc t k r' _ rest kO kO hr' hd3
  rw[runsR,if_neg kS]
  simp only[n1,n2]
  have hb:runB (x::r).length (((m+1:Nat):Int),(at_+(vb (zz x)).length+(vb (m+1)).length,0))=0:=by
   unfold runB
   rw[if_neg]
   simp only[List.length_cons];omega
  have el:(x::r).length-((m+1:Nat):Int).toNat=r'.length:=by simp only[List.length_cons];omega
  rw[if_neg (by rw[hb];simp),el,ih]
  simp only[ne_eq,not_true_eq_false,if_false];refine Prod.ext ?_ (Prod.ext ?_ rfl)
  ·show List.replicate ((m+1:Nat):Int).toNat x++r'=x::r
   rw[Int.toNat_natCast,e1]
  ·rw[e2];simp only[List.length_append];omega
theorem sumsW_diffs:∀(x:Int)(r:List Int),(∀ y∈x::r,-9223372036854775808≤y∧y<9223372036854775808)→sumsW x (diffs (x::r))=x::r
 |x,[],_=>rfl
 |x,y::r,h=>by
  have hy:=h y kS
  have e:IntKind.i64.wrap (x+(y-x))=y:=by rw[wi64];omega
  simp only[diffs,sumsW,e]
  rw[sumsW_diffs y r fun z hz=>h z (by simp at hz ⊢;right;exact hz)]
theorem sumsW_diffs' {l:List Int}{x:Int}{r:List Int}(e:l=x::r)(h:∀ y∈l,-9223372036854775808≤y∧y<9223372036854775808):sumsW x (diffs l)=l:=by
 subst e;exact sumsW_diffs x r h
theorem decV_enc {l:List Int}(h:(encV l).2=0):decV (encV l).1=(l,0):=by
 have hen:encV l=(vb l.length++first1 l++runE (diffs l),0)∧l.length≤20000∧l.all inV=true:=by
  unfold encV at h ⊢
  split at h
  ·cases h
  ·rename_i h1
   split at h
   ·rename_i h2;rw[if_neg h1,if_pos h2];exact⟨rfl,kO,h2⟩
   ·cases h
 obtain⟨he,hl,hv⟩:=hen
 have hV:=inV_all hv
 have hR:∀ x∈l,inR x=true:=fun x hx=>inV_R (List.all_eq_true.1 hv x hx)
 have hdR:(diffs l).all inR=true:=List.all_eq_true.2 fun d hd=>by have:=diffs_mem hV d hd;simp[inR];omega
 have hdl:=diffs_len l
 generalize ht:(encV l).1=t
 rw[he] at ht
 simp only at ht
 have n1:=numR_V (t:=t) (at_:=0) (n:=l.length) (rest:=first1 l++runE (diffs l)) (by rw[List.drop_zero,← ht,List.append_assoc]) kO
 have hq:valuesR t l.length (0+(vb l.length).length,0)=(l,(t.length,0)):=by
  unfold valuesR;cases l with
  |nil =>
   rw[← ht]
   simp[first1,diffs,runE]
  |cons x r =>
   rw[if_neg kS]
   have hd:t.drop (0+(vb (x::r).length).length)=vb (zz x)++runE (diffs (x::r)):=by rw[← ht];simp[first1]
   have n2:=numR_S hd (hR x kS)
   have hd2:t.drop (0+(vb (x::r).length).length+(vb (zz x)).length)=runE (diffs (x::r))++[]:=by rw[← List.drop_drop,hd];simp
   have n3:=runsR_enc t (diffs (x::r)).length (diffs (x::r)) _ [] (Nat.le_refl _) kO hdR hd2
   rw[hdl] at n3
   simp only[n2,n3]
   rw[sumsW_diffs x r fun y hy=>by have:=hV y hy;omega]
   refine Prod.ext rfl (Prod.ext ?_ rfl)
   show _=t.length
   rw[← ht];simp only[List.length_append,first1];omega
 show colR (valuesR t) encV t=_
 unfold colR;simp only[n1]
 rw[if_neg kO,Int.toNat_natCast,hq]
 simp only[ne_eq,not_true_eq_false,if_false,he,ht,and_self,if_true]
theorem decT_enc {l:List Int}(h:(encT l).2=0):decT (encT l).1=(l,0):=by
 have hc:chkT l=0:=by
  unfold encT at h
  split at h
  ·assumption
  ·exact h
 have he:encT l=(vb l.length++first1 l++first1 (diffs l)++runE (diffs (diffs l)),0):=by unfold encT;rw[if_pos hc]
 obtain⟨hl,hV⟩:=chkT_ok hc
 have hR:∀ x∈l,inR x=true:=fun x hx=>by have:=hV x hx;simp[inR];omega
 have hD:=diffs_mem hV
 have hDR:∀ x∈diffs l,inR x=true:=fun x hx=>by have:=hD x hx;simp[inR];omega
 have hDD:=diffs_mem hD
 have hDDR:(diffs (diffs l)).all inR=true:=List.all_eq_true.2 fun d hd=>by have:=hDD d hd;simp[inR];omega
 have hdl:=diffs_len l
 have hddl:=diffs_len (diffs l)
 generalize ht:(encT l).1=t
 rw[he] at ht
 simp only at ht
 have n1:=numR_V (t:=t) (at_:=0) (n:=l.length) (rest:=first1 l++(first1 (diffs l)++runE (diffs (diffs l)))) (by rw[List.drop_zero,← ht];simp only[List.append_assoc]) kO
 have hq:timesR t l.length (0+(vb l.length).length,0)=(l,(t.length,0)):=by
  unfold timesR
  match l,hl,hV,hR,hD,hDR,hDD,hDDR,hdl,hddl,ht with
  |[],_,_,_,_,_,_,_,_,_,ht =>
   rw[← ht]
   simp[first1,diffs,runE]
  |[x],_,_,hR,_,_,_,_,_,_,ht =>
   have hd:t.drop (0+(vb [x].length).length)=vb (zz x)++[]:=by rw[← ht];simp[first1,diffs,runE]
   have n2:=numR_S hd (hR x kS)
   simp only[n2]
   rw[if_neg kS,if_pos kS,← ht]
   simp[first1,diffs,runE]
  |x::y::r,hl,hV,hR,hD,hDR,hDD,hDDR,hdl,hddl,ht =>
   rw[if_neg kS]
   have hd:t.drop (0+(vb (x::y::r).length).length)=vb (zz x)++(vb (zz (y-x))++runE (diffs (diffs (x::y::r)))):=by rw[← ht];simp[first1,diffs]
   have n2:=numR_S hd (hR x kS)
   have hd2:t.drop (0+(vb (x::y::r).length).length+(vb (zz x)).length)=vb (zz (y-x))++runE (diffs (diffs (x::y::r))):=by rw[← List.drop_drop,hd];simp
   have n3:=numR_S hd2 (hDR (y-x) (by simp[diffs]))
   have hd3:t.drop (0+(vb (x::y::r).length).length+(vb (zz x)).length+(vb (zz (y-x))).length)=runE (diffs (diffs (x::y::r)))++[]:=by rw[← List.drop_drop,hd2];simp
   have n4:=runsR_enc t (diffs (diffs (x::y::r))).length (diffs (diffs (x::y::r))) _ [] (Nat.le_refl _) kO hDDR hd3
   have e0:(diffs (diffs (x::y::r))).length=(x::y::r).length-2:=kO
   rw[e0] at n4
   simp only[n2,n3,n4]
   rw [if_neg kS, sumsW_diffs' (l := diffs (x :: y :: r)) rfl fun z hz => by have := hD z hz; omega,
    sumsW_diffs' (l:=x::y::r) rfl fun z hz=>by have:=hV z hz;omega]
   refine Prod.ext rfl (Prod.ext ?_ rfl)
   show _=t.length
   rw[← ht];simp only[List.length_append,first1,diffs];omega
 show colR (timesR t) encT t=_
 unfold colR;simp only[n1]
 rw[if_neg kO,Int.toNat_natCast,hq]
 simp only[ne_eq,not_true_eq_false,if_false,he,ht,and_self,if_true]
def decF (f:Int)(s:List UInt8):List Int×Int:=if f=0 then decT s else if f=1 then decV s else decI s
theorem decF_enc {f:Int}{l:List Int}(h:(encF f l).2=0):decF f (encF f l).1=(l,0):=by
 unfold encF decF at *
 split at h
 ·rename_i h0;rw[if_pos h0,if_pos h0];exact decT_enc h
 ·rename_i h0
  rw[if_neg h0,if_neg h0]
  split at h
  ·rename_i h1;rw[if_pos h1,if_pos h1];exact decV_enc h
  ·rename_i h1;rw[if_neg h1,if_neg h1];exact decI_enc h
/-! ### parts -/
def splitN:Nat→List UInt8→Option (List (List UInt8))
 |0,s=>if s=[] then some [] else none
 |k+1,s=>if s=[] then none else if (rdV s).2.2≠0∨((s.length-(rdV s).2.1:Nat):Int)<(rdV s).1 then none else
  (splitN k (s.drop ((rdV s).2.1+(rdV s).1.toNat))).map (((s.drop (rdV s).2.1).take (rdV s).1.toNat) :: ·)
theorem flatP_cons (s:List UInt8)(r:List (List UInt8)):flatP (s::r)=vb s.length++(s++flatP r):=by simp[flatP]
theorem splitN_flat:∀ ss:List (List UInt8),(∀ s∈ss,s.length≤1152921504606846976)→splitN ss.length (flatP ss)=some ss
 |[],_=>rfl
 |s::r,h=>by
  have hs:=h s kS
  have hv:=rdV_vb hs (s++flatP r)
  have hp:=vb_pos s.length
  have hne:¬ (flatP (s::r)=[]):=fun e=>by
   have:=congrArg List.length e
   rw[flatP_cons,List.length_append,List.length_nil] at this
   omega
  rw[List.length_cons,splitN,if_neg hne,flatP_cons,hv]
  simp only
  have hl:((vb s.length++(s++flatP r)).length-(vb s.length).length:Nat)=s.length+(flatP r).length:=by simp only[List.length_append];omega
  rw[if_neg (by rw[hl];rintro (h0 | h0);exact h0 rfl;omega),Int.toNat_natCast]
  have d1:(vb s.length++(s++flatP r)).drop ((vb s.length).length+s.length)=flatP r:=by rw[← List.drop_drop];simp
  have d2:((vb s.length++(s++flatP r)).drop (vb s.length).length).take s.length=s:=by simp
  rw[d1,d2,splitN_flat r fun x hx=>h x (by simp[hx])]
  rfl
abbrev ColR (A:Type):=Int×(A→Int→A)
def unpkG {A:Type}:List (ColR A)→List (List UInt8)→List A→Option (List A)
 |c::cs,s::ss,l=>if (decF c.1 s).2≠0∨(decF c.1 s).1.length≠l.length then none else unpkG cs ss (List.zipWith c.2 l (decF c.1 s).1)
 |_,_,l=>some l
def unpk {A:Type}(z:A):List (ColR A)→List (List UInt8)→Option (List A)
 |c::cs,s::ss=>if (decF c.1 s).2≠0 then none else unpkG cs ss ((decF c.1 s).1.map (c.2 z))
 |_,_=>some []
instance:DecidableEq Zo:=fun ⟨a,b,c,d,e⟩ ⟨a',b',c',d',e'⟩=>decidable_of_iff (a=a'∧b=b'∧c=c'∧d=d'∧e=e') kS
theorem zipWith_mm {A B:Type}(f:B→Int→B)(g:A→B)(h:A→Int):∀ l:List A,List.zipWith f (l.map g) (l.map h)=l.map fun a=>f (g a) (h a)
 |[]=>rfl
 |a::r=>by simp[zipWith_mm f g h r]
theorem unpkG_enc {A:Type}(l:List A):∀(cs:List (ColR A×(A→Int))) (g:A→A),(∀ c∈cs,(encF c.1.1 (l.map c.2)).2=0) →
  unpkG (cs.map (·.1)) (cs.map fun c=>(encF c.1.1 (l.map c.2)).1) (l.map g)=some (l.map (cs.foldl (fun g c=>fun a=>c.1.2 (g a) (c.2 a)) g))
 |[],g,_=>rfl
 |c::r,g,h=>by
  simp only[List.map_cons,unpkG,decF_enc (h c kS),List.length_map]
  rw[if_neg kS,zipWith_mm,unpkG_enc l r _ fun x hx=>h x (by simp[hx])]
  rfl
theorem unpk_enc {A:Type}(z:A)(l:List A)(c:ColR A×(A→Int))(cs:List (ColR A×(A→Int)))(h:∀ x∈c::cs,(encF x.1.1 (l.map x.2)).2=0) :
  unpk z ((c::cs).map (·.1)) ((c::cs).map fun c=>(encF c.1.1 (l.map c.2)).1)=some (l.map ((c::cs).foldl (fun g c=>fun a=>c.1.2 (g a) (c.2 a)) fun _=>z)):=by
 simp only[List.map_cons,unpk,decF_enc (h c kS),List.map_map]
 rw[if_neg kS]
 exact unpkG_enc l cs _ fun x hx=>h x (by simp[hx])
theorem colsOK_some {cs:List (List UInt8×Int)}{ss:List (List UInt8)}(h:colsOK cs=some ss):ss=cs.map (·.1)∧∀ c∈cs,c.2=0:=by
 unfold colsOK at h
 split at h
 ·rename_i hc
  cases h
  refine⟨rfl,fun c hm=>?_⟩
  have:=List.all_eq_true.1 hc c hm
  simpa using this
 ·cases h
theorem encF0 (l:List Int):encF 0 l=encT l:=rfl
theorem encF1 (l:List Int):encF 1 l=encV l:=by unfold encF;rw[if_neg kD,if_pos rfl]
/-! ### rollups, encoded and read again -/
structure ZG where
 c:Int
 t1:Int
 t2:Int
 v1:Int
 v2:Int
 b0:Int
 b1:Int
 b2:Int
 b3:Int
 b4:Int
 b5:Int
 b6:Int
 b7:Int
 deriving DecidableEq
abbrev pU (n:Int):Pd:=.int .u32 n
abbrev ZG.pd (z:ZG):List Pd:=[pI z.c,pI z.t1,pI z.t2,pI z.v1,pI z.v2,pU z.b0,pU z.b1,pU z.b2,pU z.b3,pU z.b4,pU z.b5,pU z.b6,pU z.b7]
abbrev Zo.g (z:Zo):ZG:=⟨z.c,z.t1,z.t2,z.v1,z.v2,0,0,0,0,0,0,0,0⟩
def zB:Bkt:=⟨0,0,0,0,0,0,0,0,0,0⟩
def bktR:List (ColR Bkt):=[(0,fun b n=>{ b with st:=IntKind.i64.wrap (n-1) }),(1,fun b n=>{ b with c:=n }),(1,fun b n=>{ b with s:=n }),(1,fun b n=>{ b with mn:=n }),(1,fun b n=>{ b with mx:=n }),(1,fun b n=>{ b with f:=n }),(1,fun b n=>{ b with l:=n }),(1,fun b n=>{ b with ft:=n }),(1,fun b n=>{ b with lt:=n }),(1,fun b n=>{ b with inc:=n })]
def parseL (lb:List Lb)(d:List UInt8):Option Rlp :=
 if (rdV d).2.2≠0∨262144<d.length then none else
 if (rdV (d.drop (rdV d).2.1)).2.2≠0 then none else
 match splitN 10 (d.drop ((rdV d).2.1+(rdV (d.drop (rdV d).2.1)).2.1)) with
 |none=>none
 |some ss=>(unpk zB bktR ss).map fun l=>⟨lb,(rdV d).1,(rdV (d.drop (rdV d).2.1)).1,l⟩
def encLo (x:Rlp):Option (List UInt8):=if rlpOK x=false then none else match packE x.bs bktCols with
 |none=>none
 |some ss=>jn (appV (appV [] x.k).1 x.w).1 ss
theorem encR_some {x:Rlp}{d:List UInt8}(h:encLo x=some d):encR x=.tup [chV 6 (.lst x.lb.length (x.lb.flatMap lbP)) (rlpZ x.bs).pd d,.c (.p (pI 0))]:=by
 unfold encLo at h;unfold encR
 split at h
 ·cases h
 ·rename_i hs
  rw[if_neg hs]
  split at h
  ·cases h
  ·rename_i ss hss
   rw[hss]
   simp only[h,finE]
theorem encR_none {x:Rlp}(h:encLo x=none):encR x=.tup [noCh,.c (.p (pI (if rlpOK x then 4 else 1)))]:=by
 unfold encLo at h;unfold encR
 split at h
 ·rename_i hs;rw[if_pos hs,hs];rfl
 ·rename_i hs
  have hs':rlpOK x=true:=by simpa using hs
  rw[if_neg hs,hs',if_pos rfl]
  split at h
  ·rename_i hss;rw[hss]
  ·rename_i ss hss
   rw[hss]
   simp only[h,finE]
def decL (lb:List Lb)(z:ZG)(d:List UInt8):Option Rlp:=match parseL lb d with
 |none=>none
 |some x=>if encLo x=some d∧(rlpZ x.bs).g=z then some x else none
theorem bksOK_st {k w:Int}:∀ {l:List Bkt} {p:Int},bksOK k w p l=true→-1≤p→∀ b∈l,0≤b.st∧b.st<1099511627776
 |[],p,_,_=>fun b hb=>by cases hb
 |a::r,p,h,hp=>by
  simp only[bksOK,Bool.and_eq_true,Bool.not_eq_true',Bool.or_eq_false_iff,decide_eq_false_iff_not] at h
  obtain⟨⟨⟨h1,h2⟩,_⟩,_,h3⟩:=h
  intro b hb;rcases List.mem_cons.1 hb with rfl|hb
  ·omega
  ·exact bksOK_st h3 kO b hb
def bktCs (l:List Bkt):List (List UInt8×Int):=bktCols.map fun c=>encF c.f (l.map c.get)
theorem unpk_bkt {l:List Bkt}{ss:List (List UInt8)}(h:colsOK (bktCs l)=some ss)(hb:∀ b∈l,0≤b.st∧b.st<1099511627776):unpk zB bktR ss=some l:=by
 obtain⟨rfl,hz⟩:=colsOK_some h
 simp only[bktCs,bktCols,List.map_cons,List.map_nil,List.forall_mem_cons] at hz
 obtain⟨z0,z1,z2,z3,z4,z5,z6,z7,z8,z9,_⟩:=hz
 have := unpk_enc zB l ((0, fun b n => { b with st := IntKind.i64.wrap (n - 1) }), (fun b => IntKind.i64.wrap (b.st + 1))) [((1, fun b n => { b with c := n }), (·.c)), ((1, fun b n => { b with s := n }), (·.s)), ((1, fun b n => { b with mn := n }), (·.mn)), ((1, fun b n => { b with mx := n }), (·.mx)), ((1, fun b n => { b with f := n }), (·.f)), ((1, fun b n => { b with l := n }), (·.l)), ((1, fun b n => { b with ft := n }), (·.ft)), ((1, fun b n => { b with lt := n }), (·.lt)), ((1, fun b n => { b with inc := n }), (·.inc))] (by
  intro c hc;simp only[List.mem_cons,List.not_mem_nil,or_false] at hc;rcases hc with rfl|rfl|rfl|rfl|rfl|rfl|rfl|rfl|rfl|rfl<;>assumption)
 simp only[List.map_cons,List.map_nil,List.foldl_cons,List.foldl_nil] at this;simp only[bktCs,bktCols,bktR,List.map_cons,List.map_nil]
 rw[this]
 congr 1
 rw[List.map_congr_left (g:=id),List.map_id]
 intro b hbm
 obtain⟨h1,h2⟩:=hb b hbm
 have e:IntKind.i64.wrap (IntKind.i64.wrap (b.st+1)-1)=b.st:=by rw[wi64,wi64];omega
 simp only[e,id]
theorem encLo_some {x:Rlp}{d:List UInt8}(h:encLo x=some d):rlpOK x=true∧∃ ss,colsOK (bktCs x.bs)=some ss∧d=vb x.k.toNat++(vb x.w.toNat++flatP ss)∧d.length≤262144:=by
 unfold encLo at h
 split at h
 ·cases h
 ·rename_i hs
  have hs':rlpOK x=true:=by simpa using hs
  obtain⟨hk,hw,_,_⟩:=rlpOK_some hs'
  refine⟨hs',?_⟩
  rw[packE_cols] at h
  split at h
  ·cases h
  ·rename_i ss hss
   have e:(appV (appV [] x.k).1 x.w).1=vb x.k.toNat++vb x.w.toNat:=by
    have e1:appV [] x.k=(vb x.k.toNat,0):=by unfold appV;rw[if_neg kO];rfl
    rw[e1];unfold appV;rw[if_neg kO]
   have hv:=vb_len10 (n:=x.k.toNat) kO
   have hv2:=vb_len10 (n:=x.w.toNat) kO
   rw[e,jn_eq _ _ (by rw[List.length_append];omega)] at h
   split at h
   ·cases h
   ·rename_i hl
    cases h
    exact⟨ss,hss,by rw[List.append_assoc],kO⟩
theorem bktCs_n (l:List Bkt){ss:List (List UInt8)}(h:colsOK (bktCs l)=some ss):ss.length=10:=by
 obtain⟨rfl,_⟩:=colsOK_some h
 simp[bktCs,bktCols]
theorem flatP_parts {p d:List UInt8}{ss:List (List UInt8)}(hd:d=p++flatP ss)(hl:d.length≤262144):∀ s∈ss,s.length≤1152921504606846976:=by
 intro s hs
 have:s.length≤(flatP ss).length:=by
  obtain⟨a,b,rfl⟩:=List.append_of_mem hs
  simp only[flatP,List.flatMap_append,List.flatMap_cons,List.length_append];omega
 rw[hd,List.length_append] at hl
 omega
theorem parseL_enc {x:Rlp}{d:List UInt8}(h:encLo x=some d):parseL x.lb d=some x:=by
 obtain⟨hs,ss,hss,hd,hl⟩:=encLo_some h
 obtain⟨hk,hw,_,_⟩:=rlpOK_some hs
 have hp:=flatP_parts (p:=vb x.k.toNat++vb x.w.toNat) (by rw[hd,List.append_assoc]) hl
 have hn:=bktCs_n x.bs hss
 have hv:=rdV_vb (n:=x.k.toNat) kO (vb x.w.toNat++flatP ss)
 rw[← hd] at hv
 have hdr:d.drop (vb x.k.toNat).length=vb x.w.toNat++flatP ss:=by rw[hd];simp
 have hv2:=rdV_vb (n:=x.w.toNat) kO (flatP ss)
 have hdr2:d.drop ((vb x.k.toNat).length+(vb x.w.toNat).length)=flatP ss:=by rw[← List.drop_drop,hdr];simp
 have hkk:((x.k.toNat:Nat):Int)=x.k:=kO
 have hww:((x.w.toNat:Nat):Int)=x.w:=kO
 have hst:∀ b∈x.bs,0≤b.st∧b.st<1099511627776:=by
  unfold rlpOK at hs;simp only[Bool.and_eq_true] at hs;exact bksOK_st hs.2.2 (Int.le_refl _)
 have hsp:=splitN_flat ss hp
 rw[hn] at hsp
 unfold parseL
 rw[hv]
 simp only[hdr,hv2,hdr2,hkk,hww]
 rw[if_neg (by simp;omega),if_neg kS,hsp]
 simp only[unpk_bkt hss hst,Option.map_some]
theorem decL_enc {x:Rlp}{d:List UInt8}(h:encLo x=some d):decL x.lb (rlpZ x.bs).g d=some x:=by
 unfold decL
 rw[parseL_enc h]
 simp only[h]
 rw[if_pos ⟨trivial,trivial⟩]
end Go.Proofs.YtedcnhbblgmdnaaGreat.Ab
