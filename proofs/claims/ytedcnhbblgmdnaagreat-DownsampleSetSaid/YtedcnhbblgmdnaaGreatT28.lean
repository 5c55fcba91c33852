/- A part of the proof. -/
import Derived.Test.YtedcnhbblgmdnaaGreatT27
import Derived.Test.YtedcnhbblgmdnaaGreatT23
import Derived.Test.YtedcnhbblgmdnaaGreatT26
import Derived.Test.YtedcnhbblgmdnaaGreatT21
set_option maxHeartbeats 8000000
set_option maxRecDepth 10000
set_option linter.unusedSimpArgs false
set_option linter.unusedVariables false
namespace Go.Proofs.YtedcnhbblgmdnaaGreat.Ab
theorem pf140 (t:Int):Pf E0 140 [.c (.p (pI t))] (P' (.bool (btw t (1) 1152921504606846976))):=by
 unfold btw;refine gQ (fn:=Tryz.f140) ?_;simp only[gL,Tryz.ntmps140,Nat.reduceSub,Nat.reduceAdd];refine gY ?_;refine Wc.seq ?_;cases h:decide ((1:Int)≤t) with
 |true =>
  apply gR (by simp only[go_sem,h,ge_iff_le];rfl)
  rw[Bool.true_and]
  exact wr (gU [.tmp 2] [.c (.p (.bool (decide (t≤1152921504606846976))))])
 |false =>
  apply gR (by simp only[go_sem,h,ge_iff_le];rfl)
  rw[Bool.false_and]
  exact wr (gU [.tmp 2] [.c (.p (.bool false))])
theorem pf144 (t:Int):Pf E0 144 [.c (.p (pI t))] (P' (.bool (btw t (1) 1099511627776))):=by
 unfold btw;refine gQ (fn:=Tryz.f144) ?_;simp only[gL,Tryz.ntmps144,Nat.reduceSub,Nat.reduceAdd];refine gY ?_;refine Wc.seq ?_;cases h:decide ((1:Int)≤t) with
 |true =>
  apply gR (by simp only[go_sem,h,ge_iff_le];rfl)
  rw[Bool.true_and]
  exact wr (gU [.tmp 2] [.c (.p (.bool (decide (t≤1099511627776))))])
 |false =>
  apply gR (by simp only[go_sem,h,ge_iff_le];rfl)
  rw[Bool.false_and]
  exact wr (gU [.tmp 2] [.c (.p (.bool false))])
theorem pf185 (t:Int):Pf E0 185 [.c (.p (pI t))] (P' (.bool (btw t (1) 1099511627776))):=by
 unfold btw;refine gQ (fn:=Tryz.f185) ?_;simp only[gL,Tryz.ntmps185,Nat.reduceSub,Nat.reduceAdd];refine gY ?_;refine Wc.seq ?_;cases h:decide ((1:Int)≤t) with
 |true =>
  apply gR (by simp only[go_sem,h,ge_iff_le];rfl)
  rw[Bool.true_and]
  exact wr (gU [.tmp 2] [.c (.p (.bool (decide (t≤1099511627776))))])
 |false =>
  apply gR (by simp only[go_sem,h,ge_iff_le];rfl)
  rw[Bool.false_and]
  exact wr (gU [.tmp 2] [.c (.p (.bool false))])
theorem pf260 (t:Int):Pf E0 260 [.c (.p (pI t))] (P' (.bool (btw t (-1099511627776) 1099511627776))):=by
 unfold btw;refine gQ (fn:=Tryz.f260) ?_;simp only[gL,Tryz.ntmps260,Nat.reduceSub,Nat.reduceAdd];refine gY ?_;refine Wc.seq ?_;cases h:decide ((-1099511627776:Int)≤t) with
 |true =>
  apply gR (by simp only[go_sem,h,ge_iff_le];rfl)
  rw[Bool.true_and]
  exact wr (gU [.tmp 2] [.c (.p (.bool (decide (t≤1099511627776))))])
 |false =>
  apply gR (by simp only[go_sem,h,ge_iff_le];rfl)
  rw[Bool.false_and]
  exact wr (gU [.tmp 2] [.c (.p (.bool false))])
theorem pf141 (s:List UInt8):Pf E0 141 [.c (.p (.str s))] (P' (.bool (nmL s))):=by
 unfold nmL btw;refine gQ (fn:=Tryz.f141) ?_;simp only[gL,Tryz.ntmps141,Nat.reduceSub,Nat.reduceAdd];refine gY ?_;refine Wc.seq ?_;cases h:decide ((1:Int)≤s.length) with
 |true =>
  apply gR (by simp only[go_sem,h,ge_iff_le];rfl)
  rw[Bool.true_and]
  exact wr (gU [.tmp 2] [.c (.p (.bool (decide ((s.length:Int)≤60))))])
 |false =>
  apply gR (by simp only[go_sem,h,ge_iff_le];rfl)
  rw[Bool.false_and]
  exact wr (gU [.tmp 2] [.c (.p (.bool false))])
theorem pf232 (s:List UInt8):Pf E0 232 [.c (.p (.str s))] (P' (.bool (nmL s))):=by
 unfold nmL btw;refine gQ (fn:=Tryz.f232) ?_;simp only[gL,Tryz.ntmps232,Nat.reduceSub,Nat.reduceAdd];refine gY ?_;refine Wc.seq ?_;cases h:decide ((1:Int)≤s.length) with
 |true =>
  apply gR (by simp only[go_sem,h,ge_iff_le];rfl)
  rw[Bool.true_and]
  exact wr (gU [.tmp 2] [.c (.p (.bool (decide ((s.length:Int)≤60))))])
 |false =>
  apply gR (by simp only[go_sem,h,ge_iff_le];rfl)
  rw[Bool.false_and]
  exact wr (gU [.tmp 2] [.c (.p (.bool false))])
theorem pf259 (s:List UInt8):Pf E0 259 [.c (.p (.str s))] (P' (.bool (nmL s))):=by
 unfold nmL btw;refine gQ (fn:=Tryz.f259) ?_;simp only[gL,Tryz.ntmps259,Nat.reduceSub,Nat.reduceAdd];refine gY ?_;refine Wc.seq ?_;cases h:decide ((1:Int)≤s.length) with
 |true =>
  apply gR (by simp only[go_sem,h,ge_iff_le];rfl)
  rw[Bool.true_and]
  exact wr (gU [.tmp 2] [.c (.p (.bool (decide ((s.length:Int)≤60))))])
 |false =>
  apply gR (by simp only[go_sem,h,ge_iff_le];rfl)
  rw[Bool.false_and]
  exact wr (gU [.tmp 2] [.c (.p (.bool false))])
theorem pf142 (t:Int):Pf E0 142 [.c (.p (pI t))] (P' (pI (t.fdiv 1024))):=by
 have h:shrI IntKind.i64 t 10=t.fdiv 1024:=rfl
 refine gQ (fn:=Tryz.f142) ?_;simp only[gL,Tryz.ntmps142,Nat.reduceSub,Nat.reduceAdd];refine gY ?_;apply gS kB;exact wr (gV [.tmp 2] [.c (.p (pI (t.fdiv 1024)))] (by simp only[go_sem,h]))
theorem pf187 (t:Int)(hw : -2^63≤t∧t<2^63):Pf E0 187 [.c (.p (pI t))] (P' (pI (t.tdiv 1024))):=by
 have h:IntKind.i64.wrap (t.tdiv 1024)=t.tdiv 1024:=by
  rw[wi64]
  rcases Int.le_total 0 t with h0|h0
  ·rw[Int.tdiv_eq_ediv_of_nonneg h0];omega
  ·have:t.tdiv 1024 = -((-t).tdiv 1024):=by rw[Int.neg_tdiv,Int.neg_neg]
   rw[this,Int.tdiv_eq_ediv_of_nonneg kO];omega
 refine gQ (fn:=Tryz.f187) ?_;simp only[gL,Tryz.ntmps187,Nat.reduceSub,Nat.reduceAdd];refine gY ?_;apply gS kB;exact wr (gU [.tmp 2] [.c (.p (pI (t.tdiv 1024)))])
def isTr (t:Int):Bool:=decide (1024≤t)&&decide (t / 1024≤1099511627776)
theorem isTr_f (t:Int):(decide (1≤t.fdiv 1024)&&decide (t.fdiv 1024≤1099511627776))=isTr t:=by
 unfold isTr
 rw[Int.fdiv_eq_ediv_of_nonneg t kD]
 congr 1
 rw[decide_eq_decide];omega
theorem pf139 (t:Int):Pf E0 139 [.c (.p (pI t))] (P' (.bool (isTr t))):=by
 rw[← isTr_f]
 refine gQ (fn:=Tryz.f139) ?_;simp only[gL,Tryz.ntmps139,Nat.reduceSub,Nat.reduceAdd];refine gY ?_;refine Wc.seq ?_;cases h:decide ((1:Int)≤t.fdiv 1024) with
 |true =>
  refine gM fun K F=>?_;simp only[go_sem];refine gP (pf142 t) ?_;simp only[go_sem,h];refine gP (pf142 t) ?_;simp only[go_sem,h];apply F;clear F K
  rw[Bool.true_and]
  exact wr (gU [.tmp 2] [.c (.p (.bool (decide (t.fdiv 1024≤1099511627776))))])
 |false =>
  refine gM fun K F=>?_;simp only[go_sem];refine gP (pf142 t) ?_;simp only[go_sem,h];apply F;clear F K
  rw[Bool.false_and]
  exact wr (gU [.tmp 2] [.c (.p (.bool false))])
theorem pf231 (t:Int)(hw : -2^63≤t∧t<2^63):Pf E0 231 [.c (.p (pI t))] (P' (.bool (isTr t))):=by
 unfold isTr;refine gQ (fn:=Tryz.f231) ?_;simp only[gL,Tryz.ntmps231,Nat.reduceSub,Nat.reduceAdd];refine gY ?_;refine Wc.seq ?_;cases h:decide ((1024:Int)≤t) with
 |true =>
  have h0:0≤t:=by have:=of_decide_eq_true h;omega
  have p:=pf187 t hw
  rw[Int.tdiv_eq_ediv_of_nonneg h0] at p
  refine gM fun K F=>?_;simp only[go_sem,h,ge_iff_le];refine gP p ?_;simp only[go_sem,h];apply F;clear F K
  rw[Bool.true_and]
  exact wr (gU [.tmp 2] [.c (.p (.bool (decide (t / 1024≤1099511627776))))])
 |false =>
  apply gR (by simp only[go_sem,h,ge_iff_le];rfl)
  rw[Bool.false_and]
  exact wr (gU [.tmp 2] [.c (.p (.bool false))])
theorem pf182 (a b:Int):Pf E0 182 [.c (.p (pI a)),.c (.p (pI b))] (P' (pI (cmpI a b))):=by
 unfold cmpI;refine gQ (fn:=Tryz.f182) ?_;simp only[gL,Tryz.ntmps182,Nat.reduceSub,Nat.reduceAdd];refine gY ?_;refine gO ?_;refine gZ ?_
 by_cases h1:a<b
 ·have d1:decide (a<b)=true:=decide_eq_true h1
  rw[if_pos h1]
  apply gT (by simp only[go_sem,d1]);refine gY ?_;exact wr (gU [.tmp 4] [.c (.p (pI (-1)))])
 have d1:decide (a<b)=false:=decide_eq_false h1
 rw[if_neg h1]
 apply gF (by simp only[go_sem,d1]);refine gO ?_;refine gZ ?_
 by_cases h2:b<a
 ·have d2:decide (b<a)=true:=decide_eq_true h2
  rw[if_pos h2]
  apply gT (by simp only[go_sem,d2]);refine gY ?_;exact wr (gU [.tmp 4] [.c (.p (pI 1))])
 have d2:decide (b<a)=false:=decide_eq_false h2
 rw[if_neg h2]
 apply gF (by simp only[go_sem,d2]);refine gY ?_;exact wr (gU [.tmp 4] [.c (.p (pI 0))])
theorem pf189 (a b:Int):Pf E0 189 [.c (.p (pI a)),.c (.p (pI b))] (P' (pI (cmpI a b))):=by
 unfold cmpI;refine gQ (fn:=Tryz.f189) ?_;simp only[gL,Tryz.ntmps189,Nat.reduceSub,Nat.reduceAdd];refine gY ?_;refine gO ?_;refine gZ ?_
 by_cases h1:a<b
 ·have d1:decide (a<b)=true:=decide_eq_true h1
  rw[if_pos h1]
  apply gT (by simp only[go_sem,d1]);refine gY ?_;exact wr (gU [.tmp 4] [.c (.p (pI (-1)))])
 have d1:decide (a<b)=false:=decide_eq_false h1
 rw[if_neg h1]
 apply gF (by simp only[go_sem,d1]);refine gO ?_;refine gZ ?_
 by_cases h2:b<a
 ·have d2:decide (b<a)=true:=decide_eq_true h2
  rw[if_pos h2]
  apply gT (by simp only[go_sem,d2]);refine gY ?_;exact wr (gU [.tmp 4] [.c (.p (pI 1))])
 have d2:decide (b<a)=false:=decide_eq_false h2
 rw[if_neg h2]
 apply gF (by simp only[go_sem,d2]);refine gY ?_;exact wr (gU [.tmp 4] [.c (.p (pI 0))])
def elt (ok:Bool)(i c:Int):Int:=bif ok then (bif decide (0<i)&&decide (0≤c) then 9 else 0) else 1
theorem pf110 (ok:Bool)(i c:Int):Pf E0 110 [.c (.p (.bool ok)),.c (.p (pI i)),.c (.p (pI c))] (P' (pI (elt ok i c))):=by
 unfold elt;refine gQ (fn:=Tryz.f110) ?_;simp only[gL,Tryz.ntmps110,Nat.reduceSub,Nat.reduceAdd];refine gY ?_;refine gO ?_;cases ok with
 |false =>
  apply gR (by simp only[go_sem,Bool.not_false];rfl);refine gG ?_;refine gY ?_;exact wr (gU [.tmp 6] [.c (.p (pI 1))])
 |true =>
 apply gR (by simp only[go_sem,Bool.not_true];rfl);refine gH ?_;refine gO ?_;cases h1:decide ((0:Int)<i) with
 |false =>
  apply gR (by simp only[go_sem,h1];rfl);apply gF (by simp only[go_sem,h1]);refine gY ?_;exact wr (gU [.tmp 6] [.c (.p (pI 0))])
 |true =>
 apply gR (by simp only[go_sem,h1,ge_iff_le];rfl);cases h2:decide ((0:Int)≤c) with
 |true =>
  apply gT (by simp only[go_sem,h2]);refine gY ?_;exact wr (gU [.tmp 6] [.c (.p (pI 9))])
 |false =>
  apply gF (by simp only[go_sem,h2]);refine gY ?_;exact wr (gU [.tmp 6] [.c (.p (pI 0))])
def orL (l:List Int):Int:=(l.find? (· != 0)).getD 0
theorem orL_step {l:List Int}{i:Nat}{x:Int}(h:l[i]? = some x):orL (l.drop i)=if x=0 then orL (l.drop (i+1)) else x:=by
 obtain⟨h1,h2⟩:=List.getElem?_eq_some_iff.1 h
 unfold orL
 rw[List.drop_eq_getElem_cons h1,h2,List.find?_cons]
 by_cases hx:x=0
 ·have:(x != 0)=false:=by simpa using hx
  rw[this,if_pos hx]
 ·have:(x != 0)=true:=by simpa using hx
  rw[this,if_neg hx];rfl
theorem pf104g (l:List Int)(hl:l.length<2^40):Pf E0 104 [.c (.p (.lst l.length (l.map pI)))] (P' (pI (orL l))):=by
 have hR0:orL (l.drop 0)=orL l:=rfl
 generalize orL l=R at hR0 ⊢;refine gQ (fn:=Tryz.f104) ?_;simp only[gL,Tryz.ntmps104,Nat.reduceSub,Nat.reduceAdd];refine gY ?_;refine gY ?_;refine Wc.seqR (fun y=>R=0∧y.ds=[]∧Fs y.e 18 [(3,P' (pI 0))]) ?_ ?_
 ·refine gY ?_;refine Wc.block (Wc.loop (fun k y=>∃ i:Nat,k=l.length-i∧(i≤l.length∧orL (l.drop i)=R)∧y.ds=[]∧Fs y.e 18 [(3,P' (pI 0)),(6,P' (.lst l.length (l.map pI))),(7,P' (pI l.length)),(8,P' (pI i))]) ?_ (k:=l.length) ⟨0,rfl,⟨kO,hR0⟩,rfl,by simp only[go_sem]⟩);rintro k ⟨e,ds,s1⟩ ⟨i,rfl,⟨hi,hR⟩,rfl,hF⟩;simp only[Fs] at hF;apply gS kG;refine Wc.seq ?_;refine Wc.cond (t:=decide ((i:Int)<l.length)) kF (fun hc=>?_) (fun hc=>?_)
  ·have hil:i<l.length:=gi hc
   obtain⟨x,hx⟩:=gE hil
   rw[orL_step hx] at hR
   have hix:indexAddrD E0 175 (.v (.c (.p (.lst l.length (l.map pI))))) (.v (.c (.p (.int .i64 (i:Int)))))=_:=ixA ti175 rfl ti3 (j:=i) (m:=l.length) (cs:=l.map pI) hil kS kD
   have hca:∀ s,cellsAt s (.v (.c (.rp (l.map pI) i)))=_:=rpA (off:=i) (drop_map pI hx) (by simp;omega)
   simp only[Nat.mul_one] at hix;refine Wc.skip (Wc.seq (Wc.block (Wc.seq ?_)));apply gR (by simp only[go_sem,hF,hix,hca];rfl);apply gS kG
   by_cases h0:x=0
   ·rw[if_pos h0] at hR
    have d:(x != 0)=false:=by simpa using h0
    apply gF (by simp only[go_sem,hF,d]);apply gR kX
    exact⟨l.length-(i+1),kO,i+1,rfl,⟨kO,hR⟩,rfl,by simp only[go_sem,hF]⟩
   ·rw[if_neg h0] at hR
    subst hR
    have d:(x != 0)=true:=by simpa using h0
    apply gT (by simp only[go_sem,hF,d]);apply gS kG;exact wr (gV [.tmp 2] [.c (.p (pI x))] kF)
  ·have hil:i=l.length:=by have:=of_decide_eq_false hc;omega
   rw[hil,List.drop_length] at hR
   exact Wc.exit ⟨hR.symm,rfl,by simp only[go_sem,hF]⟩
 rintro⟨e,ds,s1⟩ ⟨rfl,rfl,hF⟩
 simp only[Fs] at hF;apply gS kG;exact wr (gV [.tmp 2] [.c (.p (pI 0))] kF)
def cmpE (a b:Ent):Int:=orL [cmpI a.t b.t,cmpL a.lb b.lb,cmpS a.ln b.ln,cmpL a.fs b.fs,cmpI a.tr b.tr]
def cmpSp (a b:Spn):Int:=orL [cmpI a.tr b.tr,cmpI a.id b.id]
def cmpLk (a b:I2):Int:=orL [cmpI a.1 b.1,cmpI a.2 b.2]
def cmpPr (a b:Prf):Int:=orL [cmpL a.lb b.lb,cmpI a.t b.t]
def cmpX (a b:Exm):Int:=orL [cmpL a.lb b.lb,cmpI a.t b.t,cmpI a.v b.v,cmpI a.tr b.tr,cmpI a.sp b.sp]
theorem orL_cons (x:Int)(l:List Int):orL (x::l)=if x=0 then orL l else x:=orL_step (l:=x::l) (i:=0) rfl
theorem orL_one (x:Int):orL [x]=x:=by
 rw[orL_cons]
 split
 ·rename_i h;rw[h];rfl
 ·rfl
theorem pf81 (a b:Spn):Pf E0 81 [.agg (a.pd.map .p),.agg (b.pd.map .p)] (P' (pI (cmpSp a b))):=by
 have p1:=pf138 a.tr b.tr
 have p2:=pf138 a.id b.id
 have p104:=pf104g [cmpI a.tr b.tr,cmpI a.id b.id] kS
 unfold cmpSp;generalize cmpI a.tr b.tr=C at *;generalize cmpI a.id b.id=D at *;generalize orL [C,D]=R at *;refine gQ (fn:=Tryz.f81) ?_;simp only[gL,Tryz.ntmps81,Nat.reduceSub,Nat.reduceAdd];refine gN fun K hK=>?_;simp only[go_sem];apply hK;clear hK K;refine Wc.seq ?_;refine Wc.regT fun K hK=>?_;simp only[go_sem];refine gP p1 ?_;simp only[go_sem];refine gP p2 ?_;simp only[go_sem];refine gP p104 ?_;simp only[go_sem,o104,x104,o138,x138,o52,x52,o105,x105];refine⟨by rw[trOK_eq3];rfl,hK _ _ ?_⟩;clear hK K;exact wr (gU [.tmp 4] [.c (.p (pI R))])
theorem pf215 (a b:I2):Pf E0 215 [.agg [.p (pI a.1),.p (pI a.2)],.agg [.p (pI b.1),.p (pI b.2)]] (P' (pI (cmpLk a b))):=by
 have p1:=pf138 a.1 b.1
 have p2:=pf138 a.2 b.2
 have p104:=pf104g [cmpI a.1 b.1,cmpI a.2 b.2] kS
 unfold cmpLk;generalize cmpI a.1 b.1=C at *;generalize cmpI a.2 b.2=D at *;generalize orL [C,D]=R at *;refine gQ (fn:=Tryz.f215) ?_;simp only[gL,Tryz.ntmps215,Nat.reduceSub,Nat.reduceAdd];refine gN fun K hK=>?_;simp only[go_sem];apply hK;clear hK K;refine Wc.seq ?_;refine Wc.regT fun K hK=>?_;simp only[go_sem];refine gP p1 ?_;simp only[go_sem];refine gP p2 ?_;simp only[go_sem];refine gP p104 ?_;simp only[go_sem,o104,x104,o138,x138,o52,x52,o105,x105];refine⟨by rw[trOK_eq3];rfl,hK _ _ ?_⟩;clear hK K;exact wr (gU [.tmp 4] [.c (.p (pI R))])
theorem pf86 (a b:Prf)(ha:a.lb.length<2^60)(hb:b.lb.length<2^60):Pf E0 86 [.agg (a.pd.map .p),.agg (b.pd.map .p)] (P' (pI (cmpPr a b))):=by
 have p1:=pf52 a.lb b.lb ha hb
 have p2:=pf138 a.t b.t
 have p104:=pf104g [cmpL a.lb b.lb,cmpI a.t b.t] kS
 unfold cmpPr;generalize cmpL a.lb b.lb=C at *;generalize cmpI a.t b.t=D at *;generalize orL [C,D]=R at *;refine gQ (fn:=Tryz.f86) ?_;simp only[gL,Tryz.ntmps86,Nat.reduceSub,Nat.reduceAdd];refine gN fun K hK=>?_;simp only[go_sem];apply hK;clear hK K;refine Wc.seq ?_;refine Wc.regT fun K hK=>?_;simp only[go_sem];refine gP p1 ?_;simp only[go_sem];refine gP p2 ?_;simp only[go_sem];refine gP p104 ?_;simp only[go_sem,o104,x104,o138,x138,o52,x52,o105,x105];refine⟨by rw[trOK_eq3];rfl,hK _ _ ?_⟩;clear hK K;exact wr (gU [.tmp 4] [.c (.p (pI R))])
theorem pf89 (a b:Exm)(ha:a.lb.length<2^60)(hb:b.lb.length<2^60):Pf E0 89 [.agg (a.pd.map .p),.agg (b.pd.map .p)] (P' (pI (cmpX a b))):=by
 have p1:=pf52 a.lb b.lb ha hb
 have p2:=pf138 a.t b.t
 have p3:=pf138 a.v b.v
 have p4:=pf138 a.tr b.tr
 have p5:=pf138 a.sp b.sp
 have p104:=pf104g [cmpL a.lb b.lb,cmpI a.t b.t,cmpI a.v b.v,cmpI a.tr b.tr,cmpI a.sp b.sp] kS
 unfold cmpX;generalize cmpL a.lb b.lb=C at *;generalize cmpI a.t b.t=D at *;generalize cmpI a.v b.v=F at *;generalize cmpI a.tr b.tr=G at *;generalize cmpI a.sp b.sp=H at *;generalize orL [C,D,F,G,H]=R at *;refine gQ (fn:=Tryz.f89) ?_;simp only[gL,Tryz.ntmps89,Nat.reduceSub,Nat.reduceAdd];refine gN fun K hK=>?_;simp only[go_sem];apply hK;clear hK K;refine Wc.seq ?_;refine Wc.regT fun K hK=>?_;simp only[go_sem];refine gP p1 ?_;simp only[go_sem];refine gP p2 ?_;simp only[go_sem];refine gP p3 ?_;simp only[go_sem];refine gP p4 ?_;simp only[go_sem];refine gP p5 ?_;simp only[go_sem];refine gP p104 ?_;simp only[go_sem,o104,x104,o138,x138,o52,x52,o105,x105];refine⟨by rw[trOK_eq3];rfl,hK _ _ ?_⟩;clear hK K;exact wr (gU [.tmp 4] [.c (.p (pI R))])
theorem pf77 (a b:Ent)(ha:a.lb.length<2^60∧a.fs.length<2^60)(hb:b.lb.length<2^60∧b.fs.length<2^60):Pf E0 77 [.agg (a.pd.map .p),.agg (b.pd.map .p)] (P' (pI (cmpE a b))):=by
 have p1:=pf138 a.t b.t
 have p2:=pf52 a.lb b.lb ha.1 hb.1
 have p3:=pf105 a.ln b.ln
 have p4:=pf52 a.fs b.fs ha.2 hb.2
 have p5:=pf138 a.tr b.tr
 unfold cmpE
 rw[orL_cons,orL_cons,orL_cons,orL_cons,orL_one]
 generalize cmpI a.t b.t=C1 at *;generalize cmpL a.lb b.lb=C2 at *;generalize cmpS a.ln b.ln=C3 at *;generalize cmpL a.fs b.fs=C4 at *;generalize cmpI a.tr b.tr=C5 at *;refine gQ (fn:=Tryz.f77) ?_;simp only[gL,Tryz.ntmps77,Nat.reduceSub,Nat.reduceAdd];refine gN fun K hK=>?_;simp only[go_sem];apply hK;clear hK K;refine gO ?_;refine gM fun K hK=>?_;simp only[go_sem];refine gP p1 ?_;simp only[go_sem];apply hK;clear hK K;refine gN fun K hK=>?_;simp only[go_sem];apply hK;clear hK K
 by_cases h1:C1=0
 case neg =>
  have d:(C1 != 0)=true:=by simpa using h1
  rw[if_neg h1]
  apply gT (by simp only[go_sem,d]);refine gN fun K hK=>?_;simp only[go_sem];apply hK;clear hK K;exact wr (gU [.tmp 4] [.c (.p (pI C1))])
 have d1:(C1 != 0)=false:=by simpa using h1
 rw[if_pos h1]
 apply gF (by simp only[go_sem,d1]);refine gO ?_;refine gM fun K hK=>?_;simp only[go_sem];refine gP p2 ?_;simp only[go_sem];apply hK;clear hK K;refine gN fun K hK=>?_;simp only[go_sem];apply hK;clear hK K
 by_cases h2:C2=0
 case neg =>
  have d:(C2 != 0)=true:=by simpa using h2
  rw[if_neg h2]
  apply gT (by simp only[go_sem,d]);refine gN fun K hK=>?_;simp only[go_sem];apply hK;clear hK K;exact wr (gU [.tmp 4] [.c (.p (pI C2))])
 have d2:(C2 != 0)=false:=by simpa using h2
 rw[if_pos h2]
 apply gF (by simp only[go_sem,d2]);refine gO ?_;refine gM fun K hK=>?_;simp only[go_sem];refine gP p3 ?_;simp only[go_sem];apply hK;clear hK K;refine gN fun K hK=>?_;simp only[go_sem];apply hK;clear hK K
 by_cases h3:C3=0
 case neg =>
  have d:(C3 != 0)=true:=by simpa using h3
  rw[if_neg h3]
  apply gT (by simp only[go_sem,d]);refine gN fun K hK=>?_;simp only[go_sem];apply hK;clear hK K;exact wr (gU [.tmp 4] [.c (.p (pI C3))])
 have d3:(C3 != 0)=false:=by simpa using h3
 rw[if_pos h3]
 apply gF (by simp only[go_sem,d3]);refine gO ?_;refine gM fun K hK=>?_;simp only[go_sem];refine gP p4 ?_;simp only[go_sem];apply hK;clear hK K;refine gN fun K hK=>?_;simp only[go_sem];apply hK;clear hK K
 by_cases h4:C4=0
 case neg =>
  have d:(C4 != 0)=true:=by simpa using h4
  rw[if_neg h4]
  apply gT (by simp only[go_sem,d]);refine gN fun K hK=>?_;simp only[go_sem];apply hK;clear hK K;exact wr (gU [.tmp 4] [.c (.p (pI C4))])
 have d4:(C4 != 0)=false:=by simpa using h4
 rw[if_pos h4]
 apply gF (by simp only[go_sem,d4]);refine gN fun K hK=>?_;simp only[go_sem];refine gP p5 ?_;simp only[go_sem];apply hK;clear hK K;exact wr (gU [.tmp 4] [.c (.p (pI C5))])
theorem pf115 (a b:Prf)(ha:a.lb.length<2^60)(hb:b.lb.length<2^60):Pf E0 115 [.agg (a.pd.map .p),.agg (b.pd.map .p)] (P' (pI (cmpPr a b))):=by
 have p1:=pf96g a.lb b.lb ha hb
 unfold cmpPr
 rw[orL_cons,orL_one]
 generalize cmpL a.lb b.lb=C1 at *;unfold cmpI;refine gQ (fn:=Tryz.f115) ?_;simp only[gL,Tryz.ntmps115,Nat.reduceSub,Nat.reduceAdd];refine gN fun K hK=>?_;simp only[go_sem];apply hK;clear hK K;refine gO ?_;refine gM fun K hK=>?_;simp only[go_sem];refine gP p1 ?_;simp only[go_sem];apply hK;clear hK K;refine gN fun K hK=>?_;simp only[go_sem];apply hK;clear hK K
 by_cases h1:C1=0
 case neg =>
  have d:(C1 != 0)=true:=by simpa using h1
  rw[if_neg h1]
  apply gT (by simp only[go_sem,d]);refine gN fun K hK=>?_;simp only[go_sem];apply hK;clear hK K;exact wr (gU [.tmp 4] [.c (.p (pI C1))])
 have d1:(C1 != 0)=false:=by simpa using h1
 rw[if_pos h1]
 apply gF (by simp only[go_sem,d1]);refine gO ?_;refine gM fun K hK=>?_;simp only[go_sem];apply hK;clear hK K
 by_cases h2:a.t<b.t
 ·have d:decide (a.t<b.t)=true:=decide_eq_true h2
  rw[if_pos h2]
  apply gT (by simp only[go_sem,d]);refine gN fun K hK=>?_;simp only[go_sem];apply hK;clear hK K;exact wr (gU [.tmp 4] [.c (.p (pI (-1)))])
 have d2:decide (a.t<b.t)=false:=decide_eq_false h2
 rw[if_neg h2]
 apply gF (by simp only[go_sem,d2]);refine gO ?_;refine gM fun K hK=>?_;simp only[go_sem];apply hK;clear hK K
 by_cases h3:b.t<a.t
 ·have d:decide (b.t<a.t)=true:=decide_eq_true h3
  rw[if_pos h3]
  apply gT (by simp only[go_sem,d]);refine gN fun K hK=>?_;simp only[go_sem];apply hK;clear hK K;exact wr (gU [.tmp 4] [.c (.p (pI 1))])
 have d3:decide (b.t<a.t)=false:=decide_eq_false h3
 rw[if_neg h3]
 apply gF (by simp only[go_sem,d3]);refine gN fun K hK=>?_;simp only[go_sem];apply hK;clear hK K;exact wr (gU [.tmp 4] [.c (.p (pI 0))])
theorem pf184 (a b:Spn):Pf E0 184 [.agg (a.pd.map .p),.agg (b.pd.map .p)] (P' (pI (cmpSp a b))):=by
 unfold cmpSp
 rw[orL_cons,orL_one]
 unfold cmpI;refine gQ (fn:=Tryz.f184) ?_;simp only[gL,Tryz.ntmps184,Nat.reduceSub,Nat.reduceAdd];refine gN fun K hK=>?_;simp only[go_sem];apply hK;clear hK K;refine gO ?_
 by_cases h1:a.tr<b.tr
 ·have d1:decide (a.tr<b.tr)=true:=decide_eq_true h1
  rw[if_pos h1,if_neg kD]
  refine gM fun K hK=>?_;simp only[go_sem,d1];apply hK;clear hK K;apply gT (by simp only[go_sem,d1]);refine gN fun K hK=>?_;simp only[go_sem];apply hK;clear hK K;exact wr (gU [.tmp 4] [.c (.p (pI (-1)))])
 have d1:decide (a.tr<b.tr)=false:=decide_eq_false h1
 rw[if_neg h1]
 by_cases h2:b.tr<a.tr
 ·have d2:decide (b.tr<a.tr)=true:=decide_eq_true h2
  have e2:(a.tr==b.tr)=false:=by simp;omega
  rw[if_pos h2,if_neg kD]
  refine gM fun K hK=>?_;simp only[go_sem,d1,d2,e2];apply hK;clear hK K;apply gF (by simp only[go_sem,d1,d2,e2]);refine gO ?_;refine gM fun K hK=>?_;simp only[go_sem,d2];apply hK;clear hK K;apply gT (by simp only[go_sem,d2]);refine gN fun K hK=>?_;simp only[go_sem];apply hK;clear hK K;exact wr (gU [.tmp 4] [.c (.p (pI 1))])
 have d2:decide (b.tr<a.tr)=false:=decide_eq_false h2
 have e2:(a.tr==b.tr)=true:=by simp;omega
 rw[if_neg h2,if_pos rfl]
 by_cases h3:a.id<b.id
 ·have d3:decide (a.id<b.id)=true:=decide_eq_true h3
  rw[if_pos h3]
  refine gM fun K hK=>?_;simp only[go_sem,d1,e2,d3];apply hK;clear hK K;apply gT (by simp only[go_sem,d1,e2,d3]);refine gN fun K hK=>?_;simp only[go_sem];apply hK;clear hK K;exact wr (gU [.tmp 4] [.c (.p (pI (-1)))])
 have d3:decide (a.id<b.id)=false:=decide_eq_false h3
 rw[if_neg h3]
 refine gM fun K hK=>?_;simp only[go_sem,d1,e2,d3];apply hK;clear hK K;apply gF (by simp only[go_sem,d1,e2,d3]);refine gO ?_
 by_cases h4:b.id<a.id
 ·have d4:decide (b.id<a.id)=true:=decide_eq_true h4
  rw[if_pos h4]
  refine gM fun K hK=>?_;simp only[go_sem,d2,d4];apply hK;clear hK K;apply gT (by simp only[go_sem,d2,d4]);refine gN fun K hK=>?_;simp only[go_sem];apply hK;clear hK K;exact wr (gU [.tmp 4] [.c (.p (pI 1))])
 have d4:decide (b.id<a.id)=false:=decide_eq_false h4
 rw[if_neg h4]
 refine gM fun K hK=>?_;simp only[go_sem,d2,d4];apply hK;clear hK K;apply gF (by simp only[go_sem,d2,d4]);refine gN fun K hK=>?_;simp only[go_sem];apply hK;clear hK K;exact wr (gU [.tmp 4] [.c (.p (pI 0))])
end Go.Proofs.YtedcnhbblgmdnaaGreat.Ab
namespace Go.Proofs.YtedcnhbblgmdnaaGreat.Ab
/-! ### the reference's way of reading numbers and columns -/
def hdR:Nat→List UInt8→List Int×List UInt8×Int
 |0,s=>([],s,0)
 |k+1,s=>if (rdS s).2.2≠0 then ([],s,(rdS s).2.2) else ((rdS s).1::(hdR k (s.drop (rdS s).2.1)).1,(hdR k (s.drop (rdS s).2.1)).2)
end Go.Proofs.YtedcnhbblgmdnaaGreat.Ab
namespace Go.Proofs.YtedcnhbblgmdnaaGreat.Ab
end Go.Proofs.YtedcnhbblgmdnaaGreat.Ab
namespace Go.Proofs.YtedcnhbblgmdnaaGreat.Ab
theorem Pf.bodyE {E:Env}{g:Nat}{fn:Func}{c:Code}{args:List V}{P:D→Prop}(hf:E.fn g=some fn)(hb:fn.body=some c)
  (h:Wc E none c { e:=args.map .v++List.replicate (fn.ntmps-args.length) (.tup []),ds:=[],s:={ ob:=[],nx:=0 } } (bodyQ E fn fun d0 s2=>∃ d s3,purD s2 d0=some (d,s3)∧P d)):∃ d,Pf E g args d∧P d:=by
 obtain⟨n,d0,s2,h1,d,s3,h2,h3⟩:=Ev.body hf hb h
 exact⟨d,⟨n,d0,s2,s3,h1,h2⟩,h3⟩
theorem Pf.retE {E:Env}{fn:Func}{x:Fr}{d:D}{s3:St}{P:D→Prop}(rs:List ResultVar)(vs:List V)(hd:x.ds=[])(hrs:fn.results.toList=rs)(hr:resultsD E x.e x.s rs=some vs)(hp:purD x.s (packD vs)=some (d,s3))(hP:P d) :
  bodyQ E fn (fun d0 s2=>∃ d s3,purD s2 d0=some (d,s3)∧P d) .ret x:=by
 subst hrs
 exact⟨x.s,vs,by rw[hd];rfl,hr,d,s3,hp,hP⟩
end Go.Proofs.YtedcnhbblgmdnaaGreat.Ab
namespace Go.Proofs.YtedcnhbblgmdnaaGreat.Ab
theorem purVs_c1 {s:St}{c:C}{y:Pd}(h:purS c=some y):purVs s [.c c]=some ([.c (.p y)],s):=by simp only[purVs,purV,purC_S h]
structure ColU (A:Type) where
 f:Int
 g:Nat
 w:Nat
 set:A→Int→A
abbrev ColU.pd {A:Type}(c:ColU A):List Pd:=[pI c.f,.fnc c.g,.fnc c.w]
abbrev ColU.r {A:Type}(c:ColU A):ColR A:=(c.f,c.set)
def SlS {A:Type}(enc:A→List C)(es:Nat)(l:List A)(L:List (Nat×D×Nat×List Pd))(M:List (Nat×Ob))(c6:C)(s:St):Prop :=
 (l=[]∧(c6=.nils∨∃ k,c6=.own 0 [] k)∧OA s.nx s L M)∨(∃ k,c6=.mt k 0 l.length es∧OA s.nx s L ((k,.cells (l.flatMap enc) false)::M)∧l≠[])∨∃ k,c6=.gs 0 k 0 0 es∧OA s.nx s L ((k,.grow es 0 [] false)::M)∧l=[]
section
variable {A:Type} {enc:A→List C} {es:Nat} {l:List A} {L:List (Nat×D×Nat×List Pd)} {M:List (Nat×Ob)} {c6:C} {s:St}
theorem SlS.adv (h:SlS enc es l L M c6 s){n:Nat}:SlS enc es l L M c6 (s.adv n):=by
 rcases h with ⟨h1,h2,h3⟩|⟨k,h1,h2,h3⟩|⟨k,h1,h2,h3⟩
 ·exact .inl ⟨h1,h2,(h3.mono (Nat.le_add_right _ n)).adv⟩
 ·exact .inr (.inl ⟨k,h1,(h2.mono (Nat.le_add_right _ n)).adv,h3⟩)
 ·exact .inr (.inr ⟨k,h1,(h2.mono (Nat.le_add_right _ n)).adv,h3⟩)
theorem OA.swap {b:Nat}{x y:Nat×Ob}(h:OA b s L (x::y::M)):OA b s L (y::x::M):=by
 refine⟨h.free,h.own,h.dis,fun z hz=>h.at_ z ?_,fun z hz=>h.nof z ?_,?_⟩
 ·simp only[List.mem_cons] at hz ⊢;rcases hz with h | h | h<;>simp[h]
 ·simp only[List.mem_cons] at hz ⊢;rcases hz with h | h | h<;>simp[h]
 ·have hd:=h.dism
  simp only[List.pairwise_cons,List.mem_cons] at hd ⊢
  obtain⟨a1,a2,a3⟩:=hd
  refine⟨fun z hz=>?_,fun z hz=>a1 z (.inr hz),a3⟩
  rcases hz with rfl|hz
  ·exact fun e=>a1 y (.inl rfl) e.symm
  ·exact a2 z hz
theorem SlS.newB (h:SlS enc es l L M c6 s){n k:Nat}{o:Ob}(h1:s.nx≤k)(h2:k<s.nx+n)(hf:o.isFront=false):SlS enc es l L ((k,o)::M) c6 ((s.adv n).put k o):=by
 rcases h with ⟨h3,h4,h5⟩|⟨k6,h3,h4,h5⟩|⟨k6,h3,h4,h5⟩
 ·exact .inl ⟨h3,h4,((h5.adv.new h1 hf).mono kY)⟩
 ·exact .inr (.inl ⟨k6,h3,((h4.adv.new h1 hf).mono kY).swap,h5⟩)
 ·exact .inr (.inr ⟨k6,h3,((h4.adv.new h1 hf).mono kY).swap,h5⟩)
theorem SlS.drop {x:Nat×Ob}(h:SlS enc es l L (x::M) c6 s):SlS enc es l L M c6 s:=by
 rcases h with ⟨h3,h4,h5⟩|⟨k6,h3,h4,h5⟩|⟨k6,h3,h4,h5⟩
 ·exact .inl ⟨h3,h4,h5.sub (List.Sublist.refl _) (List.sublist_cons_self _ _)⟩
 ·exact .inr (.inl ⟨k6,h3,h4.sub (List.Sublist.refl _) ((List.sublist_cons_self x M).cons_cons _),h5⟩)
 ·exact .inr (.inr ⟨k6,h3,h4.sub (List.Sublist.refl _) ((List.sublist_cons_self x M).cons_cons _),h5⟩)
theorem SlS.len {t e:Nat}{i:TI}(h:SlS enc es l L M c6 s)(ht:E0.ti t=some i)(hk:i.kn=.slice e):lenD E0 t (.v (.c c6))=some (.v (.c (.p (.int .i64 (l.length:Int))))):=by
 rcases h with ⟨rfl,h4|⟨k,h4⟩,h5⟩|⟨k6,h3,h4,h5⟩|⟨k6,h3,h4,h5⟩
 ·subst h4;unfold lenD;rw[ht];simp only[hk];rfl
 ·subst h4;unfold lenD;rw[ht];simp only[hk];rfl
 ·subst h3;unfold lenD;rw[ht];simp only[hk];rfl
 ·subst h3 h5;unfold lenD;rw[ht];simp only[hk];rfl
theorem SlS.mt (h:SlS enc es l L M c6 s)(hl:l≠[]):∃ k,c6=.mt k 0 l.length es∧OA s.nx s L ((k,.cells (l.flatMap enc) false)::M):=by
 rcases h with ⟨h3,_⟩|⟨k6,h3,h4,h5⟩|⟨k6,h3,h4,h5⟩
 ·exact absurd h3 hl
 ·exact⟨k6,h3,h4⟩
 ·exact absurd h5 hl
end
def prog {A:Type}(f:A→Int→A)(l:List A)(d:List Int)(j:Nat):List A:=List.zipWith f (l.take j) (d.take j)++l.drop j
end Go.Proofs.YtedcnhbblgmdnaaGreat.Ab
namespace Go.Proofs.YtedcnhbblgmdnaaGreat.Ab
end Go.Proofs.YtedcnhbblgmdnaaGreat.Ab
namespace Go.Proofs.YtedcnhbblgmdnaaGreat.Ab
def rsOK (w:Int):Option (List Lb)→List Rlp→Bool
 |_,[]=>true
 |none,r::t=>((r.w==w)&&rlpOK r)&&rsOK w (some r.lb) t
 |some q,r::t=>((r.w==w)&&rlpOK r)&&(!decide (0≤cmpL q r.lb)&&rsOK w (some r.lb) t)
def setOK (x:RSet):Bool:=!(decide (x.w<1) || (decide (1099511627776<x.w) || (decide (x.fr<0) || decide (1099511627776<x.fr))))&&rsOK x.w none x.rs
def prevR (l:List Rlp)(i:Nat):Option (List Lb):=if i=0 then none else (l[i-1]?).map (·.lb)
def cmpQ (q:Option Rlp)(c:Rlp):Int:=(q.map fun q=>cmpL q.lb c.lb).getD (-1)
theorem rsOK_step {w:Int}{l:List Rlp}{i:Nat}{c:Rlp}(h:l[i]? = some c):rsOK w (prevR l i) (l.drop i)=(((c.w==w)&&rlpOK c)&&(!(decide (0<i)&&decide (0≤cmpQ (l[i-1]?) c))&&rsOK w (prevR l (i+1)) (l.drop (i+1)))):=by
 obtain⟨h1,h2⟩:=List.getElem?_eq_some_iff.1 h
 have hp:prevR l (i+1)=some c.lb:=by simp[prevR,h]
 rw[List.drop_eq_getElem_cons h1,h2,hp]
 by_cases h0:i=0
 ·subst h0
  simp[prevR,rsOK]
 ·have hq2:l[i-1]? = some l[i-1]:=List.getElem?_eq_getElem kO
  have hq:prevR l i=some (l[i-1]).lb:=by rw[prevR,if_neg h0,hq2];rfl
  rw[hq,hq2,rsOK,decide_eq_true (show 0<i by omega),Bool.true_and]
  rfl
theorem rsOK_mem {w:Int}:∀ {l:List Rlp} {p:Option (List Lb)},rsOK w p l=true→∀ r∈l,r.w=w∧rlpOK r=true
 |[],_,_=>fun r hr=>by cases hr
 |a::t,none,h=>by
  simp only[rsOK,Bool.and_eq_true,beq_iff_eq] at h;intro r hr;rcases List.mem_cons.1 hr with rfl|hr
  ·exact h.1
  ·exact rsOK_mem h.2 r hr
 |a::t,some q,h=>by
  simp only[rsOK,Bool.and_eq_true,beq_iff_eq] at h;intro r hr;rcases List.mem_cons.1 hr with rfl|hr
  ·exact h.1
  ·exact rsOK_mem h.2.2 r hr
theorem pf62 (x:RSet)(hl:x.rs.length<2^40)(hz:∀ r∈x.rs,Rz r):Pf E0 62 [.agg (x.pd.map .p)] (P' (.bool (setOK x))):=by
 have hfl:=fRl x.rs
 generalize hR:setOK x=R;unfold setOK at hR;refine gQ (fn:=Tryz.f62) ?_;simp only[gL,Tryz.ntmps62,Nat.reduceSub,Nat.reduceAdd];refine gY ?_;refine gO ?_;rcases gK (decide (x.w<1)) with a1|a1
 ·apply gR (by simp only[go_sem,a1];rfl);apply gT (by simp only[go_sem,a1]);refine gY ?_;obtain rfl:R=false:=by rw[← hR];simp only[a1,gC]
  exact wr (gU [.tmp 2] [.c (.p (.bool false))])
 rcases gK (decide (1099511627776<x.w)) with a2|a2
 ·apply gR (by simp only[go_sem,a1,a2];rfl);apply gT (by simp only[go_sem,a1,a2]);refine gY ?_;obtain rfl:R=false:=by rw[← hR];simp only[a1,a2,gC]
  exact wr (gU [.tmp 2] [.c (.p (.bool false))])
 rcases gK (decide (x.fr<0)) with a3|a3
 ·apply gR (by simp only[go_sem,a1,a2,a3];rfl);apply gT (by simp only[go_sem,a1,a2,a3]);refine gY ?_;obtain rfl:R=false:=by rw[← hR];simp only[a1,a2,a3,gC]
  exact wr (gU [.tmp 2] [.c (.p (.bool false))])
 rcases gK (decide (1099511627776<x.fr)) with a4|a4
 ·apply gR (by simp only[go_sem,a1,a2,a3,a4];rfl);apply gT (by simp only[go_sem,a1,a2,a3,a4]);refine gY ?_;obtain rfl:R=false:=by rw[← hR];simp only[a1,a2,a3,a4,gC]
  exact wr (gU [.tmp 2] [.c (.p (.bool false))])
 apply gR (by simp only[go_sem,a1,a2,a3,a4];rfl);apply gF (by simp only[go_sem,a1,a2,a3,a4]);simp only[a1,a2,a3,a4,gC] at hR
 have hR0:rsOK x.w (prevR x.rs 0) (x.rs.drop 0)=R:=hR
 refine Wc.seqR (fun y=>R=true∧y.ds=[]∧Fs y.e 57 []) ?_ ?_
 ·refine gY ?_;refine Wc.block (Wc.loop (fun k y=>∃ i:Nat,k=x.rs.length-i∧(i≤x.rs.length∧rsOK x.w (prevR x.rs i) (x.rs.drop i)=R)∧y.ds=[]∧Fs y.e 57 [(1,.v (.c (.ref 0 0))),(24,P' (.lst x.rs.length (x.rs.flatMap Rlp.pd))),(25,P' (pI x.rs.length)),(26,P' (pI i))]∧OA y.s.nx y.s [] [(0,.cells (x.pd.map .p) false)]) ?_ (k:=x.rs.length) ⟨0,rfl,⟨kO,hR0⟩,rfl,by simp only[go_sem],oW⟩);clear hR hR0 a1 a2 a3 a4;rintro k ⟨e,ds,s1⟩ ⟨i,rfl,⟨hi,hR⟩,rfl,hF,ho⟩;simp only[Fs] at hF ho;apply gS kG;refine Wc.seq ?_;refine Wc.cond (t:=decide ((i:Int)<x.rs.length)) kF (fun hc=>?_) (fun hc=>?_)
  ·have hil:i<x.rs.length:=gi hc
   obtain⟨c,hcc⟩:=gE hil
   have zc:=hz c (gw hcc)
   rw[rsOK_step hcc] at hR
   have hix:=ixA ti60 rfl ti31 (j:=i) (m:=x.rs.length) (cs:=x.rs.flatMap Rlp.pd) hil hfl kD
   have hca:=rpRl hcc
   have p19:=pf19 c zc.lb zc.ls
   unfold chkR at p19;refine Wc.skip (Wc.seq (Wc.block (Wc.seqA (fun y=>∃ k4,y.ds=[]∧Fs y.e 57 [(1,.v (.c (.ref 0 0))),(24,P' (.lst x.rs.length (x.rs.flatMap Rlp.pd))),(25,P' (pI x.rs.length)),(26,P' (pI i)),(3,P' (pI i)),(4,.v (.c (.ref k4 0)))]∧OA y.s.nx y.s [] [(k4,.cells (c.pd.map .p) false),(0,.cells (x.pd.map .p) false)]) ?_ ?_)))
   ·apply gR (by simp only[go_sem,hF,hix,hca];rfl)
    exact⟨rfl,s1.nx+4,rfl,by simp only[go_sem,hF],by(try simp only[St.put_adv,St.adv_adv,St.put_put,gI]);repeat (first | exact oM ho | refine oN ?_ | refine oP ?_ | refine oA ?_)⟩
   clear hF ho e s1
   rintro⟨e,ds,s1⟩ ⟨k4,rfl,hF,ho⟩
   simp only[Fs] at hF ho
   have g0:=ho.at_ (0,.cells (x.pd.map .p) false) kS
   have g4:=ho.at_ (k4,.cells (c.pd.map .p) false) kS
   simp only[gm] at g0 g4;refine gO ?_;rcases gK (c.w != x.w) with k1|k1
   ·have k2:(c.w==x.w)=false:=by simpa using k1
    rw[k2,Bool.false_and,Bool.false_and] at hR
    subst hR;apply gR (by simp only[go_sem,hF,g0,g4,k1];rfl);apply gT (by simp only[go_sem,hF,k1]);apply gS kG;exact wr (gV [.tmp 2] [.c (.p (.bool false))] kF)
   have k2:(c.w==x.w)=true:=by simpa using k1
   rw[k2,Bool.true_and] at hR
   cases hok:rlpOK c with
   |false =>
    rw[hok,Bool.false_and] at hR
    subst hR
    rw[hok,if_neg kD] at p19
    refine gM fun K F=>?_;simp only[go_sem,hF,g0,g4,k1];refine gP p19 ?_;simp only[go_sem,hF,k1,b10];apply F;clear F K;apply gT (by simp only[go_sem,hF,k1,b10]);apply gS kG;exact wr (gV [.tmp 2] [.c (.p (.bool false))] kF)
   |true =>
   rw[hok,Bool.true_and] at hR
   rw[hok,if_pos rfl] at p19
   refine gM fun K F=>?_;simp only[go_sem,hF,g0,g4,k1];refine gP p19 ?_;simp only[go_sem,hF,k1,b00];apply F;clear F K;apply gF (by simp only[go_sem,hF,k1,b00]);refine Wc.cutR (fun y=>rsOK x.w (prevR x.rs (i+1)) (x.rs.drop (i+1))=R∧y.ds=[]∧Fs y.e 57 [(1,.v (.c (.ref 0 0))),(24,P' (.lst x.rs.length (x.rs.flatMap Rlp.pd))),(25,P' (pI x.rs.length)),(26,P' (pI i))]∧OA y.s.nx y.s [] [(0,.cells (x.pd.map .p) false)]) ?_ ?_
   ·by_cases h0:i=0
    ·have hh:((0:Int)<(i:Int))=False:=by simp;omega
     have hd:decide (0<i)=false:=by simp;omega
     simp only[hd,gC] at hR;refine Wc.seq ?_;refine Wc.regT fun K F=>?_;simp only[go_sem,hF,hh]
     refine⟨by rw[trOK_eq3];rfl,F _ _ ?_⟩
     clear F K;apply gF kF
     exact⟨hR,rfl,by simp only[go_sem,hF],by(try simp only[gI]);repeat (first | exact oM (ho.sub (List.Sublist.refl _) (List.sublist_cons_self _ _)) | refine oN ?_ | refine oA ?_)⟩
    ·have hh:((0:Int)<(i:Int))=True:=by simp;omega
     have hd:decide (0<i)=true:=by simp;omega
     obtain⟨q,hq⟩:∃ q,x.rs[i-1]? = some q:=⟨x.rs[i-1],List.getElem?_eq_getElem kO⟩
     have zq:=hz q (gw hq)
     have w1:IntKind.i64.wrap ((i:Int)-1)=((i-1:Nat):Int):=by rw[wi64];omega
     have hiq:=ixA ti60 rfl ti31 (j:=i-1) (m:=x.rs.length) (cs:=x.rs.flatMap Rlp.pd) kO hfl kD
     have hcq:=rpRl hq
     have p52:=pf52 q.lb c.lb (by have:=zq.lb;omega) (by have:=zc.lb;omega)
     have hcp:cmpQ (x.rs[i-1]?) c=cmpL q.lb c.lb:=by rw[hq];rfl
     rw[hcp] at hR
     generalize cmpL q.lb c.lb=V2 at hR p52;simp only[hd,gC] at hR;refine Wc.seq ?_;refine Wc.regT fun K F=>?_;simp only[go_sem,hF,hh,g0,g4,w1,hiq,hcq];refine gP p52 ?_;simp only[go_sem,hF,o52,x52]
     refine⟨by rw[trOK_eq3];rfl,F _ _ ?_⟩
     clear F K;refine Wc.cond (t:=decide (0≤V2)) kF (fun hc=>?_) (fun hc=>?_)
     ·simp only[hc,gC] at hR;subst hR;apply gS kG;exact wr (gV [.tmp 2] [.c (.p (.bool false))] kF)
     simp only[hc,gC] at hR;exact Wc.skip ⟨hR,rfl,by simp only[go_sem,hF],by(try simp only[gI]);repeat (first | exact oM (ho.sub (List.Sublist.refl _) (List.sublist_cons_self _ _)) | refine oN ?_ | refine oA ?_)⟩
   clear hF ho g0 g4 e s1 hR
   rintro⟨e,ds,s1⟩ ⟨hR,rfl,hF,ho⟩
   simp only[Fs] at hF ho;apply gR kX
   exact⟨x.rs.length-(i+1),kO,i+1,rfl,⟨kO,hR⟩,rfl,by simp only[go_sem,hF],oZ⟩
  ·have hil:i=x.rs.length:=by have:=of_decide_eq_false hc;omega
   rw[hil,List.drop_length,rsOK] at hR
   exact Wc.exit ⟨hR.symm,rfl,by simp only[go_sem,hF]⟩
 rintro⟨e,ds,s1⟩ ⟨rfl,rfl,hF⟩
 simp only[Fs] at hF;apply gS kG;exact wr (gV [.tmp 2] [.c (.p (.bool true))] kF)
def encCk (r:Rlp):Option Chk:=(encLo r).map fun d=>⟨6,r.lb,(rlpZ r.bs).g,d⟩
def encAll:List Rlp→Option (List Chk)
 |[]=>some []
 |r::t=>match encCk r with
  |none=>none
  |some c=>(encAll t).map (c :: ·)
def zBlk:Blk:=⟨0,0,0,[]⟩
def blkE (x:RSet)(id:Int):Int:=if setOK x=false then 1 else match encAll x.rs with
 |none=>4
 |some cs=>blkC ⟨id,x.w,x.fr,cs⟩
def blkB (x : RSet) (id : Int) : Blk := if blkE x id = 0 then (match encAll x.rs with
 |none=>zBlk
 |some cs=>⟨id,x.w,x.fr,cs⟩) else zBlk
def resB (b:Blk)(e:Int):D:=.tup [.agg (b.pd.map .p),.c (.p (pI e))]
theorem encCk_z {r:Rlp}{c:Chk}(z:Rz r)(h:encCk r=some c):Cz c:=by
 unfold encCk at h;cases he:encLo r with
 |none=>rw[he] at h;cases h
 |some d =>
  rw[he] at h
  simp only[Option.map_some,Option.some.injEq] at h;subst h
  obtain⟨_,ss,_,_,hl⟩:=encLo_some he
  exact⟨z.lb,z.ls,by simp only;omega⟩
theorem encAll_step {l:List Rlp}{i:Nat}{r:Rlp}{T:List Chk}{R:Option (List Chk)}(h:l[i]? = some r)(hR:(encAll (l.drop i)).map (T ++ ·)=R):match encCk r with
  |none=>R=none
  |some c=>(encAll (l.drop (i+1))).map ((T++[c]) ++ ·)=R:=by
 obtain⟨h1,h2⟩:=List.getElem?_eq_some_iff.1 h
 rw[List.drop_eq_getElem_cons h1,h2,encAll] at hR
 cases he:encCk r with
 |none=>rw[he] at hR;exact hR.symm
 |some c =>
  rw[he] at hR
  simp only
  rw[← hR]
  cases encAll (l.drop (i+1)) with
  |none=>rfl
  |some z=>simp
theorem purVs_blk {c:C}{y:Pd}(h:purS c=some y)(s:St){p0 p1 p2:Pd}:purVs s [.agg [.p p0,.p p1,.p p2,c]]=some ([.agg [.p p0,.p p1,.p p2,.p y]],s):=by
 simp only[purVs,purV,purCs,purC_p,purC_S h,List.map_cons,List.map_nil]
theorem b40:((4:Int) != 0)=true:=by decide
theorem pf31 (x:RSet)(id:Int)(hl:x.rs.length<2^20)(hz:∀ r∈x.rs,Rz r):Pf E0 31 [.agg (x.pd.map .p),.c (.p (pI id))] (resB (blkB x id) (blkE x id)):=by
 have hfl:=fRl x.rs
 have p62:=pf62 x kO hz
 generalize hE:blkE x id=V;generalize hB:blkB x id=B;unfold blkB at hB
 rw[hE] at hB
 unfold blkE at hE;refine gQ (fn:=Tryz.f31) ?_;simp only[gL,Tryz.ntmps31,Nat.reduceSub,Nat.reduceAdd];refine gY ?_;refine gO ?_;cases hok:setOK x with
 |false =>
  rw[hok,if_pos rfl] at hE
  subst hE
  rw[if_neg kD] at hB
  subst hB
  rw[hok] at p62
  refine gM fun K F=>?_;simp only[go_sem];refine gP p62 ?_;simp only[go_sem];apply F;clear F K;refine gG ?_;refine gY ?_;exact wr (gU [.cell 4 67,.tmp 5] [.agg [.p (pI 0),.p (pI 0),.p (pI 0),.nils],.c (.p (pI 1))])
 |true =>
 rw[hok,if_neg kD] at hE
 rw[hok] at p62
 have hmem:∀ r∈x.rs,r.w=x.w∧rlpOK r=true:=by
  unfold setOK at hok
  rw[Bool.and_eq_true] at hok
  exact rsOK_mem hok.2
 refine gM fun K F=>?_;simp only[go_sem];refine gP p62 ?_;simp only[go_sem];apply F;clear F K;refine gH ?_;refine Wc.seqA (fun y=>∃ k6 xc,y.ds=[]∧Fs y.e 52 [(2,.v (.c (.ref 0 0))),(4,.v (.c (.ref 1 0))),(6,.v (.c (.ref k6 0)))]∧OA y.s.nx y.s [(16,.v (.c xc),0,[])] [(k6,.cells [.p (pI id),.p (pI x.w),.p (pI x.fr),xc] false),(1,.cells [.p (pI 0),.p (pI 0),.p (pI 0),.nils] false),(0,.cells (x.pd.map .p) false)]) ?_ ?_
 ·refine gZ ?_
  exact⟨rfl,12,.nils,rfl,by simp only[go_sem],OA.nil (by(try simp only[St.put_adv,St.adv_adv,St.put_put,gI]);repeat (first | exact oM s00_oa | refine oN ?_ | refine oP ?_ | refine oA ?_))⟩
 rintro⟨e,ds,s1⟩ ⟨k6,xc,rfl,hF,ho⟩
 simp only[Fs] at hF ho
 have hR0:(encAll (x.rs.drop 0)).map ([] ++ ·)=encAll x.rs:=by simp
 generalize encAll x.rs=R at hR0 hE hB;refine Wc.seqR (fun y=>∃ k6 xc T,(R=some T∧T.length≤x.rs.length∧∀ c∈T,Cz c)∧y.ds=[]∧Fs y.e 52 [(2,.v (.c (.ref 0 0))),(4,.v (.c (.ref 1 0))),(6,.v (.c (.ref k6 0)))]∧OA y.s.nx y.s [(16,.v (.c xc),T.length,T.flatMap Chk.pd)] [(k6,.cells [.p (pI id),.p (pI x.w),.p (pI x.fr),xc] false),(1,.cells [.p (pI 0),.p (pI 0),.p (pI 0),.nils] false),(0,.cells (x.pd.map .p) false)]) ?_ ?_
 ·have g0:=ho.at_ (0,.cells (x.pd.map .p) false) kS
  simp only[gm] at g0;apply gS kC;refine Wc.block (Wc.loop (fun k y=>∃(i k6:Nat) (xc:C) (T:List Chk),k=x.rs.length-i∧(i≤x.rs.length∧T.length=i∧(∀ c∈T,Cz c)∧(encAll (x.rs.drop i)).map (T ++ ·)=R)∧y.ds=[]∧Fs y.e 52 [(2,.v (.c (.ref 0 0))),(4,.v (.c (.ref 1 0))),(6,.v (.c (.ref k6 0))),(23,P' (.lst x.rs.length (x.rs.flatMap Rlp.pd))),(24,P' (pI x.rs.length)),(25,P' (pI i))]∧OA y.s.nx y.s [(16,.v (.c xc),T.length,T.flatMap Chk.pd)] [(k6,.cells [.p (pI id),.p (pI x.w),.p (pI x.fr),xc] false),(1,.cells [.p (pI 0),.p (pI 0),.p (pI 0),.nils] false),(0,.cells (x.pd.map .p) false)]) ?_ (k:=x.rs.length) ⟨0,k6,xc,[],rfl,⟨kO,rfl,fun c hc=>(by cases hc),hR0⟩,rfl,by simp only[go_sem,hF],oZ⟩);clear hF ho g0 e s1 hR0 xc k6;rintro k ⟨e,ds,s1⟩ ⟨i,k6,xc,T,rfl,⟨hi,hTl,hTz,hR⟩,rfl,hF,ho⟩;simp only[Fs] at hF ho;apply gS kG;refine Wc.seq ?_;refine Wc.cond (t:=decide ((i:Int)<x.rs.length)) kF (fun hc=>?_) (fun hc=>?_)
  ·have hil:i<x.rs.length:=gi hc
   obtain⟨c,hcc⟩:=gE hil
   have zc:=hz c (gw hcc)
   have okc:=(hmem c (gw hcc)).2
   have hR:=encAll_step hcc hR
   have hix:=ixA ti60 rfl ti31 (j:=i) (m:=x.rs.length) (cs:=x.rs.flatMap Rlp.pd) hil hfl kD
   have hca:=rpRl hcc
   have p51:=pf51 c zc.lb zc.ls
   refine Wc.skip (Wc.seq (Wc.block (Wc.seqA (fun y=>∃ k8,y.ds=[]∧Fs y.e 52 [(2,.v (.c (.ref 0 0))),(4,.v (.c (.ref 1 0))),(6,.v (.c (.ref k6 0))),(23,P' (.lst x.rs.length (x.rs.flatMap Rlp.pd))),(24,P' (pI x.rs.length)),(25,P' (pI i)),(8,.v (.c (.ref k8 0)))]∧OA y.s.nx y.s [(16,.v (.c xc),T.length,T.flatMap Chk.pd)] ((k8,.cells (c.pd.map .p) false)::[(k6,.cells [.p (pI id),.p (pI x.w),.p (pI x.fr),xc] false),(1,.cells [.p (pI 0),.p (pI 0),.p (pI 0),.nils] false),(0,.cells (x.pd.map .p) false)])) ?_ ?_)))
   ·apply gR (by simp only[go_sem,hF,hix,hca];rfl)
    exact⟨rfl,s1.nx+3,rfl,by simp only[go_sem,hF],by(try simp only[St.put_adv,St.adv_adv,St.put_put,gI]);repeat (first | exact oM ho | refine oN ?_ | refine oP ?_ | refine oA ?_)⟩
   clear hF ho e s1
   rintro⟨e,ds,s1⟩ ⟨k8,rfl,hF,ho⟩
   simp only[Fs] at hF ho
   have g8:=ho.at_ (k8,.cells (c.pd.map .p) false) kS
   have g1:=ho.at_ (1,.cells [.p (pI 0),.p (pI 0),.p (pI 0),.nils] false) kS
   simp only[gm] at g8
   have hen:encCk c=(encLo c).map fun d=>⟨6,c.lb,(rlpZ c.bs).g,d⟩:=rfl
   cases he:encLo c with
   |none =>
    rw[he,Option.map_none] at hen
    rw[hen] at hR
    simp only at hR;subst hR
    rw[encR_none he,okc,if_pos rfl] at p51
    simp only at hE;subst hE
    rw[if_neg kD] at hB
    subst hB;refine gN fun K F=>?_;simp only[go_sem,hF,g8];refine gP p51 ?_;simp only[go_sem,hF];apply F;clear F K;refine gO ?_;apply gR (by simp only[go_sem,hF,b40];rfl);apply gT (by simp only[go_sem,hF,b40]);apply gS (by simp only[go_sem,hF,g1];rfl);exact wr (gV [.cell 4 67,.tmp 5] [.agg [.p (pI 0),.p (pI 0),.p (pI 0),.nils],.c (.p (pI 4))] kF)
   |some d =>
   rw[he,Option.map_some] at hen
   have zck:=encCk_z zc hen
   rw[hen] at hR
   simp only at hR
   rw[encR_some he] at p51
   refine Wc.seqA (fun y=>∃ k9,y.ds=[]∧Fs y.e 52 [(2,.v (.c (.ref 0 0))),(4,.v (.c (.ref 1 0))),(6,.v (.c (.ref k6 0))),(23,P' (.lst x.rs.length (x.rs.flatMap Rlp.pd))),(24,P' (pI x.rs.length)),(25,P' (pI i)),(9,.v (.c (.ref k9 0))),(10,P' (pI 0))]∧OA y.s.nx y.s [(16,.v (.c xc),T.length,T.flatMap Chk.pd)] ((k9,.cells ((Chk.mk 6 c.lb (rlpZ c.bs).g d).pd.map .p) false)::[(k6,.cells [.p (pI id),.p (pI x.w),.p (pI x.fr),xc] false),(1,.cells [.p (pI 0),.p (pI 0),.p (pI 0),.nils] false),(0,.cells (x.pd.map .p) false)])) ?_ ?_
   ·refine gM fun K F=>?_;simp only[go_sem,hF,g8];refine gP p51 ?_;simp only[go_sem,hF];apply F;clear F K
    exact⟨rfl,s1.nx+5,rfl,by simp only[go_sem,hF],by(try simp only[St.put_adv,St.adv_adv,St.put_put,gI]);repeat (first | exact oM (ho.sub (List.Sublist.refl _) (List.sublist_cons_self _ _)) | refine oN ?_ | refine oP ?_ | refine oA ?_)⟩
   generalize Chk.mk 6 c.lb (rlpZ c.bs).g d=ck at *;clear hF ho g8 g1 e s1 p51 hen
   rintro⟨e,ds,s1⟩ ⟨k9,rfl,hF,ho⟩
   simp only[Fs] at hF ho
   have g9:=ho.at_ (k9,.cells (ck.pd.map .p) false) kS
   have g6:=ho.at_ (k6,.cells [.p (pI id),.p (pI x.w),.p (pI x.fr),xc] false) kS
   simp only[gm] at g9;refine gO ?_;apply gR (by simp only[go_sem,hF,b00];rfl);apply gF (by simp only[go_sem,hF,b00]);refine gM fun K F=>?_;simp only[go_sem,hF,g6,g9];refine OA.app (L1:=[]) (L2:=[]) (by_:=120) (n:=T.length) (m:=1) (ys:=ck.pd) (cs:=T.flatMap Chk.pd) (b:=s1.nx+6) (M:=(k9,.cells (ck.pd.map .p) false)::[(k6,.cells [.p (pI id),.p (pI x.w),.p (pI x.fr),xc] false),(1,.cells [.p (pI 0),.p (pI 0),.p (pI 0),.nils] false),(0,.cells (x.pd.map .p) false)]) ?_ (Nat.le_refl _) ⟨_,ti65,rfl⟩ ti96 rfl rfl rfl kD kD kA rfl kO fun x' s3 hs hnx=>?_
   ·exact by(try simp only[gI]);repeat (first | exact oM ho | refine oN ?_ | refine oP ?_ | refine oA ?_)
   obtain⟨xc',rfl⟩:=(hs.own _ (List.mem_cons_self ..)).v
   have g6':=hs.at_ (k6,.cells [.p (pI id),.p (pI x.w),.p (pI x.fr),xc] false) kS
   simp only[go_sem,hF,g6'];apply F;clear F K
   have h5:=OA.set (M1:=[]) (o':=.cells [.p (pI id),.p (pI x.w),.p (pI x.fr),xc'] false) (OA.sub (M1:=[(k6,.cells [.p (pI id),.p (pI x.w),.p (pI x.fr),xc] false),(1,.cells [.p (pI 0),.p (pI 0),.p (pI 0),.nils] false),(0,.cells (x.pd.map .p) false)]) hs (List.Sublist.refl _) (List.sublist_cons_self _ _)) rfl
   simp only[St.nx_put,St.nx_adv] at hnx;apply gR kX
   refine⟨x.rs.length-(i+1),kO,i+1,k6,xc',T++[ck],rfl,⟨kO,by simp[hTl],fun c hc=>?_,hR⟩,rfl,by simp only[go_sem,hF],?_⟩
   ·rcases List.mem_append.1 hc with hc|hc
    ·exact hTz c hc
    ·rw[List.mem_singleton.1 hc];exact zck
   ·have e1:(T++[ck]).length=T.length+1:=by simp
    have e2:(T++[ck]).flatMap Chk.pd=T.flatMap Chk.pd++ck.pd:=by simp
    rw[e1,e2]
    exact OA.mono h5.adv kY
  ·have hil:i=x.rs.length:=by have:=of_decide_eq_false hc;omega
   rw[hil,List.drop_length] at hR
   refine Wc.exit ⟨k6,xc,T,⟨?_,kO,hTz⟩,rfl,by simp only[go_sem,hF],oZ⟩
   rw[← hR];simp[encAll]
 clear hF ho e s1 hR0 xc k6
 rintro⟨e,ds,s1⟩ ⟨k6,xc,T,⟨rfl,hTl,hTz⟩,rfl,hF,ho⟩
 simp only[Fs] at hF ho;simp only at hE hB
 have p63:=pf63 ⟨id,x.w,x.fr,T⟩ (by simp only;omega) hTz
 rw[hE] at p63
 have hpu:=(ho.own _ (List.mem_cons_self ..)).purS
 have g6:=ho.at_ (k6,.cells [.p (pI id),.p (pI x.w),.p (pI x.fr),xc] false) kS
 have g1:=ho.at_ (1,.cells [.p (pI 0),.p (pI 0),.p (pI 0),.nils] false) kS
 refine gO ?_;refine gM fun K F=>?_;simp only[go_sem,hF,g6];refine wpCall.pf p63 kR kR rfl (purVs_blk hpu _) ?_;simp only[go_sem,hF];apply F;clear F K;apply gS kG;refine Wc.cond (t:=V != 0) kF (fun hc=>?_) (fun hc=>?_)
 ·rw[if_neg (by simpa using hc)] at hB
  subst hB;apply gS (by simp only[go_sem,hF,g1];rfl);exact wr (gV [.cell 4 67,.tmp 5] [.agg [.p (pI 0),.p (pI 0),.p (pI 0),.nils],.c (.p (pI V))] kF)
 have h0:V=0:=by simpa using hc
 subst h0
 rw[if_pos rfl] at hB
 subst hB;refine Wc.skip (Wc.seq ?_);apply gR (by simp only[go_sem,hF,g6,g1];rfl);exact wr (Pf.ret [.cell 4 67,.tmp 5] [.agg [.p (pI id),.p (pI x.w),.p (pI x.fr),xc],.c (.p (pI 0))] rfl rfl kF (by simp only[packD,purD,purVs,purV,purCs,purC_S hpu,purC_p];rfl))
end Go.Proofs.YtedcnhbblgmdnaaGreat.Ab
namespace Go.Proofs.YtedcnhbblgmdnaaGreat.Ab
def dcR (c:Chk):Option Rlp:=if c.sig=6 then decL c.lb c.z c.d else none
def dcE (c:Chk):Int:=if c.sig=6 then (if (decL c.lb c.z c.d).isSome then 0 else 12) else 8
def dcX (c:Chk):Rlp:=(dcR c).getD zR
theorem b14:∀ {n:Int},n≠0→(n != 0)=true:=fun h=>by simpa using h
def dAllE:List Chk→Int
 |[]=>0
 |c::t=>if dcE c≠0 then dcE c else dAllE t
def zRS:RSet:=⟨0,0,[]⟩
def ofbE (b:Blk):Int:=if blkC b≠0 then 1 else if b.w=0 then 8 else if dAllE b.cs≠0 then dAllE b.cs else if (b.cs.map dcX).any (fun r=>r.w != b.w) then 10 else 0
def ofbS (b:Blk):RSet:=if ofbE b=0 then ⟨b.w,b.fr,b.cs.map dcX⟩ else zRS
def resS (x:RSet)(e:Int):D:=.tup [.agg (x.pd.map .p),.c (.p (pI e))]
theorem Own.ix {t e:Nat}{i ie:TI}{s:St}{es n j:Nat}{c:C}{cs:List Pd}(h:Own s es (.v (.c c)) n cs)(ht:E0.ti t=some i)(hk:i.kn=.slice e)(he:E0.ti e=some ie)(hs:ie.size=es)(hj:j<n)(h0:0<es) :
  indexAddrD E0 t (.v (.c c)) (.v (.c (.p (.int .i64 (j:Int)))))=some (.v (.c (.rp cs (j*es)))):=by
 obtain⟨hl,⟨h1,h2⟩|⟨id,h1,_⟩⟩:=h
 ·omega
 ·simp only[D.v.injEq,V.c.injEq] at h1;subst h1 hs
  have hm:(j+1)*ie.size≤n*ie.size:=Nat.mul_le_mul_right _ kO
  unfold indexAddrD
  rw[ht]
  simp only[D.int?,hk,he,Int.toNat_natCast]
  rw[if_pos ⟨Int.natCast_nonneg j,kO,kO,h0⟩]
end Go.Proofs.YtedcnhbblgmdnaaGreat.Ab
