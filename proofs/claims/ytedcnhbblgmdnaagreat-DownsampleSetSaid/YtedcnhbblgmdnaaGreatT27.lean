/- A part of the proof. -/
import Derived.Test.YtedcnhbblgmdnaaGreatT26
set_option maxHeartbeats 8000000
set_option maxRecDepth 10000
set_option linter.unusedSimpArgs false
set_option linter.unusedVariables false
namespace Go.Proofs.YtedcnhbblgmdnaaGreat.Ab
structure Chk where
 sig:Int
 lb:List Lb
 z:ZG
 d:List UInt8
abbrev Chk.pd (c:Chk):List Pd:=[pI c.sig,.lst c.lb.length (c.lb.flatMap lbP),pI c.z.c,pI c.z.t1,pI c.z.t2,pI c.z.v1,pI c.z.v2,pU c.z.b0,pU c.z.b1,pU c.z.b2,pU c.z.b3,pU c.z.b4,pU c.z.b5,pU c.z.b6,pU c.z.b7,.str c.d]
structure Blk where
 id:Int
 w:Int
 fr:Int
 cs:List Chk
abbrev Blk.pd (b:Blk):List Pd:=[pI b.id,pI b.w,pI b.fr,.lst b.cs.length (b.cs.flatMap Chk.pd)]
structure Cz (c:Chk):Prop where
 lb:c.lb.length<2^40
 ls:∀ y∈c.lb,y.1.length<2^50∧y.2.length<2^50
 d:c.d.length<2^40
def cmpI (a b:Int):Int:=if a<b then -1 else if b<a then 1 else 0
def zG1 (z:ZG):Bool:=(z.t1==0)&&((z.t2==0)&&((z.v1==0)&&((z.v2==0)&&((z.b0==0)&&((z.b1==0)&&((z.b2==0)&&((z.b3==0)&&((z.b4==0)&&((z.b5==0)&&((z.b6==0)&&(z.b7==0)))))))))))
def zkG (z:ZG):Int:=bif decide (z.c<0) || decide (1152921504606846976<z.c) then 2 else bif z.c==0 then (bif zG1 z then 0 else 10) else bif !isT z.t1 || !isT z.t2 then 2 else bif decide (z.t2<z.t1) then 9 else bif !isVl z.v1 || !isVl z.v2 then 2 else bif decide (z.v2<z.v1) then 9 else 0
def ckC (c:Chk)(w:Int):Int:=bif decide (c.sig<1) || decide (6<c.sig) then 8 else bif !((c.sig==6)==(w != 0)) then 8 else bif lckA c.lb != 0 then lckA c.lb else bif ((c.sig==3) || (c.sig==5))&&decide (0<(c.lb.length:Int)) then 1 else bif zkG c.z != 0 then zkG c.z else bif decide (262144<(c.d.length:Int)) then 4 else 0
def cmpC (a b:Chk):Int:=if cmpI a.sig b.sig≠0 then cmpI a.sig b.sig else cmpL a.lb b.lb
def cksC (w:Int):Option Chk→List Chk→Int
 |_,[]=>0
 |none,c::r=>bif ckC c w != 0 then ckC c w else cksC w (some c) r
 |some q,c::r=>bif ckC c w != 0 then ckC c w else bif decide (0≤cmpC q c) then 9 else cksC w (some c) r
def blkC (b:Blk):Int:=bif decide (b.id<1) || decide (1152921504606846976<b.id) then 2 else bif decide (b.w<0) || decide (1099511627776<b.w) then 2 else bif (decide (b.fr<0) || decide (1099511627776<b.fr)) || ((b.w==0)&&(b.fr != 0)) then 2 else bif decide (4000<(b.cs.length:Int)) then 4 else cksC b.w none b.cs
def prevC (l:List Chk)(i:Nat):Option Chk:=if i=0 then none else l[i-1]?
theorem pf214 (a:Int):Pf E0 214 [.c (.p (pI a))] (P' (.bool false)):=by
 refine gQ (fn:=Tryz.f214) ?_;simp only[gL,Tryz.ntmps214,Nat.reduceSub,Nat.reduceAdd];refine gY ?_;apply gS (by simp only[go_sem,bne_self_eq_false];rfl);exact wr (gU [.tmp 2] [.c (.p (.bool false))])
theorem pf138 (a b:Int):Pf E0 138 [.c (.p (pI a)),.c (.p (pI b))] (P' (pI (cmpI a b))):=by
 refine gQ (fn:=Tryz.f138) ?_;simp only[gL,Tryz.ntmps138,Nat.reduceSub,Nat.reduceAdd];refine gY ?_;refine gN fun K F=>?_;simp only[go_sem];refine gP (pf214 a) ?_;simp only[go_sem];apply F;clear F K;refine gN fun K F=>?_;simp only[go_sem];refine gP (pf214 b) ?_;simp only[go_sem];apply F;clear F K;refine gO ?_;refine gZ ?_;refine gH ?_;refine gO ?_;refine gZ ?_;refine gH ?_;refine gO ?_
 by_cases h1:a<b
 ·have e:cmpI a b = -1:=by unfold cmpI;rw[if_pos h1]
  rw[e]
  apply gR (by simp only[go_sem,h1];rfl);apply gT (by simp only[go_sem,h1]);refine gY ?_;exact wr (gU [.tmp 4] [.c (.p (pI (-1)))])
 apply gR (by simp only[go_sem,h1];rfl);apply gF (by simp only[go_sem,h1]);refine gO ?_
 by_cases h2:b<a
 ·have e:cmpI a b=1:=by unfold cmpI;rw[if_neg h1,if_pos h2]
  rw[e]
  apply gR (by simp only[go_sem,h1,h2];rfl);apply gT (by simp only[go_sem,h1,h2]);refine gY ?_;exact wr (gU [.tmp 4] [.c (.p (pI 1))])
 ·have e:cmpI a b=0:=by unfold cmpI;rw[if_neg h1,if_neg h2]
  rw[e]
  apply gR (by simp only[go_sem,h1,h2];rfl);apply gF (by simp only[go_sem,h1,h2]);refine gY ?_;exact wr (gU [.tmp 4] [.c (.p (pI 0))])
theorem pf190 (a:Int):Pf E0 190 [.c (.p (pI a))] (P' (.bool ((a==3) || (a==5)))):=by
 refine gQ (fn:=Tryz.f190) ?_;simp only[gL,Tryz.ntmps190,Nat.reduceSub,Nat.reduceAdd];refine gY ?_;refine Wc.seq ?_;cases h:(a==3) with
 |true =>
  apply gR kB;exact wr (gU [.tmp 2] [.c (.p (.bool true))])
 |false =>
  apply gR kB;exact wr (gU [.tmp 2] [.c (.p (.bool (a==5)))])
theorem pf191 (z:ZG):Pf E0 191 [.agg (z.pd.map .p)] (P' (pI (zkG z))):=by
 generalize hR:zkG z=R;unfold zkG at hR;refine gQ (fn:=Tryz.f191) ?_;simp only[gL,Tryz.ntmps191,Nat.reduceSub,Nat.reduceAdd];refine gY ?_;refine gO ?_;rcases gK (decide (z.c<0)) with a1|a1
 ·apply gR (by simp only[go_sem,a1];rfl);apply gT (by simp only[go_sem,a1]);refine gY ?_;obtain rfl:R=2:=by rw[← hR];simp only[a1,gC]
  exact wr (gU [.tmp 2] [.c (.p (pI 2))])
 rcases gK (decide (1152921504606846976<z.c)) with a2|a2
 ·apply gR (by simp only[go_sem,a1,a2];rfl);apply gT (by simp only[go_sem,a1,a2]);refine gY ?_;obtain rfl:R=2:=by rw[← hR];simp only[a1,a2,gC]
  exact wr (gU [.tmp 2] [.c (.p (pI 2))])
 apply gR (by simp only[go_sem,a1,a2];rfl);apply gF (by simp only[go_sem,a1,a2]);simp only[a1,a2,gC] at hR;refine gO ?_;rcases gK (z.c==0) with k0|k0
 ·simp only[k0,gC] at hR;apply gR (by simp only[go_sem,k0];rfl);apply gT (by simp only[go_sem,k0]);refine gO ?_;unfold zG1 at hR
  have kz:=eq_of_beq k0
  rcases gK ((z.t1==0)&&((z.t2==0)&&((z.v1==0)&&((z.v2==0)&&((z.b0==0)&&((z.b1==0)&&((z.b2==0)&&((z.b3==0)&&((z.b4==0)&&((z.b5==0)&&((z.b6==0)&&(z.b7==0)))))))))))) with k1|k1
  ·simp only[k1,cond_true] at hR;subst hR;apply gR (by simp only[go_sem,k0,k1,eqL,eqS];rfl);apply gF (by simp only[go_sem,k1]);refine gY ?_;exact wr (gU [.tmp 2] [.c (.p (pI 0))])
  ·simp only[k1,cond_false] at hR;subst hR;apply gR (by simp only[go_sem,k0,k1,eqL,eqS];rfl);apply gT (by simp only[go_sem,k1]);refine gY ?_;exact wr (gU [.tmp 2] [.c (.p (pI 10))])
 simp only[k0,gC] at hR;apply gR (by simp only[go_sem,k0];rfl);apply gF (by simp only[go_sem,k0]);refine gO ?_;cases h1:isT z.t1 with
 |false =>
  refine gM fun K F=>?_;simp only[go_sem];refine gP (pf235 z.t1) ?_;simp only[go_sem,h1];apply F;clear F K;refine gG ?_;refine gY ?_;obtain rfl:R=2:=by rw[← hR];simp only[h1,gC]
  exact wr (gU [.tmp 2] [.c (.p (pI 2))])
 |true =>
 cases h2:isT z.t2 with
 |false =>
  refine gM fun K F=>?_;simp only[go_sem];refine gP (pf235 z.t1) ?_;simp only[go_sem,h1];refine gP (pf235 z.t2) ?_;simp only[go_sem,h2];apply F;clear F K;refine gG ?_;refine gY ?_;obtain rfl:R=2:=by rw[← hR];simp only[h1,h2,gC]
  exact wr (gU [.tmp 2] [.c (.p (pI 2))])
 |true =>
 simp only[h1,h2,gC] at hR;refine gM fun K F=>?_;simp only[go_sem];refine gP (pf235 z.t1) ?_;simp only[go_sem,h1];refine gP (pf235 z.t2) ?_;simp only[go_sem,h2];apply F;clear F K;refine gH ?_;refine gO ?_;refine gZ ?_;refine Wc.cond (t:=decide (z.t2<z.t1)) kA (fun hc=>?_) (fun hc=>?_)
 ·simp only[hc,gC] at hR;subst hR;refine gY ?_;exact wr (gU [.tmp 2] [.c (.p (pI 9))])
 simp only[hc,gC] at hR;refine Wc.skip (Wc.seq (Wc.seq ?_));cases h3:isVl z.v1 with
 |false =>
  refine gM fun K F=>?_;simp only[go_sem];refine gP (pf236 z.v1) ?_;simp only[go_sem,h3];apply F;clear F K;refine gG ?_;refine gY ?_;obtain rfl:R=2:=by rw[← hR];simp only[h3,gC]
  exact wr (gU [.tmp 2] [.c (.p (pI 2))])
 |true =>
 cases h4:isVl z.v2 with
 |false =>
  refine gM fun K F=>?_;simp only[go_sem];refine gP (pf236 z.v1) ?_;simp only[go_sem,h3];refine gP (pf236 z.v2) ?_;simp only[go_sem,h4];apply F;clear F K;refine gG ?_;refine gY ?_;obtain rfl:R=2:=by rw[← hR];simp only[h3,h4,gC]
  exact wr (gU [.tmp 2] [.c (.p (pI 2))])
 |true =>
 simp only[h3,h4,gC] at hR;refine gM fun K F=>?_;simp only[go_sem];refine gP (pf236 z.v1) ?_;simp only[go_sem,h3];refine gP (pf236 z.v2) ?_;simp only[go_sem,h4];apply F;clear F K;refine gH ?_;refine gO ?_;refine gZ ?_;refine Wc.cond (t:=decide (z.v2<z.v1)) kA (fun hc=>?_) (fun hc=>?_)
 ·simp only[hc,gC] at hR;subst hR;refine gY ?_;exact wr (gU [.tmp 2] [.c (.p (pI 9))])
 simp only[hc,gC] at hR;subst hR;refine Wc.skip (Wc.seq ?_);refine gZ ?_;exact wr (gU [.tmp 2] [.c (.p (pI 0))])
theorem pf118 (c:Chk)(w:Int)(z:Cz c):Pf E0 118 [.agg (c.pd.map .p),.c (.p (pI w))] (P' (pI (ckC c w))):=by
 generalize hR:ckC c w=R;unfold ckC at hR
 have p134:=pf134 c.lb z.lb z.ls
 have p191:=pf191 c.z
 refine gQ (fn:=Tryz.f118) ?_;simp only[gL,Tryz.ntmps118,Nat.reduceSub,Nat.reduceAdd];refine gY ?_;refine gO ?_;rcases gK (decide (c.sig<1)) with a1|a1
 ·apply gR (by simp only[go_sem,a1];rfl);apply gT (by simp only[go_sem,a1]);refine gY ?_;obtain rfl:R=8:=by rw[← hR];simp only[a1,gC]
  exact wr (gU [.tmp 4] [.c (.p (pI 8))])
 rcases gK (decide (6<c.sig)) with a2|a2
 ·apply gR (by simp only[go_sem,a1,a2];rfl);apply gT (by simp only[go_sem,a1,a2]);refine gY ?_;obtain rfl:R=8:=by rw[← hR];simp only[a1,a2,gC]
  exact wr (gU [.tmp 4] [.c (.p (pI 8))])
 apply gR (by simp only[go_sem,a1,a2];rfl);apply gF (by simp only[go_sem,a1,a2]);simp only[a1,a2,gC] at hR;refine gO ?_;rcases gK ((c.sig==6)==(w != 0)) with k0|k0
 ·simp only[k0,gC] at hR;apply gR (by simp only[go_sem,k0];rfl);apply gF (by simp only[go_sem,k0]);refine gO ?_;refine gM fun K F=>?_;simp only[go_sem];refine gP p134 ?_;simp only[go_sem];apply F;clear F K;refine gY ?_;generalize lckA c.lb=L at *;refine Wc.cond (t:=L != 0) kA (fun hc=>?_) (fun hc=>?_)
  ·simp only[hc,gC] at hR;subst hR;refine gY ?_;exact wr (gU [.tmp 4] [.c (.p (pI L))])
  simp only[hc,gC] at hR;refine Wc.skip (Wc.seq ?_);rcases gK (((c.sig==3) || (c.sig==5))&&decide (0<(c.lb.length:Int))) with k1 | k1
  ·simp only[k1,gC] at hR;subst hR
   have k2:=k1
   rw[Bool.and_eq_true] at k2
   refine gN fun K F=>?_;simp only[go_sem];refine gP (pf190 c.sig) ?_;simp only[go_sem,k2.1,k2.2];apply F;clear F K;apply gT (by simp only[go_sem,k2.2]);refine gY ?_;exact wr (gU [.tmp 4] [.c (.p (pI 1))])
  simp only[k1,gC] at hR
  have p190:=pf190 c.sig
  refine Wc.seqR (fun y=>y.ds=[]∧Fs y.e 46 [(2,.v (.c (.ref 0 0))),(35,P' (.bool false))]∧OA y.s.nx y.s [] [(0,.cells (c.pd.map .p) false)]) ?_ ?_
  ·cases hu:((c.sig==3) || (c.sig==5)) with
   |false =>
    rw[hu] at p190
    refine gM fun K F=>?_;simp only[go_sem];refine gP p190 ?_;simp only[go_sem];apply F;clear F K
    exact⟨rfl,by simp only[go_sem],oW⟩
   |true =>
    rw[hu,Bool.true_and] at k1
    rw[hu] at p190
    refine gM fun K F=>?_;simp only[go_sem];refine gP p190 ?_;simp only[go_sem,k1];apply F;clear F K
    exact⟨rfl,by simp only[go_sem],oW⟩
  rintro⟨e,ds,s1⟩ ⟨rfl,hF,ho⟩
  simp only[Fs] at hF ho
  have g0:=ho.at_ (0,.cells (c.pd.map .p) false) kS
  simp only[gm] at g0;apply gF kF;refine gO ?_;refine gM fun K F=>?_;simp only[go_sem,hF,g0];refine gP p191 ?_;simp only[go_sem,hF];apply F;clear F K;apply gS kG;generalize zkG c.z=Z at *;refine Wc.cond (t:=Z != 0) kF (fun hc=>?_) (fun hc=>?_)
  ·simp only[hc,gC] at hR;subst hR;apply gS kG;exact wr (gV [.tmp 4] [.c (.p (pI Z))] kF)
  simp only[hc,gC] at hR;refine Wc.skip (Wc.seq (Wc.seq ?_));apply gR kC;refine Wc.cond (t:=decide (262144<(c.d.length:Int))) kF (fun hc=>?_) (fun hc=>?_)
  ·simp only[hc,gC] at hR;subst hR;apply gS kG;exact wr (gV [.tmp 4] [.c (.p (pI 4))] kF)
  simp only[hc,gC] at hR;subst hR;refine Wc.skip (Wc.seq ?_);apply gR kG;exact wr (gV [.tmp 4] [.c (.p (pI 0))] kF)
 ·simp only[k0,gC] at hR;subst hR;apply gR (by simp only[go_sem,k0];rfl);apply gT (by simp only[go_sem,k0]);refine gY ?_;exact wr (gU [.tmp 4] [.c (.p (pI 8))])
theorem o138:E0.opn 138=false:=by kernel_rfl
theorem x138:E0.xt 138=none:=by kernel_rfl
theorem o52:E0.opn 52=false:=by kernel_rfl
theorem x52:E0.xt 52=none:=by kernel_rfl
theorem pf119 (a b:Chk)(ha:Cz a)(hb:Cz b):Pf E0 119 [.agg (a.pd.map .p),.agg (b.pd.map .p)] (P' (pI (cmpC a b))):=by
 have p52:=pf52 a.lb b.lb (by have:=ha.lb;omega) (by have:=hb.lb;omega)
 have p138:=pf138 a.sig b.sig
 have p104:=pf104 (cmpI a.sig b.sig) (cmpL a.lb b.lb)
 unfold cmpC;generalize cmpI a.sig b.sig=C at *;generalize cmpL a.lb b.lb=D at *;generalize (if C≠0 then C else D)=R at *;refine gQ (fn:=Tryz.f119) ?_;simp only[gL,Tryz.ntmps119,Nat.reduceSub,Nat.reduceAdd];refine gY ?_;refine Wc.seq ?_;refine Wc.regT fun K F=>?_;simp only[go_sem];refine gP p138 ?_;simp only[go_sem];refine gP p52 ?_;simp only[go_sem];refine gP p104 ?_;simp only[go_sem,o104,x104,o138,x138,o52,x52]
 refine⟨by rw[trOK_eq3];rfl,F _ _ ?_⟩
 clear F K;exact wr (gU [.tmp 4] [.c (.p (pI R))])
theorem Wc.cutR {E:Env}{ro:Option Nat}{c:Code}{x:Fr}{Q:Ex→Fr→Prop}(A:Fr→Prop)(h1:Wc E ro c x (thenD A Q))(h2:∀ y,A y→Q .normal y):Wc E ro c x Q :=
 h1.mono fun ex y h=>by
  cases ex with
  |normal=>exact h2 y h
  |exit i=>exact h
  |ret=>exact h
theorem fK (l:List Chk):(l.flatMap Chk.pd).length=l.length*16:=flat_len (k:=16) (fun _=>rfl) _
theorem rpK {l:List Chk}{i:Nat}{c:Chk}(h:l[i]? = some c)(s:St):cellsAt s (.v (.c (.rp (l.flatMap Chk.pd) (i*16))))=some ((c.pd++(l.drop (i+1)).flatMap Chk.pd).map .p):=by
 have hf:=fK l
 have hi:=(List.getElem?_eq_some_iff.1 h).1
 exact rpA (off:=i*16) (drop_flat (f:=Chk.pd) (k:=16) (fun _=>rfl) h) kO s
def cmpP (q:Option Chk)(c:Chk):Int:=(q.map fun q=>cmpC q c).getD (-1)
theorem cksC_step {w:Int}{l:List Chk}{i:Nat}{c:Chk}(h:l[i]? = some c):cksC w (prevC l i) (l.drop i)=bif ckC c w != 0 then ckC c w else bif decide (0<i)&&decide (0≤cmpP (l[i-1]?) c) then 9 else cksC w (prevC l (i+1)) (l.drop (i+1)):=by
 obtain⟨h1,h2⟩:=List.getElem?_eq_some_iff.1 h
 have hp:prevC l (i+1)=some c:=by simp[prevC,h]
 rw[List.drop_eq_getElem_cons h1,h2,hp]
 by_cases h0:i=0
 ·subst h0
  simp[prevC,cksC]
 ·have hq:prevC l i=some l[i-1]:=by simp[prevC,h0]
  have hq2:l[i-1]? = some l[i-1]:=by simp
  rw[hq,hq2,cksC,decide_eq_true (show 0<i by omega),Bool.true_and]
  rfl
theorem o119:E0.opn 119=false:=by kernel_rfl
theorem x119:E0.xt 119=none:=by kernel_rfl
theorem pf63 (b:Blk)(hl:b.cs.length<2^40)(hz:∀ c∈b.cs,Cz c):Pf E0 63 [.agg (b.pd.map .p)] (P' (pI (blkC b))):=by
 have hfl:=fK b.cs
 generalize hR:blkC b=R;unfold blkC at hR;refine gQ (fn:=Tryz.f63) ?_;simp only[gL,Tryz.ntmps63,Nat.reduceSub,Nat.reduceAdd];refine gY ?_;refine gO ?_;rcases gK (decide (b.id<1)) with a1|a1
 ·apply gR (by simp only[go_sem,a1];rfl);apply gT (by simp only[go_sem,a1]);refine gY ?_;obtain rfl:R=2:=by rw[← hR];simp only[a1,gC]
  exact wr (gU [.tmp 2] [.c (.p (pI 2))])
 rcases gK (decide (1152921504606846976<b.id)) with a2|a2
 ·apply gR (by simp only[go_sem,a1,a2];rfl);apply gT (by simp only[go_sem,a1,a2]);refine gY ?_;obtain rfl:R=2:=by rw[← hR];simp only[a1,a2,gC]
  exact wr (gU [.tmp 2] [.c (.p (pI 2))])
 apply gR (by simp only[go_sem,a1,a2];rfl);apply gF (by simp only[go_sem,a1,a2]);simp only[a1,a2,gC] at hR;refine gO ?_;rcases gK (decide (b.w<0)) with c1|c1
 ·apply gR (by simp only[go_sem,c1];rfl);apply gT (by simp only[go_sem,c1]);refine gY ?_;obtain rfl:R=2:=by rw[← hR];simp only[c1,gC]
  exact wr (gU [.tmp 2] [.c (.p (pI 2))])
 rcases gK (decide (1099511627776<b.w)) with c2|c2
 ·apply gR (by simp only[go_sem,c1,c2];rfl);apply gT (by simp only[go_sem,c1,c2]);refine gY ?_;obtain rfl:R=2:=by rw[← hR];simp only[c1,c2,gC]
  exact wr (gU [.tmp 2] [.c (.p (pI 2))])
 apply gR (by simp only[go_sem,c1,c2];rfl);apply gF (by simp only[go_sem,c1,c2]);simp only[c1,c2,gC] at hR;refine Wc.seqR (fun y=>((decide (b.fr<0) || decide (1099511627776<b.fr)) || ((b.w==0)&&(b.fr != 0)))=false∧y.ds=[]∧Fs y.e 73 [(1,.v (.c (.ref 0 0)))]∧OA y.s.nx y.s [] [(0,.cells (b.pd.map .p) false)]) ?_ ?_
 ·refine Wc.seq ?_;rcases gK ((decide (b.fr<0) || decide (1099511627776<b.fr)) || ((b.w==0)&&(b.fr != 0))) with k1 | k1
  ·simp only[k1,gC] at hR;subst hR;cases u1:decide (b.fr<0) with
   |true =>
    apply gR (by simp only[go_sem,u1];rfl);apply gT (by simp only[go_sem,u1]);refine gY ?_;exact wr (gU [.tmp 2] [.c (.p (pI 2))])
   |false =>
   cases u2:decide (1099511627776<b.fr) with
   |true =>
    apply gR (by simp only[go_sem,u1,u2];rfl);apply gT (by simp only[go_sem,u1,u2]);refine gY ?_;exact wr (gU [.tmp 2] [.c (.p (pI 2))])
   |false =>
   rw[u1,u2,Bool.false_or,Bool.false_or,Bool.and_eq_true] at k1
   apply gR (by simp only[go_sem,u1,u2,k1.1,k1.2];rfl);apply gT (by simp only[go_sem,u1,u2,k1.1,k1.2]);refine gY ?_;exact wr (gU [.tmp 2] [.c (.p (pI 2))])
  ·have k2:=k1
   rw[Bool.or_eq_false_iff,Bool.or_eq_false_iff] at k2
   obtain⟨⟨u1,u2⟩,u3⟩:=k2
   cases u4:(b.w==0) with
   |true =>
    rw[u4,Bool.true_and] at u3
    apply gR (by simp only[go_sem,u1,u2,u4,u3];rfl);apply gF (by simp only[go_sem,u1,u2,u4,u3])
    exact⟨by rw[u4] at k1;exact k1,rfl,by simp only[go_sem],oW⟩
   |false =>
    apply gR (by simp only[go_sem,u1,u2,u4];rfl);apply gF (by simp only[go_sem,u1,u2,u4])
    exact⟨by rw[u4] at k1;exact k1,rfl,by simp only[go_sem],oW⟩
 rintro⟨e,ds,s1⟩ ⟨k1,rfl,hF,ho⟩
 simp only[Fs] at hF ho;simp only[k1,cond_false] at hR
 have g0:=ho.at_ (0,.cells (b.pd.map .p) false) kS
 simp only[gm] at g0;refine gO ?_;apply gR kC;refine Wc.cond (t:=decide (4000<(b.cs.length:Int))) kF (fun hc=>?_) (fun hc=>?_)
 ·simp only[hc,gC] at hR;subst hR;apply gS kG;exact wr (gV [.tmp 2] [.c (.p (pI 4))] kF)
 simp only[hc,gC] at hR
 have hR0:cksC b.w (prevC b.cs 0) (b.cs.drop 0)=R:=hR
 refine Wc.skip (Wc.seqR (fun y=>R=0∧y.ds=[]∧Fs y.e 73 []) ?_ ?_)
 ·apply gS kC;refine Wc.block (Wc.loop (fun k y=>∃ i:Nat,k=b.cs.length-i∧(i≤b.cs.length∧cksC b.w (prevC b.cs i) (b.cs.drop i)=R)∧y.ds=[]∧Fs y.e 73 [(1,.v (.c (.ref 0 0))),(45,P' (.lst b.cs.length (b.cs.flatMap Chk.pd))),(46,P' (pI b.cs.length)),(47,P' (pI i))]∧OA y.s.nx y.s [] [(0,.cells (b.pd.map .p) false)]) ?_ (k:=b.cs.length) ⟨0,rfl,⟨kO,hR0⟩,rfl,by simp only[go_sem,hF],oZ⟩);clear hF ho g0 e s1 hR hR0;rintro k ⟨e,ds,s1⟩ ⟨i,rfl,⟨hi,hR⟩,rfl,hF,ho⟩;simp only[Fs] at hF ho;apply gS kG;refine Wc.seq ?_;refine Wc.cond (t:=decide ((i:Int)<b.cs.length)) kF (fun hc=>?_) (fun hc=>?_)
  ·have hil:i<b.cs.length:=gi hc
   obtain⟨c,hcc⟩:=gE hil
   have zc:=hz c (gw hcc)
   rw[cksC_step hcc] at hR
   have hix:=ixA ti65 rfl ti96 (j:=i) (m:=b.cs.length) (cs:=b.cs.flatMap Chk.pd) hil hfl kD
   have hca:=rpK hcc
   have p118:=pf118 c b.w zc
   refine Wc.skip (Wc.seq (Wc.block (Wc.seqA (fun y=>∃ k4,y.ds=[]∧Fs y.e 73 [(1,.v (.c (.ref 0 0))),(45,P' (.lst b.cs.length (b.cs.flatMap Chk.pd))),(46,P' (pI b.cs.length)),(47,P' (pI i)),(3,P' (pI i)),(4,.v (.c (.ref k4 0)))]∧OA y.s.nx y.s [] [(k4,.cells (c.pd.map .p) false),(0,.cells (b.pd.map .p) false)]) ?_ ?_)))
   ·apply gR (by simp only[go_sem,hF,hix,hca];rfl)
    exact⟨rfl,s1.nx+4,rfl,by simp only[go_sem,hF],by(try simp only[St.put_adv,St.adv_adv,St.put_put,gI]);repeat (first | exact oM ho | refine oN ?_ | refine oP ?_ | refine oA ?_)⟩
   clear hF ho e s1
   rintro⟨e,ds,s1⟩ ⟨k4,rfl,hF,ho⟩
   simp only[Fs] at hF ho
   have g0:=ho.at_ (0,.cells (b.pd.map .p) false) kS
   have g4:=ho.at_ (k4,.cells (c.pd.map .p) false) kS
   simp only[gm] at g0 g4;refine gO ?_;refine gM fun K F=>?_;simp only[go_sem,hF,g0,g4];refine gP p118 ?_;simp only[go_sem,hF];apply F;clear F K;apply gS kG;generalize ckC c b.w=V at *;refine Wc.cond (t:=V != 0) kF (fun hc=>?_) (fun hc=>?_)
   ·simp only[hc,gC] at hR;subst hR;apply gS kG;exact wr (gV [.tmp 2] [.c (.p (pI V))] kF)
   simp only[hc,gC] at hR;refine Wc.skip ?_;refine Wc.cutR (fun y=>cksC b.w (prevC b.cs (i+1)) (b.cs.drop (i+1))=R∧y.ds=[]∧Fs y.e 73 [(1,.v (.c (.ref 0 0))),(45,P' (.lst b.cs.length (b.cs.flatMap Chk.pd))),(46,P' (pI b.cs.length)),(47,P' (pI i))]∧OA y.s.nx y.s [] [(0,.cells (b.pd.map .p) false)]) ?_ ?_
   ·by_cases h0:i=0
    ·have hh:((0:Int)<(i:Int))=False:=by simp;omega
     have hd:decide (0<i)=false:=by simp;omega
     simp only[hd,gC] at hR;refine Wc.seq ?_;refine Wc.regT fun K F=>?_;simp only[go_sem,hF,hh]
     refine⟨by rw[trOK_eq3];rfl,F _ _ ?_⟩
     clear F K;apply gF kF
     exact⟨hR,rfl,by simp only[go_sem,hF],by(try simp only[gI]);repeat (first | exact oM (ho.sub (List.Sublist.refl _) (List.sublist_cons_self _ _)) | refine oN ?_ | refine oA ?_)⟩
    ·have hh:((0:Int)<(i:Int))=True:=by simp;omega
     have hd:decide (0<i)=true:=by simp;omega
     obtain⟨q,hq⟩:∃ q,b.cs[i-1]? = some q:=⟨b.cs[i-1],List.getElem?_eq_getElem kO⟩
     have zq:=hz q (gw hq)
     have w1:IntKind.i64.wrap ((i:Int)-1)=((i-1:Nat):Int):=by rw[wi64];omega
     have hiq:=ixA ti65 rfl ti96 (j:=i-1) (m:=b.cs.length) (cs:=b.cs.flatMap Chk.pd) kO hfl kD
     have hcq:=rpK hq
     have p119:=pf119 q c zq zc
     have hcp:cmpP (b.cs[i-1]?) c=cmpC q c:=by rw[hq];rfl
     rw[hcp] at hR
     generalize cmpC q c=V2 at hR p119;simp only[hd,gC] at hR;refine Wc.seq ?_;refine Wc.regT fun K F=>?_;simp only[go_sem,hF,hh,g0,g4,w1,hiq,hcq];refine gP p119 ?_;simp only[go_sem,hF,o119,x119]
     refine⟨by rw[trOK_eq3];rfl,F _ _ ?_⟩
     clear F K;refine Wc.cond (t:=decide (0≤V2)) kF (fun hc=>?_) (fun hc=>?_)
     ·simp only[hc,gC] at hR;subst hR;apply gS kG;exact wr (gV [.tmp 2] [.c (.p (pI 9))] kF)
     simp only[hc,gC] at hR;exact Wc.skip ⟨hR,rfl,by simp only[go_sem,hF],by(try simp only[gI]);repeat (first | exact oM (ho.sub (List.Sublist.refl _) (List.sublist_cons_self _ _)) | refine oN ?_ | refine oA ?_)⟩
   clear hF ho g0 g4 e s1 hR
   rintro⟨e,ds,s1⟩ ⟨hR,rfl,hF,ho⟩
   simp only[Fs] at hF ho;apply gR kX
   exact⟨b.cs.length-(i+1),kO,i+1,rfl,⟨kO,hR⟩,rfl,by simp only[go_sem,hF],oZ⟩
  ·have hil:i=b.cs.length:=by have:=of_decide_eq_false hc;omega
   rw[hil,List.drop_length,cksC] at hR
   exact Wc.exit ⟨hR.symm,rfl,by simp only[go_sem,hF]⟩
 clear hF ho g0 e s1 hR
 rintro⟨e,ds,s1⟩ ⟨rfl,rfl,hF⟩
 simp only[Fs] at hF;apply gS kG;exact wr (gV [.tmp 2] [.c (.p (pI 0))] kF)
structure RSet where
 w:Int
 fr:Int
 rs:List Rlp
abbrev RSet.pd (x:RSet):List Pd:=[pI x.w,pI x.fr,.lst x.rs.length (x.rs.flatMap Rlp.pd)]
theorem fRl (l:List Rlp):(l.flatMap Rlp.pd).length=l.length*4:=flat_len (k:=4) (fun _=>rfl) _
theorem rpRl {l:List Rlp}{i:Nat}{c:Rlp}(h:l[i]? = some c)(s:St):cellsAt s (.v (.c (.rp (l.flatMap Rlp.pd) (i*4))))=some ((c.pd++(l.drop (i+1)).flatMap Rlp.pd).map .p):=by
 have hf:=fRl l
 have hi:=(List.getElem?_eq_some_iff.1 h).1
 exact rpA (off:=i*4) (drop_flat (f:=Rlp.pd) (k:=4) (fun _=>rfl) h) kO s
theorem pf33 (x:RSet)(hl:x.rs.length<2^40)(hz:∀ r∈x.rs,Rz r):Pf E0 33 [.agg (x.pd.map .p),.agg (x.pd.map .p)] (P' (.bool true)):=by
 have hfl:=fRl x.rs
 refine gQ (fn:=Tryz.f33) ?_;simp only[gL,Tryz.ntmps33,Nat.reduceSub,Nat.reduceAdd];refine gY ?_;refine gO ?_;apply gR (by simp only[go_sem,bne_self_eq_false];rfl);refine gH ?_;refine Wc.seqR (fun y=>y.ds=[]∧Fs y.e 46 []) ?_ ?_
 ·refine gY ?_;refine Wc.block (Wc.loop (fun c y=>∃ i:Nat,c=x.rs.length-i∧i≤x.rs.length∧y.ds=[]∧Fs y.e 46 [(2,.v (.c (.ref 0 0))),(3,.v (.c (.ref 1 0))),(5,P' (pI i))]∧OA y.s.nx y.s [] [(1,.cells (x.pd.map .p) false),(0,.cells (x.pd.map .p) false)]) ?_ (k:=x.rs.length) ⟨0,rfl,kO,rfl,by simp only[go_sem],by(try simp only[St.put_adv,St.adv_adv,St.put_put,gI]);repeat (first | exact oM s00_oa | refine oN ?_ | refine oP ?_ | refine oA ?_)⟩);rintro c ⟨e,ds,s1⟩ ⟨i,rfl,hi,rfl,hF,ho⟩;simp only[Fs] at hF ho
  have g0:=ho.at_ (0,.cells (x.pd.map .p) false) kS
  have g1:=ho.at_ (1,.cells (x.pd.map .p) false) kS
  simp only[gm] at g0 g1;refine gO ?_;apply gR kC;refine Wc.cond (t:=decide ((i:Int)<x.rs.length)) kF (fun hc=>?_) (fun hc=>?_)
  ·have hil:i<x.rs.length:=gi hc
   obtain⟨b,hb⟩:=gE hil
   have hix:=ixA ti60 rfl ti31 (j:=i) (m:=x.rs.length) (cs:=x.rs.flatMap Rlp.pd) hil hfl kD
   have hca:=rpRl hb
   have p17:=(hz b (gw hb)).same
   refine Wc.skip (Wc.seq (Wc.block (Wc.seq ?_)));refine Wc.regT fun K F=>?_;simp only[go_sem,hF,g0,g1,hix,hca];refine gP p17 ?_;simp only[go_sem,hF,o17,x17]
   refine⟨by rw[trOK_eq3];rfl,F _ _ ?_⟩
   clear F K;apply gX kF;refine Wc.skip ?_;apply gR kX
   exact⟨x.rs.length-(i+1),kO,i+1,rfl,kO,rfl,by simp only[go_sem,hF],by(try simp only[St.put_adv,St.adv_adv,St.put_put,gI]);repeat (first | exact oM ho | refine oN ?_ | refine oP ?_ | refine oA ?_)⟩
  ·exact Wc.exit ⟨rfl,by simp only[go_sem,hF]⟩
 rintro⟨e,ds,s1⟩ ⟨rfl,hF⟩
 simp only[Fs] at hF;apply gS kG;exact wr (gV [.tmp 4] [.c (.p (.bool true))] kF)
structure Ent where
 t:Int
 lb:List Lb
 ln:List UInt8
 fs:List Lb
 tr:Int
abbrev Ent.pd (x:Ent):List Pd:=[pI x.t,.lst x.lb.length (x.lb.flatMap lbP),.str x.ln,.lst x.fs.length (x.fs.flatMap lbP),pI x.tr]
structure Spn where
 tr:Int
 id:Int
 pa:Int
 sv:List UInt8
 nm:List UInt8
 st:Int
 en:Int
 ss:Int
 ab:List Lb
 lk:List I2
abbrev Spn.pd (x:Spn):List Pd:=[pI x.tr,pI x.id,pI x.pa,.str x.sv,.str x.nm,pI x.st,pI x.en,pI x.ss,.lst x.ab.length (x.ab.flatMap lbP),.lst x.lk.length (x.lk.flatMap p2)]
structure Prf where
 t:Int
 lb:List Lb
 fl:List Frm
abbrev Prf.pd (x:Prf):List Pd:=[pI x.t,.lst x.lb.length (x.lb.flatMap lbP),.lst x.fl.length (x.fl.flatMap Frm.pd)]
structure Exm where
 lb:List Lb
 t:Int
 v:Int
 tr:Int
 sp:Int
abbrev Exm.pd (x:Exm):List Pd:=[.lst x.lb.length (x.lb.flatMap lbP),pI x.t,pI x.v,pI x.tr,pI x.sp]
structure Dat where
 ss:List Ser
 es:List Ent
 sp:List Spn
 ps:List Prf
 xs:List Exm
abbrev Dat.pd (x:Dat):List Pd:=[.lst x.ss.length (x.ss.flatMap Ser.pd),.lst x.es.length (x.es.flatMap Ent.pd),.lst x.sp.length (x.sp.flatMap Spn.pd),.lst x.ps.length (x.ps.flatMap Prf.pd),.lst x.xs.length (x.xs.flatMap Exm.pd)]
theorem rpG {A:Type}{f:A→List Pd}{k:Nat}(hk:∀ a,(f a).length=k){l:List A}{i:Nat}{c:A}(h:l[i]? = some c)(s:St):cellsAt s (.v (.c (.rp (l.flatMap f) (i*k))))=some ((f c++(l.drop (i+1)).flatMap f).map .p):=by
 have hf:(l.flatMap f).length=l.length*k:=flat_len (k:=k) hk _
 have hi:=(List.getElem?_eq_some_iff.1 h).1
 exact rpA (off:=i*k) (drop_flat (f:=f) (k:=k) hk h) (by rw[hf];exact Nat.mul_le_mul_right _ kO) s
theorem rpGo {A:Type}{f:A→List Pd}{k o:Nat}(hk:∀ a,(f a).length=k){l:List A}{i:Nat}{c:A}(h:l[i]? = some c)(ho:o≤k)(s:St):cellsAt s (.v (.c (.rp (l.flatMap f) (i*k+o))))=some (((f c).drop o++(l.drop (i+1)).flatMap f).map .p):=by
 have hf:(l.flatMap f).length=l.length*k:=flat_len (k:=k) hk _
 have hi:=(List.getElem?_eq_some_iff.1 h).1
 have hd:(l.flatMap f).drop (i*k)=f c++(l.drop (i+1)).flatMap f:=drop_flat (f:=f) (k:=k) hk h
 have hm:(i+1)*k≤l.length*k:=Nat.mul_le_mul_right _ kO
 rw[Nat.add_mul] at hm
 refine rpA (off:=i*k+o) ?_ (by rw[hf];omega) s
 rw[← List.drop_drop,hd,List.drop_append_of_le_length (by rw[hk];exact ho)]
def grE (x:Ent):Bool:=decide ((1100:Int)<x.ln.length) || (lbsG x.lb || lbsG x.fs)
theorem pf108 (x:Ent)(h1:x.lb.length<2^60)(h2:x.fs.length<2^60):Pf E0 108 [.agg (x.pd.map .p)] (P' (.bool (grE x))):=by
 have p1:=pf39 x.lb h1
 have p2:=pf39 x.fs h2
 generalize hR:grE x=R;unfold grE at hR;generalize lbsG x.lb=b1 at *;generalize lbsG x.fs=b2 at *;refine gQ (fn:=Tryz.f108) ?_;simp only[gL,Tryz.ntmps108,Nat.reduceSub,Nat.reduceAdd];refine gY ?_;refine Wc.seq ?_;cases k1:decide ((1100:Int)<x.ln.length) with
 |true =>
  rw[k1,Bool.true_or] at hR
  subst hR;apply gR (by simp only[go_sem,k1];rfl);exact wr (gU [.tmp 2] [.c (.p (.bool true))])
 |false =>
 rw[k1,Bool.false_or] at hR
 refine gM fun K F=>?_;simp only[go_sem,k1];refine gP p1 ?_;cases b1 with
 |true =>
  rw[Bool.true_or] at hR
  subst hR;simp only[go_sem,k1];apply F;clear F K;exact wr (gU [.tmp 2] [.c (.p (.bool true))])
 |false =>
 rw[Bool.false_or] at hR
 subst hR;simp only[go_sem,k1];refine gP p2 ?_;simp only[go_sem,k1];apply F;clear F K;exact wr (gU [.tmp 2] [.c (.p (.bool b2))])
def grP (x:Spn):Bool:=decide ((61:Int)<x.sv.length) || (decide ((61:Int)<x.nm.length) || (decide ((17:Int)<x.lk.length) || lbsG x.ab))
theorem pf109 (x:Spn)(h1:x.ab.length<2^60):Pf E0 109 [.agg (x.pd.map .p)] (P' (.bool (grP x))):=by
 have p1:=pf39 x.ab h1
 generalize hR:grP x=R;unfold grP at hR;generalize lbsG x.ab=b1 at *;refine gQ (fn:=Tryz.f109) ?_;simp only[gL,Tryz.ntmps109,Nat.reduceSub,Nat.reduceAdd];refine gY ?_;refine Wc.seq ?_;cases k1:decide ((61:Int)<x.sv.length) with
 |true =>
  rw[k1,Bool.true_or] at hR
  subst hR;apply gR (by simp only[go_sem,k1];rfl);exact wr (gU [.tmp 2] [.c (.p (.bool true))])
 |false =>
 rw[k1,Bool.false_or] at hR
 cases k2:decide ((61:Int)<x.nm.length) with
 |true =>
  rw[k2,Bool.true_or] at hR
  subst hR;apply gR (by simp only[go_sem,k1,k2];rfl);exact wr (gU [.tmp 2] [.c (.p (.bool true))])
 |false =>
 rw[k2,Bool.false_or] at hR
 cases k3:decide ((17:Int)<x.lk.length) with
 |true =>
  rw[k3,Bool.true_or] at hR
  subst hR;apply gR (by simp only[go_sem,k1,k2,k3];rfl);exact wr (gU [.tmp 2] [.c (.p (.bool true))])
 |false =>
 rw[k3,Bool.false_or] at hR
 subst hR;refine gM fun K F=>?_;simp only[go_sem,k1,k2,k3];refine gP p1 ?_;simp only[go_sem,k1,k2,k3];apply F;clear F K;exact wr (gU [.tmp 2] [.c (.p (.bool b1))])
theorem any_step {A:Type}{f:A→Bool}{l:List A}{i:Nat}{c:A}(h:l[i]? = some c):(l.drop i).any f=(f c || (l.drop (i+1)).any f):=by
 obtain⟨h1,h2⟩:=List.getElem?_eq_some_iff.1 h
 rw[List.drop_eq_getElem_cons h1,h2,List.any_cons]
def grF (x:Frm):Bool:=decide ((61:Int)<x.nm.length)
def grFl (l:List Frm):Bool:=l.any grF || decide ((70:Int)<l.length)
theorem pf57 (l:List Frm)(hl:l.length<2^60):Pf E0 57 [.c (.p (.lst l.length (l.flatMap Frm.pd)))] (P' (.bool (grFl l))):=by
 have hfl:(l.flatMap Frm.pd).length=l.length*3:=flat_len (k:=3) (fun _=>rfl) l
 have hR0:((l.drop 0).any grF || decide ((70:Int)<l.length))=grFl l:=rfl
 generalize grFl l=R at hR0 ⊢;refine gQ (fn:=Tryz.f57) ?_;simp only[gL,Tryz.ntmps57,Nat.reduceSub,Nat.reduceAdd];refine gY ?_;refine Wc.seqR (fun y=>decide ((70:Int)<l.length)=R∧y.ds=[]∧Fs y.e 20 [(0,P' (.lst l.length (l.flatMap Frm.pd)))]) ?_ ?_
 ·refine gY ?_;refine Wc.block (Wc.loop (fun k y=>∃ i:Nat,k=l.length-i∧(i≤l.length∧((l.drop i).any grF || decide ((70:Int)<l.length))=R)∧y.ds=[]∧Fs y.e 20 [(0,P' (.lst l.length (l.flatMap Frm.pd))),(3,P' (pI i))]) ?_ (k:=l.length) ⟨0,rfl,⟨kO,hR0⟩,rfl,by simp only[go_sem]⟩);rintro k ⟨e,ds,s1⟩ ⟨i,rfl,⟨hi,hR⟩,rfl,hF⟩;simp only[Fs] at hF;refine gO ?_;apply gR kG;refine Wc.cond (t:=decide ((i:Int)<l.length)) kF (fun hc=>?_) (fun hc=>?_)
  ·have hil:i<l.length:=gi hc
   obtain⟨c,hcc⟩:=gE hil
   rw[any_step hcc] at hR
   have hix:=ixA ti104 rfl ti170 (j:=i) (m:=l.length) (cs:=l.flatMap Frm.pd) hil hfl kD
   have hca:=rpGo (f:=Frm.pd) (k:=3) (o:=1) (fun _=>rfl) hcc kD
   simp only[Frm.pd,List.drop_succ_cons,List.drop_zero] at hca;refine Wc.skip (Wc.seq (Wc.block (Wc.seq ?_)));apply gR (by simp only[go_sem,hF,hix,hca];rfl);refine Wc.cond (t:=decide ((61:Int)<c.nm.length)) kF (fun hc=>?_) (fun hc=>?_)
   ·rw[show grF c=true from hc,Bool.true_or,Bool.true_or] at hR
    subst hR;apply gS kG;exact wr (gV [.tmp 2] [.c (.p (.bool true))] kF)
   rw[show grF c=false from hc,Bool.false_or] at hR
   refine Wc.skip ?_;apply gR kX
   exact⟨l.length-(i+1),kO,i+1,rfl,⟨kO,hR⟩,rfl,by simp only[go_sem,hF]⟩
  ·have hil:i=l.length:=by have:=of_decide_eq_false hc;omega
   rw[hil,List.drop_length,List.any_nil,Bool.false_or] at hR
   exact Wc.exit ⟨hR,rfl,by simp only[go_sem,hF]⟩
 rintro⟨e,ds,s1⟩ ⟨rfl,rfl,hF⟩
 simp only[Fs] at hF;apply gS kG;exact wr (gV [.tmp 2] [.c (.p (.bool (decide ((70:Int)<l.length))))] kF)
def grPs (l:List Spn):Bool:=l.any grP || decide ((12:Int)<l.length)
theorem pf59 (l:List Spn)(hl:l.length<2^60)(hb:∀ c∈l,c.ab.length<2^60):Pf E0 59 [.c (.p (.lst l.length (l.flatMap Spn.pd)))] (P' (.bool (grPs l))):=by
 have hfl:(l.flatMap Spn.pd).length=l.length*10:=flat_len (k:=10) (fun _=>rfl) l
 have hR0:((l.drop 0).any grP || decide ((12:Int)<l.length))=grPs l:=rfl
 generalize grPs l=R at hR0 ⊢;refine gQ (fn:=Tryz.f59) ?_;simp only[gL,Tryz.ntmps59,Nat.reduceSub,Nat.reduceAdd];refine gY ?_;refine Wc.seqR (fun y=>decide ((12:Int)<l.length)=R∧y.ds=[]∧Fs y.e 18 [(0,P' (.lst l.length (l.flatMap Spn.pd)))]) ?_ ?_
 ·refine gY ?_;refine Wc.block (Wc.loop (fun k y=>∃ i:Nat,k=l.length-i∧(i≤l.length∧((l.drop i).any grP || decide ((12:Int)<l.length))=R)∧y.ds=[]∧Fs y.e 18 [(0,P' (.lst l.length (l.flatMap Spn.pd))),(3,P' (pI i))]) ?_ (k:=l.length) ⟨0,rfl,⟨kO,hR0⟩,rfl,by simp only[go_sem]⟩);rintro k ⟨e,ds,s1⟩ ⟨i,rfl,⟨hi,hR⟩,rfl,hF⟩;simp only[Fs] at hF;refine gO ?_;apply gR kG;refine Wc.cond (t:=decide ((i:Int)<l.length)) kF (fun hc=>?_) (fun hc=>?_)
  ·have hil:i<l.length:=gi hc
   obtain⟨c,hcc⟩:=gE hil
   rw[any_step hcc] at hR
   have hix:=ixA ti54 rfl ti128 (j:=i) (m:=l.length) (cs:=l.flatMap Spn.pd) hil hfl kD
   have hca:=rpG (f:=Spn.pd) (k:=10) (fun _=>rfl) hcc
   have p:=pf109 c (hb c (gw hcc))
   refine Wc.skip (Wc.seq (Wc.block (Wc.seq ?_)));refine gM fun K F=>?_;simp only[go_sem,hF,hix,hca];refine gP p ?_;simp only[go_sem,hF];apply F;clear F K;refine Wc.cond (t:=grP c) kF (fun hc=>?_) (fun hc=>?_)
   ·rw[hc,Bool.true_or,Bool.true_or] at hR
    subst hR;apply gS kG;exact wr (gV [.tmp 2] [.c (.p (.bool true))] kF)
   rw[hc,Bool.false_or] at hR
   refine Wc.skip ?_;apply gR kX
   exact⟨l.length-(i+1),kO,i+1,rfl,⟨kO,hR⟩,rfl,by simp only[go_sem,hF]⟩
  ·have hil:i=l.length:=by have:=of_decide_eq_false hc;omega
   rw[hil,List.drop_length,List.any_nil,Bool.false_or] at hR
   exact Wc.exit ⟨hR,rfl,by simp only[go_sem,hF]⟩
 rintro⟨e,ds,s1⟩ ⟨rfl,rfl,hF⟩
 simp only[Fs] at hF;apply gS kG;exact wr (gV [.tmp 2] [.c (.p (.bool (decide ((12:Int)<l.length))))] kF)
def grX (x:Exm):Bool:=lbsG x.lb
def grXs (l:List Exm):Bool:=l.any grX || decide ((12:Int)<l.length)
theorem pf60 (l:List Exm)(hl:l.length<2^60)(hb:∀ c∈l,c.lb.length<2^60):Pf E0 60 [.c (.p (.lst l.length (l.flatMap Exm.pd)))] (P' (.bool (grXs l))):=by
 have hfl:(l.flatMap Exm.pd).length=l.length*5:=flat_len (k:=5) (fun _=>rfl) l
 have hR0:((l.drop 0).any grX || decide ((12:Int)<l.length))=grXs l:=rfl
 generalize grXs l=R at hR0 ⊢;refine gQ (fn:=Tryz.f60) ?_;simp only[gL,Tryz.ntmps60,Nat.reduceSub,Nat.reduceAdd];refine gY ?_;refine Wc.seqR (fun y=>decide ((12:Int)<l.length)=R∧y.ds=[]∧Fs y.e 19 [(0,P' (.lst l.length (l.flatMap Exm.pd)))]) ?_ ?_
 ·refine gY ?_;refine Wc.block (Wc.loop (fun k y=>∃ i:Nat,k=l.length-i∧(i≤l.length∧((l.drop i).any grX || decide ((12:Int)<l.length))=R)∧y.ds=[]∧Fs y.e 19 [(0,P' (.lst l.length (l.flatMap Exm.pd))),(3,P' (pI i))]) ?_ (k:=l.length) ⟨0,rfl,⟨kO,hR0⟩,rfl,by simp only[go_sem]⟩);rintro k ⟨e,ds,s1⟩ ⟨i,rfl,⟨hi,hR⟩,rfl,hF⟩;simp only[Fs] at hF;refine gO ?_;apply gR kG;refine Wc.cond (t:=decide ((i:Int)<l.length)) kF (fun hc=>?_) (fun hc=>?_)
  ·have hil:i<l.length:=gi hc
   obtain⟨c,hcc⟩:=gE hil
   rw[any_step hcc] at hR
   have hix:=ixA ti56 rfl ti139 (j:=i) (m:=l.length) (cs:=l.flatMap Exm.pd) hil hfl kD
   have hca:=rpG (f:=Exm.pd) (k:=5) (fun _=>rfl) hcc
   have p:Pf E0 39 _ (P' (.bool (grX c))):=pf39 c.lb (hb c (gw hcc))
   refine Wc.skip (Wc.seq (Wc.block (Wc.seq ?_)));refine gM fun K F=>?_;simp only[go_sem,hF,hix,hca];refine gP p ?_;simp only[go_sem,hF];apply F;clear F K;refine Wc.cond (t:=grX c) kF (fun hc=>?_) (fun hc=>?_)
   ·rw[hc,Bool.true_or,Bool.true_or] at hR
    subst hR;apply gS kG;exact wr (gV [.tmp 2] [.c (.p (.bool true))] kF)
   rw[hc,Bool.false_or] at hR
   refine Wc.skip ?_;apply gR kX
   exact⟨l.length-(i+1),kO,i+1,rfl,⟨kO,hR⟩,rfl,by simp only[go_sem,hF]⟩
  ·have hil:i=l.length:=by have:=of_decide_eq_false hc;omega
   rw[hil,List.drop_length,List.any_nil,Bool.false_or] at hR
   exact Wc.exit ⟨hR,rfl,by simp only[go_sem,hF]⟩
 rintro⟨e,ds,s1⟩ ⟨rfl,rfl,hF⟩
 simp only[Fs] at hF;apply gS kG;exact wr (gV [.tmp 2] [.c (.p (.bool (decide ((12:Int)<l.length))))] kF)
def sumLn (l:List Ent):Nat:=(l.map (·.ln.length)).sum
def grEs (l:List Ent):Bool:=decide ((12:Int)<l.length) || (l.any grE || decide ((3000:Int)<sumLn l))
theorem sumLn_snoc {l:List Ent}{i:Nat}{c:Ent}(h:l[i]? = some c):sumLn (l.take (i+1))=sumLn (l.take i)+c.ln.length:=by
 rw[take_snoc h];simp[sumLn]
theorem pf58 (l:List Ent)(hb:∀ c∈l,c.lb.length<2^60∧c.fs.length<2^60):Pf E0 58 [.c (.p (.lst l.length (l.flatMap Ent.pd)))] (P' (.bool (grEs l))):=by
 have hfl:(l.flatMap Ent.pd).length=l.length*5:=flat_len (k:=5) (fun _=>rfl) l
 generalize hR:grEs l=R;unfold grEs at hR;refine gQ (fn:=Tryz.f58) ?_;simp only[gL,Tryz.ntmps58,Nat.reduceSub,Nat.reduceAdd];refine gY ?_;refine gO ?_;cases k1:decide ((12:Int)<l.length) with
 |true =>
  rw[k1,Bool.true_or] at hR
  subst hR;apply gR (by simp only[go_sem,k1];rfl);apply gT (by simp only[go_sem,k1]);refine gY ?_;exact wr (gU [.tmp 2] [.c (.p (.bool true))])
 |false =>
 rw[k1,Bool.false_or] at hR
 apply gR (by simp only[go_sem,k1];rfl);apply gF (by simp only[go_sem,k1])
 have hl:l.length≤12:=by have:=of_decide_eq_false k1;omega
 have hR0:((l.drop 0).any grE || decide ((3000:Int)<sumLn l))=R:=hR
 clear hR k1;refine gY ?_;refine Wc.seqR (fun y=>decide ((3000:Int)<sumLn l)=R∧y.ds=[]∧Fs y.e 29 [(3,P' (pI (sumLn l)))]) ?_ ?_
 ·refine gY ?_;refine Wc.block (Wc.loop (fun k y=>∃ i:Nat,k=l.length-i∧(i≤l.length∧sumLn (l.take i)≤1100*i∧((l.drop i).any grE || decide ((3000:Int)<sumLn l))=R)∧y.ds=[]∧Fs y.e 29 [(0,P' (.lst l.length (l.flatMap Ent.pd))),(3,P' (pI (sumLn (l.take i)))),(4,P' (pI i))]) ?_ (k:=l.length) ⟨0,rfl,⟨kO,by simp[sumLn],hR0⟩,rfl,by simp only[go_sem,List.take_zero,sumLn,List.map_nil,List.sum_nil]⟩);rintro k ⟨e,ds,s1⟩ ⟨i,rfl,⟨hi,hs,hR⟩,rfl,hF⟩;simp only[Fs] at hF;refine gO ?_;apply gR kG;refine Wc.cond (t:=decide ((i:Int)<l.length)) kF (fun hc=>?_) (fun hc=>?_)
  ·have hil:i<l.length:=gi hc
   obtain⟨c,hcc⟩:=gE hil
   rw[any_step hcc] at hR
   have hix:=ixA ti53 rfl ti121 (j:=i) (m:=l.length) (cs:=l.flatMap Ent.pd) hil hfl kD
   have hca:=rpG (f:=Ent.pd) (k:=5) (fun _=>rfl) hcc
   have hc2:=rpGo (f:=Ent.pd) (k:=5) (o:=2) (fun _=>rfl) hcc kD
   simp only[Ent.pd,List.drop_succ_cons,List.drop_zero] at hc2
   have p:=pf108 c (hb c (gw hcc)).1 (hb c (gw hcc)).2
   have hsn:=sumLn_snoc hcc
   refine Wc.skip (Wc.seq (Wc.block (Wc.seq (Wc.seq ?_))));refine gM fun K F=>?_;simp only[go_sem,hF,hix,hca];refine gP p ?_;simp only[go_sem,hF];apply F;clear F K;refine Wc.cond (t:=grE c) kF (fun hc=>?_) (fun hc=>?_)
   ·rw[hc,Bool.true_or,Bool.true_or] at hR
    subst hR;apply gS kG;exact wr (gV [.tmp 2] [.c (.p (.bool true))] kF)
   rw[hc,Bool.false_or] at hR
   have hcl:c.ln.length≤1100:=by
    unfold grE at hc
    rw[Bool.or_eq_false_iff,decide_eq_false_iff_not] at hc
    omega
   have hw:IntKind.i64.wrap ((sumLn (l.take i):Int)+(c.ln.length:Int))=(sumLn (l.take (i+1)):Int):=by
    rw[hsn];unfold IntKind.wrap;simp[IntKind.signed,IntKind.bits];omega
   refine Wc.skip ?_;apply gR (by simp only[go_sem,hF,hix,hc2,hw];rfl);apply gR kX
   exact⟨l.length-(i+1),kO,i+1,rfl,⟨kO,kO,hR⟩,rfl,by simp only[go_sem,hF]⟩
  ·have hil:i=l.length:=by have:=of_decide_eq_false hc;omega
   rw[hil,List.drop_length,List.any_nil,Bool.false_or] at hR
   exact Wc.exit ⟨hR,rfl,by rw[hil,List.take_length] at hF;simp only[go_sem,hF]⟩
 rintro⟨e,ds,s1⟩ ⟨rfl,rfl,hF⟩
 simp only[Fs] at hF;apply gS kG;exact wr (gV [.tmp 2] [.c (.p (.bool (decide ((3000:Int)<sumLn l))))] kF)
end Go.Proofs.YtedcnhbblgmdnaaGreat.Ab
