/- A part of the proof. -/
import Derived.Test.YtedcnhbblgmdnaaGreatT28
set_option maxHeartbeats 8000000
set_option maxRecDepth 10000
set_option linter.unusedSimpArgs false
set_option linter.unusedVariables false
namespace Go.Proofs.YtedcnhbblgmdnaaGreat.Ab
theorem OA.app1 {b key:Nat}{s:St}{L1 L2:List (Nat×D×Nat×List Pd)}{M:List (Nat×Ob)}{c:C}{W:List Int}{v:Int}{y:D}{K:D→St→Prop}(h:OA b s (L1++(1,.v (.c c),W.length,W.map pI)::L2) M)(hkey:b≤key)(hW:W.length<2^40)(hy:srcD E0 175 s y=some (1,[pI v]))
  (hk:∀ c' s',OA (key+1) s' (L1++(1,.v (.c c'),(W++[v]).length,(W++[v]).map pI)::L2) M→s'.nx=s.nx→K (.v (.c c')) s'):stepK (appendD E0 key [175,175] (.v (.c c)) y s) K:=by
 refine OA.app (by_:=8) (n:=W.length) (m:=1) (ys:=[pI v]) (cs:=W.map pI) h hkey ⟨_,ti175,rfl⟩ ti3 rfl rfl rfl kD kD hy rfl kO fun x' s' hs hnx=>?_
 obtain⟨c',rfl⟩:=(hs.own (1,x',W.length+1,W.map pI++[pI v]) kS).v
 refine hk c' s' ?_ hnx
 have e1:(W++[v]).length=W.length+1:=by simp
 have e2:(W++[v]).map pI=W.map pI++[pI v]:=by simp
 rw[e1,e2]
 exact hs
end Go.Proofs.YtedcnhbblgmdnaaGreat.Ab
namespace Go.Proofs.YtedcnhbblgmdnaaGreat.Ab
theorem b12:((12:Int)≠0):=by decide
end Go.Proofs.YtedcnhbblgmdnaaGreat.Ab
namespace Go.Proofs.YtedcnhbblgmdnaaGreat.Ab
theorem pf198 (a:Int):Pf E0 198 [.c (.p (pI a))] (P' (.bool ((a==3) || (a==5)))):=by
 refine gQ (fn:=Tryz.f198) ?_;simp only[gL,Tryz.ntmps198,Nat.reduceSub,Nat.reduceAdd];refine gY ?_;refine Wc.seq ?_;cases h:(a==3) with
 |true =>
  apply gR kB;exact wr (gU [.tmp 2] [.c (.p (.bool true))])
 |false =>
  apply gR kB;exact wr (gU [.tmp 2] [.c (.p (.bool (a==5)))])
theorem wthn_or (n a b:Int):(decide (n<a) || decide (b<n)) = !wthn n a b:=by
 unfold wthn
 by_cases h1:a≤n
 ·by_cases h2:n≤b
  ·have e1:¬ n<a:=kO
   have e2:¬ b<n:=kO
   simp[h1,h2,e1,e2]
  ·have e2:b<n:=kO
   simp[h2,e2]
 ·have e1:n<a:=kO
  simp[h1,e1]
theorem pf199 (z:ZG):Pf E0 199 [.agg (z.pd.map .p)] (P' (pI (zkG z))):=by
 generalize hR:zkG z=R;unfold zkG at hR
 rw[wthn_or,show isT z.t1=wthn z.t1 1 1099511627776 from rfl,show isT z.t2=wthn z.t2 1 1099511627776 from rfl,show isVl z.v1=wthn z.v1 (-1099511627776) 1099511627776 from rfl,show isVl z.v2=wthn z.v2 (-1099511627776) 1099511627776 from rfl] at hR
 have q0:=pf238 z.c 0 1152921504606846976
 have q1:=pf238 z.t1 1 1099511627776
 have q2:=pf238 z.t2 1 1099511627776
 have q3:=pf238 z.v1 (-1099511627776) 1099511627776
 have q4:=pf238 z.v2 (-1099511627776) 1099511627776
 generalize wthn z.c 0 1152921504606846976=w0 at *;generalize wthn z.t1 1 1099511627776=w1 at *;generalize wthn z.t2 1 1099511627776=w2 at *;generalize wthn z.v1 (-1099511627776) 1099511627776=w3 at *;generalize wthn z.v2 (-1099511627776) 1099511627776=w4 at *;refine gQ (fn:=Tryz.f199) ?_;simp only[gL,Tryz.ntmps199,Nat.reduceSub,Nat.reduceAdd];refine gY ?_;refine gO ?_;refine gM fun K F=>?_;simp only[go_sem];refine gP q0 ?_;simp only[go_sem];apply F;clear F K;cases w0 with
 |false =>
  simp only[gC] at hR;subst hR;refine gG ?_;refine gY ?_;exact wr (gU [.tmp 2] [.c (.p (pI 2))])
 |true =>
 simp only[gC] at hR;refine gH ?_;refine gO ?_;rcases gK (z.c==0) with k0|k0
 ·simp only[k0,gC] at hR;apply gR (by simp only[go_sem,k0];rfl);apply gT (by simp only[go_sem,k0]);refine gO ?_;unfold zG1 at hR
  have kz:=eq_of_beq k0
  rcases gK ((z.t1==0)&&((z.t2==0)&&((z.v1==0)&&((z.v2==0)&&((z.b0==0)&&((z.b1==0)&&((z.b2==0)&&((z.b3==0)&&((z.b4==0)&&((z.b5==0)&&((z.b6==0)&&(z.b7==0)))))))))))) with k1|k1
  ·simp only[k1,cond_true] at hR;subst hR;apply gR (by simp only[go_sem,k0,k1,eqL,eqS];rfl);apply gF (by simp only[go_sem,k1]);refine gY ?_;exact wr (gU [.tmp 2] [.c (.p (pI 0))])
  ·simp only[k1,cond_false] at hR;subst hR;apply gR (by simp only[go_sem,k0,k1,eqL,eqS];rfl);apply gT (by simp only[go_sem,k1]);refine gY ?_;exact wr (gU [.tmp 2] [.c (.p (pI 10))])
 simp only[k0,gC] at hR;apply gR (by simp only[go_sem,k0];rfl);apply gF (by simp only[go_sem,k0]);refine gO ?_;cases w1 with
 |false =>
  simp only[gC] at hR;subst hR;refine gM fun K F=>?_;simp only[go_sem];refine gP q1 ?_;simp only[go_sem];apply F;clear F K;refine gG ?_;refine gY ?_;exact wr (gU [.tmp 2] [.c (.p (pI 2))])
 |true =>
 cases w2 with
 |false =>
  simp only[gC] at hR;subst hR;refine gM fun K F=>?_;simp only[go_sem];refine gP q1 ?_;simp only[go_sem];refine gP q2 ?_;simp only[go_sem];apply F;clear F K;refine gG ?_;refine gY ?_;exact wr (gU [.tmp 2] [.c (.p (pI 2))])
 |true =>
 simp only[gC] at hR;refine gM fun K F=>?_;simp only[go_sem];refine gP q1 ?_;simp only[go_sem];refine gP q2 ?_;simp only[go_sem];apply F;clear F K;refine gH ?_;refine gO ?_;refine gZ ?_;refine Wc.cond (t:=decide (z.t2<z.t1)) kA (fun hc=>?_) (fun hc=>?_)
 ·simp only[hc,gC] at hR;subst hR;refine gY ?_;exact wr (gU [.tmp 2] [.c (.p (pI 9))])
 simp only[hc,gC] at hR;refine Wc.skip (Wc.seq (Wc.seq ?_));cases w3 with
 |false =>
  simp only[gC] at hR;subst hR;refine gM fun K F=>?_;simp only[go_sem];refine gP q3 ?_;simp only[go_sem];apply F;clear F K;refine gG ?_;refine gY ?_;exact wr (gU [.tmp 2] [.c (.p (pI 2))])
 |true =>
 cases w4 with
 |false =>
  simp only[gC] at hR;subst hR;refine gM fun K F=>?_;simp only[go_sem];refine gP q3 ?_;simp only[go_sem];refine gP q4 ?_;simp only[go_sem];apply F;clear F K;refine gG ?_;refine gY ?_;exact wr (gU [.tmp 2] [.c (.p (pI 2))])
 |true =>
 simp only[gC] at hR;refine gM fun K F=>?_;simp only[go_sem];refine gP q3 ?_;simp only[go_sem];refine gP q4 ?_;simp only[go_sem];apply F;clear F K;refine gH ?_;refine gO ?_;refine gZ ?_;refine Wc.cond (t:=decide (z.v2<z.v1)) kA (fun hc=>?_) (fun hc=>?_)
 ·simp only[hc,gC] at hR;subst hR;refine gY ?_;exact wr (gU [.tmp 2] [.c (.p (pI 9))])
 simp only[hc,gC] at hR;subst hR;refine Wc.skip (Wc.seq ?_);refine gZ ?_;exact wr (gU [.tmp 2] [.c (.p (pI 0))])
theorem pf125 (c:Chk)(w:Int)(z:Cz c)(hw:0≤w):Pf E0 125 [.c (.p (pI w)),.agg (c.pd.map .p)] (P' (pI (ckC c w))):=by
 generalize hR:ckC c w=R;unfold ckC at hR
 have hww:(w != 0)=decide (0<w):=by
  by_cases h:w=0
  ·subst h;rfl
  ·have:0<w:=kO
   simp[h,this]
 rw[hww] at hR
 have p92:=pf92 c.lb z.lb z.ls
 have p199:=pf199 c.z
 refine gQ (fn:=Tryz.f125) ?_;simp only[gL,Tryz.ntmps125,Nat.reduceSub,Nat.reduceAdd];refine gY ?_;refine gO ?_;rcases gK (decide (c.sig<1)) with a1|a1
 ·apply gR (by simp only[go_sem,a1];rfl);apply gT (by simp only[go_sem,a1]);refine gY ?_;obtain rfl:R=8:=by rw[← hR];simp only[a1,gC]
  exact wr (gU [.tmp 4] [.c (.p (pI 8))])
 rcases gK (decide (6<c.sig)) with a2|a2
 ·apply gR (by simp only[go_sem,a1,a2];rfl);apply gT (by simp only[go_sem,a1,a2]);refine gY ?_;obtain rfl:R=8:=by rw[← hR];simp only[a1,a2,gC]
  exact wr (gU [.tmp 4] [.c (.p (pI 8))])
 rcases gK (!((c.sig==6)==decide (0<w))) with a3|a3
 ·apply gR (by simp only[go_sem,a1,a2,a3];rfl);apply gT (by simp only[go_sem,a1,a2,a3]);refine gY ?_;obtain rfl:R=8:=by rw[← hR];simp only[a1,a2,a3,gC]
  exact wr (gU [.tmp 4] [.c (.p (pI 8))])
 apply gR (by simp only[go_sem,a1,a2,a3];rfl);apply gF (by simp only[go_sem,a1,a2,a3]);simp only[a1,a2,a3,gC] at hR;refine gO ?_;refine gM fun K F=>?_;simp only[go_sem];refine gP p92 ?_;simp only[go_sem];apply F;clear F K;refine gY ?_;generalize lckA c.lb=L at *;refine Wc.cond (t:=L != 0) kA (fun hc=>?_) (fun hc=>?_)
 ·simp only[hc,gC] at hR;subst hR;refine gY ?_;exact wr (gU [.tmp 4] [.c (.p (pI L))])
 simp only[hc,gC] at hR;refine Wc.skip ?_;rcases gK (((c.sig==3) || (c.sig==5))&&decide (0<(c.lb.length:Int))) with k1 | k1
 ·simp only[k1,gC] at hR;subst hR
  have k2:=k1
  rw[Bool.and_eq_true] at k2
  refine gO ?_;refine gM fun K F=>?_;simp only[go_sem];refine gP (pf198 c.sig) ?_;simp only[go_sem,k2.1,k2.2];apply F;clear F K;apply gT (by simp only[go_sem,k2.2]);refine gY ?_;exact wr (gU [.tmp 4] [.c (.p (pI 1))])
 simp only[k1,gC] at hR
 have p198:=pf198 c.sig
 refine Wc.seqR (fun y=>y.ds=[]∧Fs y.e 48 [(3,.v (.c (.ref 0 0)))]∧OA y.s.nx y.s [] [(0,.cells (c.pd.map .p) false)]) ?_ ?_
 ·refine Wc.seq ?_;cases hu:((c.sig==3) || (c.sig==5)) with
  |false =>
   rw[hu] at p198
   refine gM fun K F=>?_;simp only[go_sem];refine gP p198 ?_;simp only[go_sem];apply F;clear F K;refine gH ?_
   exact⟨rfl,by simp only[go_sem],oW⟩
  |true =>
   rw[hu,Bool.true_and] at k1
   rw[hu] at p198
   refine gM fun K F=>?_;simp only[go_sem];refine gP p198 ?_;simp only[go_sem,k1];apply F;clear F K;apply gF (by simp only[go_sem,k1])
   exact⟨rfl,by simp only[go_sem],oW⟩
 rintro⟨e,ds,s1⟩ ⟨rfl,hF,ho⟩
 simp only[Fs] at hF ho
 have g0:=ho.at_ (0,.cells (c.pd.map .p) false) kS
 simp only[gm] at g0;refine gO ?_;refine gM fun K F=>?_;simp only[go_sem,hF,g0];refine gP p199 ?_;simp only[go_sem,hF];apply F;clear F K;apply gS kG;generalize zkG c.z=Z at *;refine Wc.cond (t:=Z != 0) kF (fun hc=>?_) (fun hc=>?_)
 ·simp only[hc,gC] at hR;subst hR;apply gS kG;exact wr (gV [.tmp 4] [.c (.p (pI Z))] kF)
 simp only[hc,gC] at hR;refine Wc.skip (Wc.seq (Wc.seq ?_));apply gR kC;refine Wc.cond (t:=decide (262144<(c.d.length:Int))) kF (fun hc=>?_) (fun hc=>?_)
 ·simp only[hc,gC] at hR;subst hR;apply gS kG;exact wr (gV [.tmp 4] [.c (.p (pI 4))] kF)
 simp only[hc,gC] at hR;subst hR;refine Wc.skip (Wc.seq ?_);apply gR kG;exact wr (gV [.tmp 4] [.c (.p (pI 0))] kF)
theorem pf126g (a b:Chk)(ha:Cz a)(hb:Cz b):Pf E0 126 [.agg (a.pd.map .p),.agg (b.pd.map .p)] (P' (pI (cmpC a b))):=by
 have p96:=pf96g a.lb b.lb (by have:=ha.lb;omega) (by have:=hb.lb;omega)
 refine gQ (fn:=Tryz.f126) ?_;simp only[gL,Tryz.ntmps126,Nat.reduceSub,Nat.reduceAdd];refine gY ?_;refine gO ?_
 by_cases h1:a.sig<b.sig
 ·have e:cmpC a b = -1:=by unfold cmpC cmpI;rw[if_pos h1,if_pos kD]
  rw[e]
  apply gR (by simp only[go_sem,h1];rfl);apply gT (by simp only[go_sem,h1]);refine gY ?_;exact wr (gU [.tmp 4] [.c (.p (pI (-1)))])
 apply gR (by simp only[go_sem,h1];rfl);apply gF (by simp only[go_sem,h1]);refine gO ?_
 by_cases h2:b.sig<a.sig
 ·have e:cmpC a b=1:=by unfold cmpC cmpI;rw[if_neg h1,if_pos h2,if_pos kD]
  rw[e]
  apply gR (by simp only[go_sem,h1,h2];rfl);apply gT (by simp only[go_sem,h1,h2]);refine gY ?_;exact wr (gU [.tmp 4] [.c (.p (pI 1))])
 have e:cmpC a b=cmpL a.lb b.lb:=by unfold cmpC cmpI;rw[if_neg h1,if_neg h2,if_neg kD]
 rw[e]
 generalize cmpL a.lb b.lb=D at *;apply gR (by simp only[go_sem,h1,h2];rfl);apply gF (by simp only[go_sem,h1,h2]);refine gN fun K F=>?_;simp only[go_sem];refine gP p96 ?_;simp only[go_sem];apply F;clear F K;exact wr (gU [.tmp 4] [.c (.p (pI D))])
theorem o125:E0.opn 125=false:=by kernel_rfl
theorem x125:E0.xt 125=none:=by kernel_rfl
theorem o126:E0.opn 126=false:=by kernel_rfl
theorem x126:E0.xt 126=none:=by kernel_rfl
theorem fr_eq (w fr:Int):((decide (fr<0) || decide (1099511627776<fr)) || ((w==0)&&(fr != 0)))=((decide (fr<0) || decide (1099511627776<fr)) || ((w==0)&&decide (0<fr))):=by
 by_cases h1:fr<0
 ·simp[h1]
 ·by_cases h2:fr=0
  ·simp[h2]
  ·have h3:0<fr:=kO
   have h4:(fr != 0)=true:=by simpa using h2
   rw[h4,decide_eq_true h3]
theorem pf66 (b:Blk)(hl:b.cs.length<2^40)(hz:∀ c∈b.cs,Cz c):Pf E0 66 [.agg (b.pd.map .p)] (P' (pI (blkC b))):=by
 have hfl:=fK b.cs
 generalize hR:blkC b=R;unfold blkC at hR
 rw[fr_eq] at hR
 refine gQ (fn:=Tryz.f66) ?_;simp only[gL,Tryz.ntmps66,Nat.reduceSub,Nat.reduceAdd];refine gY ?_;refine Wc.seqR (fun y=>((bif decide (4000<(b.cs.length:Int)) then 4 else cksC b.w none b.cs)=R∧0≤b.w)∧y.ds=[]∧Fs y.e 82 [(1,.v (.c (.ref 0 0)))]∧OA y.s.nx y.s [] [(0,.cells (b.pd.map .p) false)]) ?_ ?_
 ·refine Wc.seq ?_;rcases gK (b.w==0) with k0|k0
  ·skip
   rcases gK (decide (b.id<1)) with a1|a1
   ·apply gR (by simp only[go_sem,k0,a1];rfl);apply gT (by simp only[go_sem,k0,a1]);refine gY ?_;obtain rfl:R=2:=by rw[← hR];simp only[a1,k0,gC]
    exact wr (gU [.tmp 2] [.c (.p (pI 2))])
   rcases gK (decide (1152921504606846976<b.id)) with a2|a2
   ·apply gR (by simp only[go_sem,k0,a1,a2];rfl);apply gT (by simp only[go_sem,k0,a1,a2]);refine gY ?_;obtain rfl:R=2:=by rw[← hR];simp only[a1,a2,k0,gC]
    exact wr (gU [.tmp 2] [.c (.p (pI 2))])
   rcases gK (decide (b.w<0)) with a3|a3
   ·apply gR (by simp only[go_sem,k0,a1,a2,a3];rfl);apply gT (by simp only[go_sem,k0,a1,a2,a3]);refine gY ?_;obtain rfl:R=2:=by rw[← hR];simp only[a1,a2,a3,k0,gC]
    exact wr (gU [.tmp 2] [.c (.p (pI 2))])
   rcases gK (decide (1099511627776<b.w)) with a4|a4
   ·apply gR (by simp only[go_sem,k0,a1,a2,a3,a4];rfl);apply gT (by simp only[go_sem,k0,a1,a2,a3,a4]);refine gY ?_;obtain rfl:R=2:=by rw[← hR];simp only[a1,a2,a3,a4,k0,gC]
    exact wr (gU [.tmp 2] [.c (.p (pI 2))])
   rcases gK (decide (b.fr<0)) with a5|a5
   ·apply gR (by simp only[go_sem,k0,a1,a2,a3,a4,a5];rfl);apply gT (by simp only[go_sem,k0,a1,a2,a3,a4,a5]);refine gY ?_;obtain rfl:R=2:=by rw[← hR];simp only[a1,a2,a3,a4,a5,k0,gC]
    exact wr (gU [.tmp 2] [.c (.p (pI 2))])
   rcases gK (decide (1099511627776<b.fr)) with a6|a6
   ·apply gR (by simp only[go_sem,k0,a1,a2,a3,a4,a5,a6];rfl);apply gT (by simp only[go_sem,k0,a1,a2,a3,a4,a5,a6]);refine gY ?_;obtain rfl:R=2:=by rw[← hR];simp only[a1,a2,a3,a4,a5,a6,k0,gC]
    exact wr (gU [.tmp 2] [.c (.p (pI 2))])
   rcases gK (decide (0<b.fr)) with a7|a7
   ·apply gR (by simp only[go_sem,k0,a1,a2,a3,a4,a5,a6,a7];rfl);apply gT (by simp only[go_sem,k0,a1,a2,a3,a4,a5,a6,a7]);refine gY ?_;obtain rfl:R=2:=by rw[← hR];simp only[a1,a2,a3,a4,a5,a6,a7,k0,gC]
    exact wr (gU [.tmp 2] [.c (.p (pI 2))])
   apply gR (by simp only[go_sem,k0,a1,a2,a3,a4,a5,a6,a7];rfl);apply gF (by simp only[go_sem,k0,a1,a2,a3,a4,a5,a6,a7]);simp only[a1,a2,a3,a4,a5,a6,a7,k0,gC] at hR
   exact⟨⟨hR,by have:=of_decide_eq_false a3;omega⟩,rfl,by simp only[go_sem],oW⟩
  ·skip
   rcases gK (decide (b.id<1)) with a1|a1
   ·apply gR (by simp only[go_sem,k0,a1];rfl);apply gT (by simp only[go_sem,k0,a1]);refine gY ?_;obtain rfl:R=2:=by rw[← hR];simp only[a1,k0,gC]
    exact wr (gU [.tmp 2] [.c (.p (pI 2))])
   rcases gK (decide (1152921504606846976<b.id)) with a2|a2
   ·apply gR (by simp only[go_sem,k0,a1,a2];rfl);apply gT (by simp only[go_sem,k0,a1,a2]);refine gY ?_;obtain rfl:R=2:=by rw[← hR];simp only[a1,a2,k0,gC]
    exact wr (gU [.tmp 2] [.c (.p (pI 2))])
   rcases gK (decide (b.w<0)) with a3|a3
   ·apply gR (by simp only[go_sem,k0,a1,a2,a3];rfl);apply gT (by simp only[go_sem,k0,a1,a2,a3]);refine gY ?_;obtain rfl:R=2:=by rw[← hR];simp only[a1,a2,a3,k0,gC]
    exact wr (gU [.tmp 2] [.c (.p (pI 2))])
   rcases gK (decide (1099511627776<b.w)) with a4|a4
   ·apply gR (by simp only[go_sem,k0,a1,a2,a3,a4];rfl);apply gT (by simp only[go_sem,k0,a1,a2,a3,a4]);refine gY ?_;obtain rfl:R=2:=by rw[← hR];simp only[a1,a2,a3,a4,k0,gC]
    exact wr (gU [.tmp 2] [.c (.p (pI 2))])
   rcases gK (decide (b.fr<0)) with a5|a5
   ·apply gR (by simp only[go_sem,k0,a1,a2,a3,a4,a5];rfl);apply gT (by simp only[go_sem,k0,a1,a2,a3,a4,a5]);refine gY ?_;obtain rfl:R=2:=by rw[← hR];simp only[a1,a2,a3,a4,a5,k0,gC]
    exact wr (gU [.tmp 2] [.c (.p (pI 2))])
   rcases gK (decide (1099511627776<b.fr)) with a6|a6
   ·apply gR (by simp only[go_sem,k0,a1,a2,a3,a4,a5,a6];rfl);apply gT (by simp only[go_sem,k0,a1,a2,a3,a4,a5,a6]);refine gY ?_;obtain rfl:R=2:=by rw[← hR];simp only[a1,a2,a3,a4,a5,a6,k0,gC]
    exact wr (gU [.tmp 2] [.c (.p (pI 2))])
   apply gR (by simp only[go_sem,k0,a1,a2,a3,a4,a5,a6];rfl);apply gF (by simp only[go_sem,k0,a1,a2,a3,a4,a5,a6]);simp only[a1,a2,a3,a4,a5,a6,k0,gC] at hR
   exact⟨⟨hR,by have:=of_decide_eq_false a3;omega⟩,rfl,by simp only[go_sem],oW⟩
 clear hR
 rintro⟨e,ds,s1⟩ ⟨⟨hR,hw0⟩,rfl,hF,ho⟩
 simp only[Fs] at hF ho
 have g0:=ho.at_ (0,.cells (b.pd.map .p) false) kS
 simp only[gm] at g0;refine gO ?_;apply gR kC;refine Wc.cond (t:=decide (4000<(b.cs.length:Int))) kF (fun hc=>?_) (fun hc=>?_)
 ·simp only[hc,gC] at hR;subst hR;apply gS kG;exact wr (gV [.tmp 2] [.c (.p (pI 4))] kF)
 simp only[hc,gC] at hR
 have hR0:cksC b.w (prevC b.cs 0) (b.cs.drop 0)=R:=hR
 refine Wc.skip (Wc.seqR (fun y=>R=0∧y.ds=[]∧Fs y.e 82 []) ?_ ?_)
 ·apply gS kG;refine Wc.block (Wc.loop (fun k y=>∃ i:Nat,k=b.cs.length-i∧(i≤b.cs.length∧cksC b.w (prevC b.cs i) (b.cs.drop i)=R)∧y.ds=[]∧Fs y.e 82 [(1,.v (.c (.ref 0 0))),(3,P' (pI i))]∧OA y.s.nx y.s [] [(0,.cells (b.pd.map .p) false)]) ?_ (k:=b.cs.length) ⟨0,rfl,⟨kO,hR0⟩,rfl,by simp only[go_sem,hF],oZ⟩);clear hF ho g0 e s1 hR hR0;rintro k ⟨e,ds,s1⟩ ⟨i,rfl,⟨hi,hR⟩,rfl,hF,ho⟩;simp only[Fs] at hF ho
  have g0:=ho.at_ (0,.cells (b.pd.map .p) false) kS
  simp only[gm] at g0;refine gO ?_;apply gR kC;refine Wc.cond (t:=decide ((i:Int)<b.cs.length)) kF (fun hc=>?_) (fun hc=>?_)
  ·have hil:i<b.cs.length:=gi hc
   obtain⟨c,hcc⟩:=gE hil
   have zc:=hz c (gw hcc)
   rw[cksC_step hcc] at hR
   have hix:=ixA ti65 rfl ti96 (j:=i) (m:=b.cs.length) (cs:=b.cs.flatMap Chk.pd) hil hfl kD
   have hca:=rpK hcc
   have p125:=pf125 c b.w zc hw0
   refine Wc.skip (Wc.seq (Wc.block (Wc.seq (Wc.seq ?_))));refine Wc.regT fun K F=>?_;simp only[go_sem,hF,g0,hix,hca];refine gP p125 ?_;simp only[go_sem,hF,o125,x125];refine⟨by rw[trOK_eq3];rfl,F _ _ ?_⟩;clear F K;apply gS kG;generalize ckC c b.w=V at *;refine Wc.cond (t:=V != 0) kF (fun hc=>?_) (fun hc=>?_)
   ·simp only[hc,gC] at hR;subst hR;apply gS kG;exact wr (gV [.tmp 2] [.c (.p (pI V))] kF)
   simp only[hc,gC] at hR;refine Wc.skip ?_;refine Wc.cutR (fun y=>cksC b.w (prevC b.cs (i+1)) (b.cs.drop (i+1))=R∧y.ds=[]∧Fs y.e 82 [(1,.v (.c (.ref 0 0))),(3,P' (pI i))]∧OA y.s.nx y.s [] [(0,.cells (b.pd.map .p) false)]) ?_ ?_
   ·by_cases h0:i=0
    ·have hh:((0:Int)<(i:Int))=False:=by simp;omega
     have hd:decide (0<i)=false:=by simp;omega
     simp only[hd,gC] at hR;refine Wc.seq ?_;refine Wc.regT fun K F=>?_;simp only[go_sem,hF,hh];refine⟨by rw[trOK_eq3];rfl,F _ _ ?_⟩;clear F K;apply gF kF
     exact⟨hR,rfl,by simp only[go_sem,hF],oZ⟩
    ·have hh:((0:Int)<(i:Int))=True:=by simp;omega
     have hd:decide (0<i)=true:=by simp;omega
     obtain⟨q,hq⟩:∃ q,b.cs[i-1]? = some q:=⟨b.cs[i-1],List.getElem?_eq_getElem kO⟩
     have zq:=hz q (gw hq)
     have w1:IntKind.i64.wrap ((i:Int)-1)=((i-1:Nat):Int):=by rw[wi64];omega
     have hiq:=ixA ti65 rfl ti96 (j:=i-1) (m:=b.cs.length) (cs:=b.cs.flatMap Chk.pd) kO hfl kD
     have hcq:=rpK hq
     have p126:=pf126g q c zq zc
     have hcp:cmpP (b.cs[i-1]?) c=cmpC q c:=by rw[hq];rfl
     rw[hcp] at hR
     generalize cmpC q c=V2 at hR p126;simp only[hd,gC] at hR;refine Wc.seq ?_;refine Wc.regT fun K F=>?_;simp only[go_sem,hF,hh,g0,w1,hiq,hcq,hix,hca];refine gP p126 ?_;simp only[go_sem,hF,o126,x126];refine⟨by rw[trOK_eq3];rfl,F _ _ ?_⟩;clear F K;refine Wc.cond (t:=decide (0≤V2)) kF (fun hc=>?_) (fun hc=>?_)
     ·simp only[hc,gC] at hR;subst hR;apply gS kG;exact wr (gV [.tmp 2] [.c (.p (pI 9))] kF)
     simp only[hc,gC] at hR;exact Wc.skip ⟨hR,rfl,by simp only[go_sem,hF],oZ⟩
   clear hF ho g0 e s1 hR
   rintro⟨e,ds,s1⟩ ⟨hR,rfl,hF,ho⟩
   simp only[Fs] at hF ho;apply gR kX
   exact⟨b.cs.length-(i+1),kO,i+1,rfl,⟨kO,hR⟩,rfl,by simp only[go_sem,hF],oZ⟩
  ·have hil:i=b.cs.length:=by have:=of_decide_eq_false hc;omega
   rw[hil,List.drop_length,cksC] at hR
   exact Wc.exit ⟨hR.symm,rfl,by simp only[go_sem,hF]⟩
 clear hF ho g0 e s1 hR
 rintro⟨e,ds,s1⟩ ⟨rfl,rfl,hF⟩
 simp only[Fs] at hF;apply gS kG;exact wr (gV [.tmp 2] [.c (.p (pI 0))] kF)
def erR (B:Bool)(d:D):Prop:=∃ er:Int,d=P' (pI er)∧(er=0 ↔ B=true)
theorem o96:E0.opn 96=false:=by kernel_rfl
theorem x96:E0.xt 96=none:=by kernel_rfl
theorem pf64 (x:RSet)(hl:x.rs.length<2^40)(hz:∀ r∈x.rs,Rz r):∃ d,Pf E0 64 [.agg (x.pd.map .p)] d∧erR (setOK x) d:=by
 refine Pf.bodyE (fn:=Tryz.f64) kR rfl ?_;simp only[gL,Tryz.ntmps64,Nat.reduceSub,Nat.reduceAdd]
 have hfl:=fRl x.rs
 generalize hR:setOK x=R
 have hS:setOK x=(btw x.w 1 1099511627776&&(btw x.fr 0 1099511627776&&rsOK x.w none x.rs)):=by
  have e1:=wthn_or x.w 1 1099511627776
  have e2:=wthn_or x.fr 0 1099511627776
  unfold setOK
  rw[← Bool.or_assoc,e1,e2,Bool.not_or,Bool.not_not,Bool.not_not,Bool.and_assoc]
  rfl
 rw[hS] at hR
 have q1:=pf45 x.w 1 1099511627776
 have q2:=pf45 x.fr 0 1099511627776
 generalize btw x.w 1 1099511627776=w1 at *;generalize btw x.fr 0 1099511627776=w2 at *;clear hS;refine gY ?_;refine gO ?_;cases w1 with
 |false =>
  rw[Bool.false_and] at hR
  subst hR;refine gM fun K F=>?_;simp only[go_sem];refine gP q1 ?_;simp only[go_sem];apply F;clear F K;refine gG ?_;refine gY ?_;exact wr (Pf.retE [.tmp 2] [.c (.p (pI 2))] rfl rfl kA rfl ⟨2,rfl,by simp⟩)
 |true =>
 cases w2 with
 |false =>
  rw[Bool.true_and,Bool.false_and] at hR
  subst hR;refine gM fun K F=>?_;simp only[go_sem];refine gP q1 ?_;simp only[go_sem];refine gP q2 ?_;simp only[go_sem];apply F;clear F K;refine gG ?_;refine gY ?_;exact wr (Pf.retE [.tmp 2] [.c (.p (pI 2))] rfl rfl kA rfl ⟨2,rfl,by simp⟩)
 |true =>
 rw[Bool.true_and,Bool.true_and] at hR
 refine gM fun K F=>?_;simp only[go_sem];refine gP q1 ?_;simp only[go_sem];refine gP q2 ?_;simp only[go_sem];apply F;clear F K;refine gH ?_
 have hR0:rsOK x.w (prevR x.rs 0) (x.rs.drop 0)=R:=hR
 refine Wc.seqR (fun y=>R=true∧y.ds=[]∧Fs y.e 58 []) ?_ ?_
 ·refine gY ?_;refine Wc.block (Wc.loop (fun k y=>∃ i:Nat,k=x.rs.length-i∧(i≤x.rs.length∧rsOK x.w (prevR x.rs i) (x.rs.drop i)=R)∧y.ds=[]∧Fs y.e 58 [(1,.v (.c (.ref 0 0))),(3,P' (pI i))]∧OA y.s.nx y.s [] [(0,.cells (x.pd.map .p) false)]) ?_ (k:=x.rs.length) ⟨0,rfl,⟨kO,hR0⟩,rfl,by simp only[go_sem],oW⟩);clear hR hR0;rintro k ⟨e,ds,s1⟩ ⟨i,rfl,⟨hi,hR⟩,rfl,hF,ho⟩;simp only[Fs] at hF ho
  have g0:=ho.at_ (0,.cells (x.pd.map .p) false) kS
  simp only[gm] at g0;refine gO ?_;apply gR kC;refine Wc.cond (t:=decide ((i:Int)<x.rs.length)) kF (fun hc=>?_) (fun hc=>?_)
  ·have hil:i<x.rs.length:=gi hc
   obtain⟨c,hcc⟩:=gE hil
   have zc:=hz c (gw hcc)
   rw[rsOK_step hcc] at hR
   have hix:=ixA ti60 rfl ti31 (j:=i) (m:=x.rs.length) (cs:=x.rs.flatMap Rlp.pd) hil hfl kD
   have hca:=rpRl hcc
   have hc2:∀ s,cellsAt s (.v (.c (.rp (x.rs.flatMap Rlp.pd) (i*4+2))))=_:=rpA (off:=i*4+2) (pre:=[pI c.w,.lst c.bs.length (c.bs.flatMap Bkt.pd)]) (rest:=(x.rs.drop (i+1)).flatMap Rlp.pd) (by rw[← List.drop_drop,drop_flat (f:=Rlp.pd) (k:=4) (fun _=>rfl) hcc];rfl) (by rw[hfl];omega)
   have p23:=pf23 c zc.lb zc.ls
   unfold chkR at p23;refine Wc.skip (Wc.seq (Wc.block (Wc.seq (Wc.seq ?_))));cases hok:rlpOK c with
   |false =>
    rw[hok,Bool.and_false,Bool.false_and] at hR
    subst hR
    rw[hok,if_neg kD] at p23
    refine Wc.regT fun K F=>?_;simp only[go_sem,hF,g0,hix,hca];refine gP p23 ?_;simp only[go_sem,hF,o23,x23,b10];refine⟨by rw[trOK_eq3];rfl,F _ _ ?_⟩;clear F K;apply gT (by simp only[go_sem,hF,b10]);apply gS kG;exact wr (Pf.retE [.tmp 2] [.c (.p (pI 1))] rfl rfl kF rfl ⟨1,rfl,by simp⟩)
   |true =>
   rw[hok,Bool.and_true] at hR
   rw[hok,if_pos rfl] at p23
   rcases gK (c.w != x.w) with k1|k1
   ·have k2:(c.w==x.w)=false:=by simpa using k1
    rw[k2,Bool.false_and] at hR
    subst hR;refine Wc.regT fun K F=>?_;simp only[go_sem,hF,g0,hix,hca,hc2];refine gP p23 ?_;simp only[go_sem,hF,o23,x23,b00,g0,hix,hc2,k1];refine⟨by rw[trOK_eq3];rfl,F _ _ ?_⟩;clear F K;apply gT (by simp only[go_sem,hF,b00,k1]);apply gS kG;exact wr (Pf.retE [.tmp 2] [.c (.p (pI 1))] rfl rfl kF rfl ⟨1,rfl,by simp⟩)
   have k2:(c.w==x.w)=true:=by simpa using k1
   rw[k2,Bool.true_and] at hR
   refine Wc.regT fun K F=>?_;simp only[go_sem,hF,g0,hix,hca,hc2];refine gP p23 ?_;simp only[go_sem,hF,o23,x23,b00,g0,hix,hc2,k1];refine⟨by rw[trOK_eq3];rfl,F _ _ ?_⟩;clear F K;apply gF (by simp only[go_sem,hF,b00,k1]);refine Wc.cutR (fun y=>rsOK x.w (prevR x.rs (i+1)) (x.rs.drop (i+1))=R∧y.ds=[]∧Fs y.e 58 [(1,.v (.c (.ref 0 0))),(3,P' (pI i))]∧OA y.s.nx y.s [] [(0,.cells (x.pd.map .p) false)]) ?_ ?_
   ·by_cases h0:i=0
    ·have hh:((0:Int)<(i:Int))=False:=by simp;omega
     have hd:decide (0<i)=false:=by simp;omega
     simp only[hd,gC] at hR;refine Wc.seq ?_;refine Wc.regT fun K F=>?_;simp only[go_sem,hF,hh];refine⟨by rw[trOK_eq3];rfl,F _ _ ?_⟩;clear F K;apply gF kF
     exact⟨hR,rfl,by simp only[go_sem,hF],oZ⟩
    ·have hh:((0:Int)<(i:Int))=True:=by simp;omega
     have hd:decide (0<i)=true:=by simp;omega
     obtain⟨q,hq⟩:∃ q,x.rs[i-1]? = some q:=⟨x.rs[i-1],List.getElem?_eq_getElem kO⟩
     have zq:=hz q (gw hq)
     have w1:IntKind.i64.wrap ((i:Int)-1)=((i-1:Nat):Int):=by rw[wi64];omega
     have hiq:=ixA ti60 rfl ti31 (j:=i-1) (m:=x.rs.length) (cs:=x.rs.flatMap Rlp.pd) kO hfl kD
     have hcq:=rpRl hq
     have p96:=pf96g q.lb c.lb (by have:=zq.lb;omega) (by have:=zc.lb;omega)
     have hcp:cmpQ (x.rs[i-1]?) c=cmpL q.lb c.lb:=by rw[hq];rfl
     rw[hcp] at hR
     generalize cmpL q.lb c.lb=V2 at hR p96;simp only[hd,gC] at hR;refine Wc.seq ?_;refine Wc.regT fun K F=>?_;simp only[go_sem,hF,hh,g0,w1,hiq,hcq,hix,hca];refine gP p96 ?_;simp only[go_sem,hF,o96,x96];refine⟨by rw[trOK_eq3];rfl,F _ _ ?_⟩;clear F K;refine Wc.cond (t:=decide (0≤V2)) kF (fun hc=>?_) (fun hc=>?_)
     ·simp only[hc,gC] at hR;subst hR;apply gS kG;exact wr (Pf.retE [.tmp 2] [.c (.p (pI 9))] rfl rfl kF rfl ⟨9,rfl,by simp⟩)
     simp only[hc,gC] at hR;exact Wc.skip ⟨hR,rfl,by simp only[go_sem,hF],oZ⟩
   clear hF ho g0 e s1 hR
   rintro⟨e,ds,s1⟩ ⟨hR,rfl,hF,ho⟩
   simp only[Fs] at hF ho;apply gR kX
   exact⟨x.rs.length-(i+1),kO,i+1,rfl,⟨kO,hR⟩,rfl,by simp only[go_sem,hF],oZ⟩
  ·have hil:i=x.rs.length:=by have:=of_decide_eq_false hc;omega
   rw[hil,List.drop_length,rsOK] at hR
   exact Wc.exit ⟨hR.symm,rfl,by simp only[go_sem,hF]⟩
 rintro⟨e,ds,s1⟩ ⟨rfl,rfl,hF⟩
 simp only[Fs] at hF;apply gS kG;exact wr (Pf.retE [.tmp 2] [.c (.p (pI 0))] rfl rfl kF rfl ⟨0,rfl,by simp⟩)
/-! ### which objects are apart may be told by names for them -/
def trM (f:Nat→Nat)(x:Tr):Tr:={ x with key:=(x.key.1.map f,x.key.2.map f) }
theorem apartK_map (f:Nat→Nat){x y:Option Nat}(h:apartK (x.map f) (y.map f)=true):apartK x y=true:=by
 cases x with
 |none=>rfl
 |some a =>
  cases y with
  |none=>rfl
  |some b =>
   simp only[Option.map_some,apartK,bne_iff_ne] at h ⊢;exact fun e=>h (congrArg f e)
theorem freeOK_map (f:Nat→Nat){x y:Tr}(h:freeOK (trM f x) (trM f y)=true):freeOK x y=true:=by
 unfold freeOK at h ⊢;simp only[Bool.or_eq_true,Bool.and_eq_true] at h ⊢;rcases h with h|⟨h,hk⟩
 ·exact .inl h
 ·refine .inr ⟨h,?_⟩;unfold keysOK at hk ⊢;simp only[Bool.and_eq_true] at hk ⊢
  exact⟨apartK_map f hk.1,apartK_map f hk.2.1,apartK_map f hk.2.2⟩
theorem trOK_map (f:Nat→Nat){ops:Array Oper}:∀ {t:List Tr},trOK ops (t.map (trM f))=true→trOK ops t=true
 |[],_=>rfl
 |x::r,h=>by
  rw[List.map_cons,trOK,Bool.and_eq_true] at h
  rw[trOK,Bool.and_eq_true]
  refine⟨?_,trOK_map f h.2⟩
  have h1:=h.1
  rw[List.all_eq_true] at h1 ⊢
  intro y hy
  have:=h1 (trM f y) (List.mem_map_of_mem hy)
  unfold pairOK at this ⊢
  rw[Bool.or_eq_true] at this ⊢
  exact this.imp (freeOK_map f) id
def en (xs:List C)(ws:List (List Int)):List (Nat×D×Nat×List Pd):=List.zipWith (fun c w=>(1,.v (.c c),w.length,w.map pI)) xs ws
theorem en_at {xs:List C}{ws:List (List Int)}{k:Nat}{c:C}{w:List Int}(hx:xs[k]? = some c)(hw:ws[k]? = some w):en xs ws=en (xs.take k) (ws.take k)++(1,.v (.c c),w.length,w.map pI)::en (xs.drop (k+1)) (ws.drop (k+1)):=by
 obtain⟨h1,h2⟩:=List.getElem?_eq_some_iff.1 hx
 obtain⟨h3,h4⟩:=List.getElem?_eq_some_iff.1 hw
 have e1:xs=xs.take k++c::xs.drop (k+1):=by rw[← h2,← List.drop_eq_getElem_cons h1,List.take_append_drop]
 have e2:ws=ws.take k++w::ws.drop (k+1):=by rw[← h4,← List.drop_eq_getElem_cons h3,List.take_append_drop]
 conv=>lhs;rw[e1,e2]
 unfold en
 rw[List.zipWith_append (by simp;omega),List.zipWith_cons_cons]
theorem en_set {xs:List C}{ws:List (List Int)}{k:Nat}{c:C}{w:List Int}(hx:k<xs.length)(hw:k<ws.length):en (xs.set k c) (ws.set k w)=en (xs.take k) (ws.take k)++(1,.v (.c c),w.length,w.map pI)::en (xs.drop (k+1)) (ws.drop (k+1)):=by
 rw[en_at (k:=k) (c:=c) (w:=w) (by simp[hx]) (by simp[hw]),List.take_set_of_le (Nat.le_refl _),List.take_set_of_le (Nat.le_refl _),List.drop_set_of_lt kO,List.drop_set_of_lt kO]
theorem OA.appK {b key k:Nat}{s:St}{A:List (Nat×D×Nat×List Pd)}{M:List (Nat×Ob)}{xs:List C}{ws:List (List Int)}{c:C}{w:List Int}{v:Int}{y:D}{K:D→St→Prop}(h:OA b s (A++en xs ws) M)(hx:xs[k]? = some c)(hw:ws[k]? = some w)(hkey:b≤key)(hl:w.length<2^40)(hy:srcD E0 175 s y=some (1,[pI v]))
  (hk:∀ c' s',OA (key+1) s' (A++en (xs.set k c') (ws.set k (w++[v]))) M→s'.nx=s.nx→K (.v (.c c')) s'):stepK (appendD E0 key [175,175] (.v (.c c)) y s) K:=by
 have h1:=(List.getElem?_eq_some_iff.1 hx).1
 have h2:=(List.getElem?_eq_some_iff.1 hw).1
 rw[en_at hx hw,← List.append_assoc] at h
 refine OA.app1 (L1:=A++en (xs.take k) (ws.take k)) (L2:=en (xs.drop (k+1)) (ws.drop (k+1))) (W:=w) (v:=v) h hkey hl hy fun c' s' hs hnx=>hk c' s' ?_ hnx
 rw[en_set h1 h2,← List.append_assoc]
 exact hs
theorem OA.purK {b k:Nat}{s:St}{A:List (Nat×D×Nat×List Pd)}{M:List (Nat×Ob)}{xs:List C}{ws:List (List Int)}{c:C}{w:List Int}(h:OA b s (A++en xs ws) M)(hx:xs[k]? = some c)(hw:ws[k]? = some w):purS c=some (.lst w.length (w.map pI)):=by
 rw[en_at hx hw] at h
 exact(h.own (1,.v (.c c),w.length,w.map pI) kS).purS
def bktF (b:Bkt):List Int:=[b.c,b.s,b.mn,b.mx,b.f,b.l,b.ft,b.lt,b.inc]
def colF (l:List Bkt)(k:Nat):List Int:=l.map fun b=>(bktF b).getD k 0
def colsK (l:List Bkt)(i k:Nat):List (List Int):=(List.range 9).map fun j=>colF (l.take (if j<k then i+1 else i)) j
theorem colsK_len (l:List Bkt)(i k:Nat):(colsK l i k).length=9:=by simp[colsK]
theorem colsK_at {l:List Bkt}{i k j:Nat}(h:j<9):(colsK l i k)[j]? = some (colF (l.take (if j<k then i+1 else i)) j):=by
 simp[colsK,h]
theorem colsK_step {l:List Bkt}{i k:Nat}{b:Bkt}(h:k<9)(hb:l[i]? = some b):(colsK l i k).set k (colF (l.take i) k++[(bktF b).getD k 0])=colsK l i (k+1):=by
 apply List.ext_getElem?;intro j
 by_cases hj:j<9
 ·rw[colsK_at hj]
  by_cases hjk:j=k
  ·subst hjk
   rw[List.getElem?_set_self (by simp[colsK,h]),if_pos kO,take_snoc hb]
   simp[colF]
  ·rw[List.getElem?_set_ne kO,colsK_at hj]
   by_cases h2:j<k
   ·rw[if_pos h2,if_pos kO]
   ·rw[if_neg h2,if_neg kO]
 ·rw[List.getElem?_eq_none (by simp[colsK];omega),List.getElem?_eq_none (by simp[colsK];omega)]
theorem colsK_all (l:List Bkt)(i:Nat):colsK l i 9=colsK l (i+1) 0:=by
 apply List.ext_getElem?;intro j
 by_cases hj:j<9
 ·rw[colsK_at hj,colsK_at hj,if_pos hj,if_neg kO]
 ·rw[List.getElem?_eq_none (by simp[colsK];omega),List.getElem?_eq_none (by simp[colsK];omega)]
theorem Own.plain {s:St}{es n:Nat}{c:C}{cs:List Pd}(h:Own s es (.v (.c c)) n cs):plainC c=true:=by
 obtain⟨_,⟨h1,_⟩|⟨id,h1,_⟩⟩:=h
 ·simp only[D.v.injEq,V.c.injEq] at h1;subst h1;rfl
 ·simp only[D.v.injEq,V.c.injEq] at h1;subst h1;rfl
theorem plC (x:Pd):plainC (.p x)=true:=rfl
theorem purVs_wc {s:St}{a:List UInt8}{b:Int}{c:C}{y:Pd}(h:purS c=some y):purVs s [wR a b,.c c]=some ([wR a b,.c (.p y)],s):=by
 simp only[purVs,purV,purCs,purC_p,purC_S h,List.map_cons,List.map_nil]
theorem ixOwn {n j id:Nat}{cs:List Pd}(hj:j<n)(hl:cs.length=n):indexAddrD E0 175 (.v (.c (.own n cs id))) (.v (.c (.p (.int .i64 (j:Int)))))=some (.v (.c (.rp cs j))):=by
 unfold indexAddrD
 rw[ti175]
 simp only[D.int?,ti3,Int.toNat_natCast,Nat.mul_one]
 rw[if_pos ⟨Int.natCast_nonneg j,kO,kO,by decide⟩]
theorem OA.nils {b:Nat}{s:St}{L:List (Nat×D×Nat×List Pd)}{M:List (Nat×Ob)}(h:OA b s L M)(l:List Bkt):OA b s (L++en (List.replicate 9 .nils) (colsK l 0 0)) M:=by
 have e:en (List.replicate 9 .nils) (colsK l 0 0)=List.replicate 9 (1,.v (.c .nils),0,[]):=rfl
 have h9:OA b s (List.replicate 9 (1,.v (.c .nils),0,[])++L) M:=by
  simp only[List.replicate];exact h.nil.nil.nil.nil.nil.nil.nil.nil.nil
 rw[e]
 exact h9.perm List.perm_append_comm
theorem o182:E0.opn 182=false:=by kernel_rfl
theorem x182:E0.xt 182=none:=by kernel_rfl
theorem pf112 (a b:Ent)(ha:a.lb.length<2^60∧a.fs.length<2^60)(hb:b.lb.length<2^60∧b.fs.length<2^60):Pf E0 112 [.agg (a.pd.map .p),.agg (b.pd.map .p)] (P' (pI (cmpE a b))):=by
 have p1:=pf182 a.t b.t
 have p2:=pf96g a.lb b.lb ha.1 hb.1
 have p3:=pf154g a.ln b.ln
 have p4:=pf96g a.fs b.fs ha.2 hb.2
 have p5:=pf182 a.tr b.tr
 have hR0:orL ([cmpI a.t b.t,cmpL a.lb b.lb,cmpS a.ln b.ln,cmpL a.fs b.fs,cmpI a.tr b.tr].drop 0)=cmpE a b:=rfl
 have h5n:((5:Nat):Int)=5:=rfl
 generalize cmpE a b=R at *;generalize cmpI a.t b.t=C1 at *;generalize cmpL a.lb b.lb=C2 at *;generalize cmpS a.ln b.ln=C3 at *;generalize cmpL a.fs b.fs=C4 at *;generalize cmpI a.tr b.tr=C5 at *;refine gQ (fn:=Tryz.f112) ?_;simp only[gL,Tryz.ntmps112,Nat.reduceSub,Nat.reduceAdd];refine gY ?_;refine Wc.seq ?_;refine Wc.regT fun K F=>?_;simp only[go_sem];refine gP p1 ?_;simp only[go_sem];refine gP p2 ?_;simp only[go_sem];refine gP p3 ?_;simp only[go_sem];refine gP p4 ?_;simp only[go_sem];refine gP p5 ?_;simp only[go_sem,o182,x182,o96,x96,o154,x154];refine⟨by rw[trOK_eq3];rfl,F _ _ ?_⟩;clear F K;refine Wc.seqR (fun y=>R=0∧y.ds=[]∧Fs y.e 48 []) ?_ ?_
 ·refine gY ?_;refine Wc.block (Wc.loop (fun k y=>∃ i:Nat,k=5-i∧(i≤5∧orL ([C1,C2,C3,C4,C5].drop i)=R)∧y.ds=[]∧Fs y.e 48 [(5,.v (.c (.own 5 [pI C1,pI C2,pI C3,pI C4,pI C5] 28))),(6,P' (pI i))]) ?_ (k:=5) ⟨0,rfl,⟨kO,hR0⟩,rfl,by simp only[go_sem]⟩);clear p1 p2 p3 p4 p5 hR0;rintro k ⟨e,ds,s1⟩ ⟨i,rfl,⟨hi,hR⟩,rfl,hF⟩;simp only[Fs] at hF;refine gO ?_;apply gR (by simp only[go_sem,hF,h5n];rfl);refine Wc.cond (t:=decide ((i:Int)<5)) kF (fun hc=>?_) (fun hc=>?_)
  ·have hil:i<5:=gi hc
   obtain⟨x,hx⟩:∃ x,[C1,C2,C3,C4,C5][i]? = some x:=⟨[C1,C2,C3,C4,C5][i]'hil,List.getElem?_eq_getElem hil⟩
   rw[orL_step hx] at hR
   have hix:=ixOwn (id:=28) (n:=5) (cs:=[pI C1,pI C2,pI C3,pI C4,pI C5]) hil rfl
   have hca:∀ s,cellsAt s (.v (.c (.rp [pI C1,pI C2,pI C3,pI C4,pI C5] i)))=_:=rpA (off:=i) (drop_map pI hx) (by simp;omega)
   refine Wc.skip (Wc.seq (Wc.block (Wc.seq ?_)));apply gR (by simp only[go_sem,hF,hix,hca];rfl)
   by_cases h0:x=0
   ·rw[if_pos h0] at hR
    have d:(x != 0)=false:=by simpa using h0
    apply gF (by simp only[go_sem,hF,d]);apply gR kX
    exact⟨5-(i+1),kO,i+1,rfl,⟨kO,hR⟩,rfl,by simp only[go_sem,hF]⟩
   ·rw[if_neg h0] at hR
    subst hR
    have d:(x != 0)=true:=by simpa using h0
    apply gT (by simp only[go_sem,hF,d]);apply gS (by simp only[go_sem,hF,hix,hca];rfl);exact wr (gV [.tmp 4] [.c (.p (pI x))] kF)
  ·have hil:i=5:=by have:=of_decide_eq_false hc;omega
   subst hil;exact Wc.exit ⟨hR.symm,rfl,by simp only[go_sem,hF]⟩
 rintro⟨e,ds,s1⟩ ⟨rfl,rfl,hF⟩
 simp only[Fs] at hF;apply gS kG;exact wr (gV [.tmp 4] [.c (.p (pI 0))] kF)
theorem o189:E0.opn 189=false:=by kernel_rfl
theorem x189:E0.xt 189=none:=by kernel_rfl
theorem pf117 (a b:Exm)(ha:a.lb.length<2^60)(hb:b.lb.length<2^60):Pf E0 117 [.agg (a.pd.map .p),.agg (b.pd.map .p)] (P' (pI (cmpX a b))):=by
 have p1:=pf96g a.lb b.lb ha hb
 have h4n:((4:Nat):Int)=4:=rfl
 unfold cmpX
 rw[orL_cons]
 have hR0:orL ([cmpI a.t b.t,cmpI a.v b.v,cmpI a.tr b.tr,cmpI a.sp b.sp].drop 0)=orL [cmpI a.t b.t,cmpI a.v b.v,cmpI a.tr b.tr,cmpI a.sp b.sp]:=rfl
 generalize orL [cmpI a.t b.t,cmpI a.v b.v,cmpI a.tr b.tr,cmpI a.sp b.sp]=R at hR0 ⊢;generalize cmpL a.lb b.lb=C1 at *;refine gQ (fn:=Tryz.f117) ?_;simp only[gL,Tryz.ntmps117,Nat.reduceSub,Nat.reduceAdd];refine gY ?_;refine gO ?_;refine gM fun K F=>?_;simp only[go_sem];refine gP p1 ?_;simp only[go_sem];apply F;clear F K;refine gY ?_
 by_cases h1:C1=0
 case neg =>
  have d:(C1 != 0)=true:=by simpa using h1
  rw[if_neg h1]
  apply gT (by simp only[go_sem,d]);refine gY ?_;exact wr (gU [.tmp 4] [.c (.p (pI C1))])
 have d1:(C1 != 0)=false:=by simpa using h1
 rw[if_pos h1]
 apply gF (by simp only[go_sem,d1]);refine Wc.seq ?_;refine Wc.regT fun K F=>?_;simp only[go_sem];refine⟨by rw[trOK_eq3];rfl,F _ _ ?_⟩;clear F K;refine Wc.seqR (fun y=>R=0∧y.ds=[]∧Fs y.e 54 []) ?_ ?_
 ·refine gY ?_;refine Wc.block (Wc.loop (fun k y=>∃ i:Nat,k=4-i∧(i≤4∧orL ([cmpI a.t b.t,cmpI a.v b.v,cmpI a.tr b.tr,cmpI a.sp b.sp].drop i)=R)∧y.ds=[]∧Fs y.e 54 [(6,.v (.c (.own 4 [pI a.t,pI a.v,pI a.tr,pI a.sp] 19))),(7,.v (.c (.own 4 [pI b.t,pI b.v,pI b.tr,pI b.sp] 28))),(8,P' (pI i))]) ?_ (k:=4) ⟨0,rfl,⟨kO,hR0⟩,rfl,by simp only[go_sem]⟩);clear p1 hR0;rintro k ⟨e,ds,s1⟩ ⟨i,rfl,⟨hi,hR⟩,rfl,hF⟩;simp only[Fs] at hF;refine gO ?_;apply gR (by simp only[go_sem,hF,h4n];rfl);refine Wc.cond (t:=decide ((i:Int)<4)) kF (fun hc=>?_) (fun hc=>?_)
  ·have hil:i<4:=gi hc
   obtain⟨x,y,hx,hy,hxy⟩:∃ x y,[a.t,a.v,a.tr,a.sp][i]? = some x∧[b.t,b.v,b.tr,b.sp][i]? = some y∧[cmpI a.t b.t,cmpI a.v b.v,cmpI a.tr b.tr,cmpI a.sp b.sp][i]? = some (cmpI x y):=by
    rcases i with _|_|_|_|i
    ·exact⟨_,_,rfl,rfl,rfl⟩
    ·exact⟨_,_,rfl,rfl,rfl⟩
    ·exact⟨_,_,rfl,rfl,rfl⟩
    ·exact⟨_,_,rfl,rfl,rfl⟩
    ·omega
   rw[orL_step hxy] at hR
   have hi1:=ixOwn (id:=19) (n:=4) (cs:=[pI a.t,pI a.v,pI a.tr,pI a.sp]) hil rfl
   have hi2:=ixOwn (id:=28) (n:=4) (cs:=[pI b.t,pI b.v,pI b.tr,pI b.sp]) hil rfl
   have hc1:∀ s,cellsAt s (.v (.c (.rp [pI a.t,pI a.v,pI a.tr,pI a.sp] i)))=_:=rpA (off:=i) (drop_map pI hx) (by simp;omega)
   have hc2:∀ s,cellsAt s (.v (.c (.rp [pI b.t,pI b.v,pI b.tr,pI b.sp] i)))=_:=rpA (off:=i) (drop_map pI hy) (by simp;omega)
   have p:=pf189 x y
   generalize cmpI x y=C at *;refine Wc.skip (Wc.seq (Wc.block (Wc.seq ?_)));refine Wc.regT fun K F=>?_;simp only[go_sem,hF,hi1,hi2,hc1,hc2];refine gP p ?_;simp only[go_sem,hF,o189,x189];refine⟨by rw[trOK_eq3];rfl,F _ _ ?_⟩;clear F K;apply gS kG
   by_cases h0:C=0
   ·rw[if_pos h0] at hR
    have d:(C != 0)=false:=by simpa using h0
    apply gF (by simp only[go_sem,hF,d]);apply gR kX
    exact⟨4-(i+1),kO,i+1,rfl,⟨kO,hR⟩,rfl,by simp only[go_sem,hF]⟩
   ·rw[if_neg h0] at hR
    subst hR
    have d:(C != 0)=true:=by simpa using h0
    apply gT (by simp only[go_sem,hF,d]);apply gS kG;exact wr (gV [.tmp 4] [.c (.p (pI C))] kF)
  ·have hil:i=4:=by have:=of_decide_eq_false hc;omega
   subst hil;exact Wc.exit ⟨hR.symm,rfl,by simp only[go_sem,hF]⟩
 rintro⟨e,ds,s1⟩ ⟨rfl,rfl,hF⟩
 simp only[Fs] at hF;apply gS kG;exact wr (gV [.tmp 4] [.c (.p (pI 0))] kF)
theorem u8_10 (b:UInt8):((b.toNat:Int)==10)=((10:UInt8)==b):=by
 rw[Bool.eq_iff_iff,beq_iff_eq,beq_iff_eq]
 constructor
 ·intro h
  have : b.toNat = (10 : UInt8).toNat := by have : (10 : UInt8).toNat = 10 := rfl
                                            omega
  exact(UInt8.toNat_inj.1 this).symm
 ·rintro rfl;rfl
theorem contains_step {l:List UInt8}{i:Nat}{b c:UInt8}(h:l[i]? = some b):(l.drop i).contains c=((c==b) || (l.drop (i+1)).contains c):=by
 obtain⟨h1,h2⟩:=List.getElem?_eq_some_iff.1 h
 rw[List.drop_eq_getElem_cons h1,h2,List.contains_cons]
theorem pf181 (l:List UInt8)(hl:l.length<2^60):Pf E0 181 [.c (.p (.str l)),.c (.p (.int .u8 10))] (P' (.bool (l.contains 10))):=by
 have hR0:(l.drop 0).contains (10:UInt8)=l.contains 10:=rfl
 generalize l.contains (10:UInt8)=R at hR0 ⊢;refine gQ (fn:=Tryz.f181) ?_;simp only[gL,Tryz.ntmps181,Nat.reduceSub,Nat.reduceAdd];refine gY ?_;refine Wc.seqR (fun y=>R=false∧y.ds=[]∧Fs y.e 17 []) ?_ ?_
 ·refine gY ?_;refine Wc.block (Wc.loop (fun k y=>∃ i:Nat,k=l.length-i∧(i≤l.length∧(l.drop i).contains (10:UInt8)=R)∧y.ds=[]∧Fs y.e 17 [(0,P' (.str l)),(1,P' (.int .u8 10)),(5,P' (pI i))]) ?_ (k:=l.length) ⟨0,rfl,⟨kO,hR0⟩,rfl,by simp only[go_sem]⟩);rintro k ⟨e,ds,s1⟩ ⟨i,rfl,⟨hi,hR⟩,rfl,hF⟩;simp only[Fs] at hF;refine gO ?_;apply gR kG;refine Wc.cond (t:=decide ((i:Int)<l.length)) kF (fun hc=>?_) (fun hc=>?_)
  ·have hil:i<l.length:=gi hc
   obtain⟨b,hb⟩:=gE hil
   rw[contains_step hb,← u8_10] at hR
   refine Wc.skip (Wc.seq (Wc.block (Wc.seq ?_)));apply gR (by simp only[go_sem,hF,hb,pdOfByte];rfl);cases k1:((b.toNat:Int)==10) with
   |true =>
    rw[k1,Bool.true_or] at hR
    subst hR;apply gT (by simp only[go_sem,hF,k1]);apply gS kG;exact wr (gV [.tmp 4] [.c (.p (.bool true))] kF)
   |false =>
    rw[k1,Bool.false_or] at hR
    apply gF (by simp only[go_sem,hF,k1]);apply gR kX
    exact⟨l.length-(i+1),kO,i+1,rfl,⟨kO,hR⟩,rfl,by simp only[go_sem,hF]⟩
  ·have hil:i=l.length:=by have:=of_decide_eq_false hc;omega
   rw[hil,List.drop_length] at hR
   exact Wc.exit ⟨hR.symm,rfl,by simp only[go_sem,hF]⟩
 rintro⟨e,ds,s1⟩ ⟨rfl,rfl,hF⟩
 simp only[Fs] at hF;apply gS kG;exact wr (gV [.tmp 4] [.c (.p (.bool false))] kF)
def chkE (x:Ent):Int:=bif decide (x.t<1) || decide (1099511627776<x.t) then 2 else bif lckA x.lb != 0 then lckA x.lb else bif decide (1000<(x.ln.length:Int)) then 4 else bif x.ln.contains 10 then 3 else bif lckA x.fs != 0 then lckA x.fs else bif decide (x.tr<0) || decide (1152921504606846976<x.tr) then 2 else 0
structure Ent.Sz (x:Ent):Prop where
 lb:x.lb.length<2^40
 ls:∀ y∈x.lb,y.1.length<2^50∧y.2.length<2^50
 fs:x.fs.length<2^40
 gs:∀ y∈x.fs,y.1.length<2^50∧y.2.length<2^50
 ln:x.ln.length<2^50
theorem pf75 (x:Ent)(z:x.Sz):Pf E0 75 [.agg (x.pd.map .p)] (P' (pI (chkE x))):=by
 generalize hR:chkE x=R;unfold chkE at hR
 have p1:=pf134 x.lb z.lb z.ls
 have p2:=pf134 x.fs z.fs z.gs
 have p181:=pf181 x.ln (by have:=z.ln;omega)
 refine gQ (fn:=Tryz.f75) ?_;simp only[gL,Tryz.ntmps75,Nat.reduceSub,Nat.reduceAdd];refine gY ?_;refine gO ?_;rcases gK (decide (x.t<1)) with a1|a1
 ·apply gR (by simp only[go_sem,a1];rfl);apply gT (by simp only[go_sem,a1]);refine gY ?_;obtain rfl:R=2:=by rw[← hR];simp only[a1,gC]
  exact wr (gU [.tmp 2] [.c (.p (pI 2))])
 rcases gK (decide (1099511627776<x.t)) with a2|a2
 ·apply gR (by simp only[go_sem,a1,a2];rfl);apply gT (by simp only[go_sem,a1,a2]);refine gY ?_;obtain rfl:R=2:=by rw[← hR];simp only[a1,a2,gC]
  exact wr (gU [.tmp 2] [.c (.p (pI 2))])
 apply gR (by simp only[go_sem,a1,a2];rfl);apply gF (by simp only[go_sem,a1,a2]);simp only[a1,a2,gC] at hR;refine gO ?_;refine gM fun K F=>?_;simp only[go_sem];refine gP p1 ?_;simp only[go_sem];apply F;clear F K;refine gY ?_;generalize lckA x.lb=L at *;cases k1:(L != 0) with
 |true =>
  simp only[k1,gC] at hR;subst hR;apply gT (by simp only[go_sem,k1]);refine gY ?_;exact wr (gU [.tmp 2] [.c (.p (pI L))])
 |false =>
 simp only[k1,gC] at hR;apply gF (by simp only[go_sem,k1]);refine gO ?_;refine gZ ?_;cases k2:decide (1000<(x.ln.length:Int)) with
 |true =>
  simp only[k2,gC] at hR;subst hR;apply gT (by simp only[go_sem,k2]);refine gY ?_;exact wr (gU [.tmp 2] [.c (.p (pI 4))])
 |false =>
 simp only[k2,gC] at hR;apply gF (by simp only[go_sem,k2]);refine gO ?_;refine gM fun K F=>?_;simp only[go_sem];refine wpCall.xt (h:=conL) (d:=P' (.bool (x.ln.contains 10))) kR rfl rfl ?_;simp only[go_sem];apply F;clear F K;generalize x.ln.contains 10=B at *;cases B with
 |true =>
  simp only[gC] at hR;subst hR;refine gG ?_;refine gY ?_;exact wr (gU [.tmp 2] [.c (.p (pI 3))])
 |false =>
 simp only[gC] at hR;refine gH ?_;refine gO ?_;refine gM fun K F=>?_;simp only[go_sem];refine gP p2 ?_;simp only[go_sem];apply F;clear F K;refine gY ?_;generalize lckA x.fs=M at *;cases k3:(M != 0) with
 |true =>
  simp only[k3,gC] at hR;subst hR;apply gT (by simp only[go_sem,k3]);refine gY ?_;exact wr (gU [.tmp 2] [.c (.p (pI M))])
 |false =>
 simp only[k3,gC] at hR;apply gF (by simp only[go_sem,k3]);refine gO ?_;rcases gK (decide (x.tr<0)) with b1|b1
 ·apply gR (by simp only[go_sem,b1];rfl);apply gT (by simp only[go_sem,b1]);refine gY ?_;obtain rfl:R=2:=by rw[← hR];simp only[b1,gC]
  exact wr (gU [.tmp 2] [.c (.p (pI 2))])
 rcases gK (decide (1152921504606846976<x.tr)) with b2|b2
 ·apply gR (by simp only[go_sem,b1,b2];rfl);apply gT (by simp only[go_sem,b1,b2]);refine gY ?_;obtain rfl:R=2:=by rw[← hR];simp only[b1,b2,gC]
  exact wr (gU [.tmp 2] [.c (.p (pI 2))])
 apply gR (by simp only[go_sem,b1,b2];rfl);apply gF (by simp only[go_sem,b1,b2]);simp only[b1,b2,gC] at hR;subst hR;refine gY ?_;exact wr (gU [.tmp 2] [.c (.p (pI 0))])
theorem pf111 (x:Ent)(z:x.Sz):Pf E0 111 [.agg (x.pd.map .p)] (P' (pI (chkE x))):=by
 generalize hR:chkE x=R;unfold chkE at hR
 have p1:=pf92 x.lb z.lb z.ls
 have p2:=pf92 x.fs z.fs z.gs
 have p181:=pf181 x.ln (by have:=z.ln;omega)
 refine gQ (fn:=Tryz.f111) ?_;simp only[gL,Tryz.ntmps111,Nat.reduceSub,Nat.reduceAdd];refine gY ?_;refine gO ?_;rcases gK (decide (x.t<1)) with a1|a1
 ·apply gR (by simp only[go_sem,a1];rfl);apply gT (by simp only[go_sem,a1]);refine gY ?_;obtain rfl:R=2:=by rw[← hR];simp only[a1,gC]
  exact wr (gU [.tmp 2] [.c (.p (pI 2))])
 rcases gK (decide (1099511627776<x.t)) with a2|a2
 ·apply gR (by simp only[go_sem,a1,a2];rfl);apply gT (by simp only[go_sem,a1,a2]);refine gY ?_;obtain rfl:R=2:=by rw[← hR];simp only[a1,a2,gC]
  exact wr (gU [.tmp 2] [.c (.p (pI 2))])
 apply gR (by simp only[go_sem,a1,a2];rfl);apply gF (by simp only[go_sem,a1,a2]);simp only[a1,a2,gC] at hR;refine gO ?_;refine gM fun K F=>?_;simp only[go_sem];refine gP p1 ?_;simp only[go_sem];apply F;clear F K;refine gY ?_;generalize lckA x.lb=L at *;cases k1:(L != 0) with
 |true =>
  simp only[k1,gC] at hR;subst hR;apply gT (by simp only[go_sem,k1]);refine gY ?_;exact wr (gU [.tmp 2] [.c (.p (pI L))])
 |false =>
 simp only[k1,gC] at hR;apply gF (by simp only[go_sem,k1]);refine gO ?_;refine gZ ?_;cases k2:decide (1000<(x.ln.length:Int)) with
 |true =>
  simp only[k2,gC] at hR;subst hR;apply gT (by simp only[go_sem,k2]);refine gY ?_;exact wr (gU [.tmp 2] [.c (.p (pI 4))])
 |false =>
 simp only[k2,gC] at hR;apply gF (by simp only[go_sem,k2]);refine gO ?_;refine gM fun K F=>?_;simp only[go_sem];refine gP p181 ?_;simp only[go_sem];apply F;clear F K;generalize x.ln.contains 10=B at *;cases B with
 |true =>
  simp only[gC] at hR;subst hR;refine gG ?_;refine gY ?_;exact wr (gU [.tmp 2] [.c (.p (pI 3))])
 |false =>
 simp only[gC] at hR;refine gH ?_;refine gO ?_;refine gM fun K F=>?_;simp only[go_sem];refine gP p2 ?_;simp only[go_sem];apply F;clear F K;refine gY ?_;generalize lckA x.fs=M at *;cases k3:(M != 0) with
 |true =>
  simp only[k3,gC] at hR;subst hR;apply gT (by simp only[go_sem,k3]);refine gY ?_;exact wr (gU [.tmp 2] [.c (.p (pI M))])
 |false =>
 simp only[k3,gC] at hR;apply gF (by simp only[go_sem,k3]);refine gO ?_;rcases gK (decide (x.tr<0)) with b1|b1
 ·apply gR (by simp only[go_sem,b1];rfl);apply gT (by simp only[go_sem,b1]);refine gY ?_;obtain rfl:R=2:=by rw[← hR];simp only[b1,gC]
  exact wr (gU [.tmp 2] [.c (.p (pI 2))])
 rcases gK (decide (1152921504606846976<x.tr)) with b2|b2
 ·apply gR (by simp only[go_sem,b1,b2];rfl);apply gT (by simp only[go_sem,b1,b2]);refine gY ?_;obtain rfl:R=2:=by rw[← hR];simp only[b1,b2,gC]
  exact wr (gU [.tmp 2] [.c (.p (pI 2))])
 apply gR (by simp only[go_sem,b1,b2];rfl);apply gF (by simp only[go_sem,b1,b2]);simp only[b1,b2,gC] at hR;subst hR;refine gY ?_;exact wr (gU [.tmp 2] [.c (.p (pI 0))])
theorem pf74 (x:Ent)(z:x.Sz):Pf E0 74 [.agg (x.pd.map .p)] (P' (.bool (chkE x==0))):=by
 have p:=pf75 x z
 generalize chkE x=R at *;refine gQ (fn:=Tryz.f74) ?_;simp only[gL,Tryz.ntmps74,Nat.reduceSub,Nat.reduceAdd];refine gY ?_;refine gN fun K F=>?_;simp only[go_sem];refine gP p ?_;simp only[go_sem];apply F;clear F K;exact wr (gU [.tmp 2] [.c (.p (.bool (R==0)))])
end Go.Proofs.YtedcnhbblgmdnaaGreat.Ab
