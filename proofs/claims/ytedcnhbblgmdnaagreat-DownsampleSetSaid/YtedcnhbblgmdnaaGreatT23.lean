/- A part of the proof. -/
import Derived.Test.YtedcnhbblgmdnaaGreatT22
set_option maxHeartbeats 8000000
set_option maxRecDepth 10000
set_option linter.unusedSimpArgs false
set_option linter.unusedVariables false
namespace Go.Proofs.YtedcnhbblgmdnaaGreat.Ab
theorem pf180 (n lo hi:Int):Pf E0 180 [.c (.p (.int .i64 n)),.c (.p (.int .i64 lo)),.c (.p (.int .i64 hi))] (P' (.bool (btw n lo hi))):=by
 refine gQ (fn:=Tryz.f180) ?_;simp only[gL,Tryz.ntmps180,Nat.reduceSub,Nat.reduceAdd];refine gY ?_;refine Wc.seq ?_
 by_cases h:lo≤n
 ·apply gR kB;exact wr (gV [.tmp 6] [.c (.p (.bool (btw n lo hi)))] (by simp only[go_sem,btw,h,Bool.true_and]))
 ·apply gR kB;exact wr (gV [.tmp 6] [.c (.p (.bool (btw n lo hi)))] (by simp only[go_sem,btw,h,Bool.false_and]))
theorem pf106 (b:Bkt)(k w:Int)(hk:k=1∨k=2)(hw:1≤w∧w≤1099511627776):Pf E0 106 [.c (.p (pI k)),.c (.p (pI w)),.agg (b.pd.map .p)] (P' (.bool (rfBk k w b))):=by
 generalize hR:rfBk k w b=R;unfold rfBk at hR
 have hw0:(w=0)=False:=by simp;omega
 refine gQ (fn:=Tryz.f106) ?_;simp only[gL,Tryz.ntmps106,Nat.reduceSub,Nat.reduceAdd];refine gY ?_;refine gY ?_
 have hF:True:=trivial
 refine Wc.seqR (fun y=>y.ds=[]∧Fs y.e 149 [(0,P' (pI k)),(1,P' (pI w)),(5,.v (.c (.ref 0 0))),(7,P' (pI (if k=2 then 0 else -1099511627776)))]∧OA y.s.nx y.s [] [(0,.cells (b.pd.map .p) false)]) ?_ ?_
 ·refine Wc.seq ?_;rcases hk with rfl|rfl
  ·refine gZ ?_;apply gF (by simp only[go_sem];try rfl)
   exact⟨rfl,by simp only[go_sem],oW⟩
  ·refine gZ ?_;refine gG ?_;refine gZ ?_
   exact⟨rfl,by simp only[go_sem],oW⟩
 clear hF
 rintro⟨e,ds,s1⟩ ⟨rfl,hF,ho⟩
 simp only[Fs] at hF ho;generalize hlo:(if k=2 then (0:Int) else -1099511627776)=lo at hF
 have g0:=ho.at_ (0,.cells (b.pd.map .p) false) kS
 simp only[gm] at g0;refine Wc.seqR (fun y=>(rfA w b=false∧0≤b.st∧b.st<1099511627776)∧y.ds=[]∧Fs y.e 149 [(0,P' (pI k)),(1,P' (pI w)),(5,.v (.c (.ref 0 0))),(7,P' (pI lo))]∧OA y.s.nx y.s [] [(0,.cells (b.pd.map .p) false)]) ?_ ?_
 ·refine Wc.seq ?_
  have bad:rfA w b=true→false=R:=fun h=>by rw[← hR,h];rfl
  by_cases hst:0≤b.st∧b.st<1099511627776
  ·have w1:IntKind.i64.wrap (b.st+w)=b.st+w:=by rw[wi64];omega
   unfold rfA at bad ⊢;rcases gK (decide (b.st<0)) with z1|z1
   ·apply gR (by simp only[go_sem,hF,g0,w1,hw0,z1];rfl);apply gT (by simp only[go_sem,hF,g0,w1,hw0,z1]);apply gS kG
    rw[← bad (by simp only[z1];rfl)]
    exact wr (gV [.tmp 6] [.c (.p (.bool false))] kF)
   rcases gK (decide (1099511627776≤b.st)) with z2|z2
   ·apply gR (by simp only[go_sem,hF,g0,w1,hw0,z1,z2];rfl);apply gT (by simp only[go_sem,hF,g0,w1,hw0,z1,z2]);apply gS kG
    rw[← bad (by simp only[z1,z2];rfl)]
    exact wr (gV [.tmp 6] [.c (.p (.bool false))] kF)
   rcases gK (b.st.tmod w != 0) with z3|z3
   ·apply gR (by simp only[go_sem,hF,g0,w1,hw0,z1,z2,z3];rfl);apply gT (by simp only[go_sem,hF,g0,w1,hw0,z1,z2,z3]);apply gS kG
    rw[← bad (by simp only[z1,z2,z3];rfl)]
    exact wr (gV [.tmp 6] [.c (.p (.bool false))] kF)
   rcases gK (decide (b.ft≤b.st)) with z4|z4
   ·apply gR (by simp only[go_sem,hF,g0,w1,hw0,z1,z2,z3,z4];rfl);apply gT (by simp only[go_sem,hF,g0,w1,hw0,z1,z2,z3,z4]);apply gS kG
    rw[← bad (by simp only[z1,z2,z3,z4];rfl)]
    exact wr (gV [.tmp 6] [.c (.p (.bool false))] kF)
   rcases gK (decide (b.lt<b.ft)) with z5|z5
   ·apply gR (by simp only[go_sem,hF,g0,w1,hw0,z1,z2,z3,z4,z5];rfl);apply gT (by simp only[go_sem,hF,g0,w1,hw0,z1,z2,z3,z4,z5]);apply gS kG
    rw[← bad (by simp only[z1,z2,z3,z4,z5];rfl)]
    exact wr (gV [.tmp 6] [.c (.p (.bool false))] kF)
   rcases gK (decide (b.st+w<b.lt)) with z6|z6
   ·apply gR (by simp only[go_sem,hF,g0,w1,hw0,z1,z2,z3,z4,z5,z6];rfl);apply gT (by simp only[go_sem,hF,g0,w1,hw0,z1,z2,z3,z4,z5,z6]);apply gS kG
    rw[← bad (by simp only[z1,z2,z3,z4,z5,z6];rfl)]
    exact wr (gV [.tmp 6] [.c (.p (.bool false))] kF)
   rcases gK (decide (1099511627776<b.lt)) with z7|z7
   ·apply gR (by simp only[go_sem,hF,g0,w1,hw0,z1,z2,z3,z4,z5,z6,z7];rfl);apply gT (by simp only[go_sem,hF,g0,w1,hw0,z1,z2,z3,z4,z5,z6,z7]);apply gS kG
    rw[← bad (by simp only[z1,z2,z3,z4,z5,z6,z7];rfl)]
    exact wr (gV [.tmp 6] [.c (.p (.bool false))] kF)
   apply gR (by simp only[go_sem,hF,g0,w1,hw0,z1,z2,z3,z4,z5,z6,z7];rfl);apply gF (by simp only[go_sem,hF,g0,w1,hw0,z1,z2,z3,z4,z5,z6,z7])
   exact⟨⟨by simp only[z1,z2,z3,z4,z5,z6,z7];rfl,hst⟩,rfl,by simp only[go_sem,hF],oZ⟩
  ·have hb:false=R:=bad (by unfold rfA;rw[show(decide (b.st<0) || decide (1099511627776≤b.st))=true by simp;omega];rfl)
   rcases gK (decide (b.st<0)) with z1|z1
   ·apply gR (by simp only[go_sem,hF,g0,z1];rfl);apply gT (by simp only[go_sem,hF,z1]);apply gS kG
    rw[← (hb:false=R)]
    exact wr (gV [.tmp 6] [.c (.p (.bool false))] kF)
   ·have z2:decide (1099511627776≤b.st)=true:=by
     have:=of_decide_eq_false z1
     exact decide_eq_true kO
    apply gR (by simp only[go_sem,hF,g0,z1,z2];rfl);apply gT (by simp only[go_sem,hF,z1,z2]);apply gS kG
    rw[← (hb:false=R)]
    exact wr (gV [.tmp 6] [.c (.p (.bool false))] kF)
 clear hF ho g0 e s1
 rintro⟨e,ds,s1⟩ ⟨⟨c1,hst⟩,rfl,hF,ho⟩
 simp only[Fs] at hF ho
 have g0:=ho.at_ (0,.cells (b.pd.map .p) false) kS
 simp only[gm] at g0
 rw[c1] at hR
 refine Wc.seqR (fun y=>(rfB b=false∧1≤b.c∧b.c≤2000)∧y.ds=[]∧Fs y.e 149 [(0,P' (pI k)),(1,P' (pI w)),(5,.v (.c (.ref 0 0))),(7,P' (pI lo))]∧OA y.s.nx y.s [] [(0,.cells (b.pd.map .p) false)]) ?_ ?_
 ·refine Wc.seq ?_
  have bad:rfB b=true→false=R:=fun h=>by rw[← hR,h];rfl
  have p:=pf180 b.c 1 2000
  cases hB:btw b.c 1 2000 with
  |false =>
   rw[hB] at p
   refine gM fun K F=>?_;simp only[go_sem,hF,g0];refine gP p ?_;simp only[go_sem,hF,g0];apply F;clear F K;apply gT kF;apply gS kG
   rw[← ((bad (by unfold rfB;rw[hB];rfl)):false=R)]
   exact wr (gV [.tmp 6] [.c (.p (.bool false))] kF)
  |true =>
   rw[hB] at p
   rcases gK (!((b.ft==b.lt)==(b.c==1))) with z|z
   ·refine gM fun K F=>?_;simp only[go_sem,hF,g0];refine gP p ?_;simp only[go_sem,hF,g0,z];apply F;clear F K;apply gT (by simp only[go_sem,hF,z]);apply gS kG
    rw[← ((bad (by unfold rfB;rw[hB,bne_false,z];rfl)):false=R)]
    exact wr (gV [.tmp 6] [.c (.p (.bool false))] kF)
   ·refine gM fun K F=>?_;simp only[go_sem,hF,g0];refine gP p ?_;simp only[go_sem,hF,g0,z];apply F;clear F K;apply gF (by simp only[go_sem,hF,z])
    refine⟨⟨by unfold rfB;rw[hB,bne_false,z];rfl,?_⟩,rfl,by simp only[go_sem,hF],oZ⟩
    simp only[btw,Bool.and_eq_true,decide_eq_true_eq] at hB;exact hB
 clear hF ho g0 e s1
 rintro⟨e,ds,s1⟩ ⟨⟨c2,hc⟩,rfl,hF,ho⟩
 simp only[Fs] at hF ho
 have g0:=ho.at_ (0,.cells (b.pd.map .p) false) kS
 simp only[gm] at g0
 rw[c2] at hR
 refine Wc.seqR (fun y=>rfC k b=false∧y.ds=[]∧Fs y.e 149 [(0,P' (pI k)),(1,P' (pI w)),(5,.v (.c (.ref 0 0))),(7,P' (pI lo))]∧OA y.s.nx y.s [] [(0,.cells (b.pd.map .p) false)]) ?_ ?_
 ·refine Wc.seq ?_
  have bad:rfC k b=true→false=R:=fun h=>by rw[← hR,h];rfl
  unfold rfC at bad ⊢
  rw[hlo] at bad ⊢
  have p:=pf180 b.f b.mn b.mx
  have q:=pf180 b.l b.mn b.mx
  rcases gK (decide (b.mn<lo)) with z1|z1
  ·apply gR (by simp only[go_sem,hF,g0,z1];rfl);apply gT (by simp only[go_sem,hF,z1]);apply gS kG
   rw[← ((bad (by rw[z1];rfl)):false=R)]
   exact wr (gV [.tmp 6] [.c (.p (.bool false))] kF)
  rcases gK (decide (1099511627776<b.mx)) with z2|z2
  ·apply gR (by simp only[go_sem,hF,g0,z1,z2];rfl);apply gT (by simp only[go_sem,hF,z1,z2]);apply gS kG
   rw[← ((bad (by rw[z1,z2];rfl)):false=R)]
   exact wr (gV [.tmp 6] [.c (.p (.bool false))] kF)
  cases hP:btw b.f b.mn b.mx with
  |false =>
   rw[hP] at p
   refine gM fun K F=>?_;simp only[go_sem,hF,g0,z1,z2];refine gP p ?_;simp only[go_sem,hF,g0,z1,z2];apply F;clear F K;apply gT kF;apply gS kG
   rw[← ((bad (by rw[z1,z2,hP];rfl)):false=R)]
   exact wr (gV [.tmp 6] [.c (.p (.bool false))] kF)
  |true =>
   rw[hP] at p
   cases hQ:btw b.l b.mn b.mx with
   |false =>
    rw[hQ] at q
    refine gM fun K F=>?_;simp only[go_sem,hF,g0,z1,z2];refine gP p ?_;simp only[go_sem,hF,g0,z1,z2];refine gP q ?_;simp only[go_sem,hF,g0,z1,z2];apply F;clear F K;apply gT kF;apply gS kG
    rw[← ((bad (by rw[z1,z2,hP,hQ];rfl)):false=R)]
    exact wr (gV [.tmp 6] [.c (.p (.bool false))] kF)
   |true =>
    rw[hQ] at q
    refine gM fun K F=>?_;simp only[go_sem,hF,g0,z1,z2];refine gP p ?_;simp only[go_sem,hF,g0,z1,z2];refine gP q ?_;simp only[go_sem,hF,g0,z1,z2];apply F;clear F K;apply gF kF
    exact⟨by rw[z1,z2];rfl,rfl,by simp only[go_sem,hF],oZ⟩
 clear hF ho g0 e s1
 rintro⟨e,ds,s1⟩ ⟨c3,rfl,hF,ho⟩
 simp only[Fs] at hF ho
 have g0:=ho.at_ (0,.cells (b.pd.map .p) false) kS
 simp only[gm] at g0
 rw[c3] at hR
 have hv:(-1099511627776≤b.mn∧b.mn≤1099511627776)∧(-1099511627776≤b.mx∧b.mx≤1099511627776):=by
  unfold rfC btw at c3
  rw[hlo] at c3
  simp at c3
  have : -1099511627776≤lo:=by rw[← hlo];split<;>omega
  omega
 obtain⟨m1,m2⟩:=mulB hc.1 hc.2 hv.1.1 hv.1.2
 obtain⟨m3,m4⟩:=mulB hc.1 hc.2 hv.2.1 hv.2.2
 have w2:IntKind.i64.wrap (b.c*b.mn)=b.c*b.mn:=by rw[wi64];omega
 have w3:IntKind.i64.wrap (b.c*b.mx)=b.c*b.mx:=by rw[wi64];omega
 have w4:IntKind.i64.wrap (IntKind.i64.wrap (b.c-1)*1099511627776)=(b.c-1)*1099511627776:=by rw[wi64,wi64];omega
 refine Wc.seqR (fun y=>rfD k b=false∧y.ds=[]∧Fs y.e 149 [(0,P' (pI k)),(1,P' (pI w)),(5,.v (.c (.ref 0 0))),(7,P' (pI lo))]∧OA y.s.nx y.s [] [(0,.cells (b.pd.map .p) false)]) ?_ ?_
 ·refine Wc.seq ?_
  have bad:rfD k b=true→false=R:=fun h=>by rw[← hR,h];rfl
  unfold rfD at bad ⊢
  have p:=pf180 b.s (b.c*b.mn) (b.c*b.mx)
  cases hP:btw b.s (b.c*b.mn) (b.c*b.mx) with
  |false =>
   rw[hP] at p
   refine gM fun K F=>?_;simp only[go_sem,hF,g0,w2,w3];refine gP p ?_;simp only[go_sem,hF,g0];apply F;clear F K;apply gT kF;apply gS kG
   rw[← ((bad (by rw[hP];rfl)):false=R)]
   exact wr (gV [.tmp 6] [.c (.p (.bool false))] kF)
  |true =>
   rw[hP] at p
   obtain⟨c,hcE⟩:∃ c,(decide (b.inc<0) || ((k==1)&&(b.inc != 0)) || decide ((b.c-1)*1099511627776<b.inc))=c:=⟨_,rfl⟩
   have h3:(!true || decide (b.inc<0) || ((k==1)&&(b.inc != 0)) || decide ((b.c-1)*1099511627776<b.inc))=c:=by rw[← hcE];rfl
   rw[hP,h3] at bad
   rw[h3]
   rcases gK (decide (b.inc<0)) with z1|z1<;>rcases gK (k==1) with z2|z2<;>rcases gK (b.inc != 0) with z3|z3<;>rcases gK (decide ((b.c-1)*1099511627776<b.inc)) with z4|z4<;>rw[z1,z2,z3,z4] at hcE<;>subst hcE <;>
   (refine gM fun K F=>?_;simp only[go_sem,hF,g0,w2,w3,z1,z2,z3,w4,z4] ;refine gP p ?_ ;simp only[go_sem,hF,g0,z1,z2,z3,w4,z4];apply F;clear F K) <;>
   first
   | (apply gT (by simp only [go_sem, hF, z1, z2, z3, z4])
      apply gS kG
      rw[← ((bad rfl):false=R)]
      exact wr (gV [.tmp 6] [.c (.p (.bool false))] kF))
   | (apply gF (by simp only [go_sem, hF, z1, z2, z3, z4])
      exact⟨rfl,rfl,by simp only[go_sem,hF],oZ⟩)
 clear hF ho g0 e s1
 rintro⟨e,ds,s1⟩ ⟨c4,rfl,hF,ho⟩
 simp only[Fs] at hF ho
 have g0:=ho.at_ (0,.cells (b.pd.map .p) false) kS
 simp only[gm] at g0
 rw[c4] at hR
 subst hR;refine Wc.seq ?_
 have fin:∀(e:List D) (s:St),e.getD 6 .junk=P' (.bool (rfE b))→Wc E0 none .ret { e:=e,ds:=[],s:=s } (bodyQ E0 Tryz.f106 fun d0 s2=>∃ s3,purD s2 d0=some (P' (.bool (rfE b)),s3)):=fun e s h =>
  Wc.ret (gV [.tmp 6] [.c (.p (.bool (rfE b)))] (by simp only[go_sem,h]))
 cases z1:decide (1<b.c) with
 |true =>
  apply gR (by simp only[go_sem,hF,g0,z1];rfl);exact fin _ _ (by simp only[go_sem,hF,rfE,z1,Bool.true_or])
 |false =>
  cases z2:b.mn==b.mx with
  |true =>
   apply gR (by simp only[go_sem,hF,g0,z1,z2];rfl);exact fin _ _ (by simp only[go_sem,hF,rfE,z1,z2,Bool.true_and,Bool.false_or])
  |false =>
   apply gR (by simp only[go_sem,hF,g0,z1,z2];rfl);exact fin _ _ (by simp only[go_sem,hF,rfE,z1,z2,Bool.false_and,Bool.false_or])
theorem o106:E0.opn 106=false:=by kernel_rfl
theorem x106:E0.xt 106=none:=by kernel_rfl
theorem rfBks_step {k w:Int}{l:List Bkt}{i:Nat}{b:Bkt}(h:l[i]? = some b):rfBks k w (prevS l i) (l.drop i)=(!(!rfBk k w b || decide (b.st≤prevS l i))&&rfBks k w (prevS l (i+1)) (l.drop (i+1))):=by
 have hi:=(List.getElem?_eq_some_iff.1 h).1
 have hx:=(List.getElem?_eq_some_iff.1 h).2
 have hp:prevS l (i+1)=b.st:=by simp[prevS,h]
 rw[List.drop_eq_getElem_cons hi,hx,hp]
 rfl
theorem pf54 (x:Rlp)(hlb:x.lb.length<2^40)(hls:∀ y∈x.lb,y.1.length<2^50∧y.2.length<2^50):Pf E0 54 [.agg (x.pd.map .p)] (P' (.bool (rlpOK x))):=by
 have hfl:(x.bs.flatMap Bkt.pd).length=x.bs.length*10:=flat_len (k:=10) (fun _=>rfl) _
 have hR:(!(((lckA x.lb != 0) || ((x.k != 1)&&(x.k != 2))) || (decide (x.w<1) || decide (1099511627776<x.w) || ((x.bs.length:Int)==0) || decide ((2000:Int)<x.bs.length)))&&bksOK x.k x.w (-1) x.bs)=rlpOK x:=by unfold rlpOK;rw[Bool.not_or,Bool.and_assoc]
 generalize rlpOK x=R at hR ⊢;refine gQ (fn:=Tryz.f54) ?_;simp only[gL,Tryz.ntmps54,Nat.reduceSub,Nat.reduceAdd];refine gY ?_;refine Wc.seqR (fun y=>((((lckA x.lb != 0) || ((x.k != 1)&&(x.k != 2))) || (decide (x.w<1) || decide (1099511627776<x.w) || ((x.bs.length:Int)==0) || decide ((2000:Int)<x.bs.length)))=false∧(x.k=1∨x.k=2)∧(1≤x.w∧x.w≤1099511627776)∧x.bs.length≤2000)∧y.ds=[]∧Fs y.e 78 [(1,.v (.c (.ref 0 0)))]∧OA y.s.nx y.s [] [(0,.cells (x.pd.map .p) false)]) ?_ ?_
 ·refine Wc.seq ?_
  have bad:(((lckA x.lb != 0) || ((x.k != 1)&&(x.k != 2))) || (decide (x.w<1) || decide (1099511627776<x.w) || ((x.bs.length:Int)==0) || decide ((2000:Int)<x.bs.length)))=true→false=R:=fun h=>by rw[← hR,h];rfl
  have p:=pf92 x.lb hlb hls
  rcases gK (lckA x.lb != 0) with z1|z1
  ·refine gM fun K F=>?_;simp only[go_sem];refine gP p ?_;simp only[go_sem,z1];apply F;clear F K;apply gT (by simp only[go_sem,z1]);refine gY ?_
   rw[← bad (by simp only[z1];rfl)]
   exact wr (gU [.tmp 2] [.c (.p (.bool false))])
  rcases gK (x.k != 1) with z2|z2
  ·rcases gK (x.k != 2) with z3|z3
   ·refine gM fun K F=>?_;simp only[go_sem];refine gP p ?_;simp only[go_sem,z1,z2,z3];apply F;clear F K;apply gT (by simp only[go_sem,z1,z2,z3]);refine gY ?_
    rw[← bad (by simp only[z1,z2,z3];rfl)]
    exact wr (gU [.tmp 2] [.c (.p (.bool false))])
   rcases gK (decide (x.w<1)) with w1|w1
   ·refine gM fun K F=>?_;simp only[go_sem];refine gP p ?_;simp only[go_sem,z1,z2,z3,w1];apply F;clear F K;apply gT (by simp only[go_sem,z1,z2,z3,w1]);refine gY ?_
    rw[← bad (by simp only[z1,z2,z3,w1];rfl)]
    exact wr (gU [.tmp 2] [.c (.p (.bool false))])
   rcases gK (decide (1099511627776<x.w)) with w2|w2
   ·refine gM fun K F=>?_;simp only[go_sem];refine gP p ?_;simp only[go_sem,z1,z2,z3,w1,w2];apply F;clear F K;apply gT (by simp only[go_sem,z1,z2,z3,w1,w2]);refine gY ?_
    rw[← bad (by simp only[z1,z2,z3,w1,w2];rfl)]
    exact wr (gU [.tmp 2] [.c (.p (.bool false))])
   rcases gK ((x.bs.length:Int)==0) with w3|w3
   ·refine gM fun K F=>?_;simp only[go_sem];refine gP p ?_;simp only[go_sem,z1,z2,z3,w1,w2,w3];apply F;clear F K;apply gT (by simp only[go_sem,z1,z2,z3,w1,w2,w3]);refine gY ?_
    rw[← bad (by simp only[z1,z2,z3,w1,w2,w3];rfl)]
    exact wr (gU [.tmp 2] [.c (.p (.bool false))])
   rcases gK (decide ((2000:Int)<x.bs.length)) with w4|w4
   ·refine gM fun K F=>?_;simp only[go_sem];refine gP p ?_;simp only[go_sem,z1,z2,z3,w1,w2,w3,w4];apply F;clear F K;apply gT (by simp only[go_sem,z1,z2,z3,w1,w2,w3,w4]);refine gY ?_
    rw[← bad (by simp only[z1,z2,z3,w1,w2,w3,w4];rfl)]
    exact wr (gU [.tmp 2] [.c (.p (.bool false))])
   refine gM fun K F=>?_;simp only[go_sem];refine gP p ?_;simp only[go_sem,z1,z2,z3,w1,w2,w3,w4];apply F;clear F K;apply gF (by simp only[go_sem,z1,z2,z3,w1,w2,w3,w4])
   exact⟨⟨by simp only[z1,z2,z3,w1,w2,w3,w4];rfl,.inr (by simpa using z3),⟨by have:=of_decide_eq_false w1;omega,by have:=of_decide_eq_false w2;omega⟩,by have:=of_decide_eq_false w4;omega⟩,rfl,by simp only[go_sem],oW⟩
  ·rcases gK (decide (x.w<1)) with w1|w1
   ·refine gM fun K F=>?_;simp only[go_sem];refine gP p ?_;simp only[go_sem,z1,z2,w1];apply F;clear F K;apply gT (by simp only[go_sem,z1,z2,w1]);refine gY ?_
    rw[← bad (by simp only[z1,z2,w1];rfl)]
    exact wr (gU [.tmp 2] [.c (.p (.bool false))])
   rcases gK (decide (1099511627776<x.w)) with w2|w2
   ·refine gM fun K F=>?_;simp only[go_sem];refine gP p ?_;simp only[go_sem,z1,z2,w1,w2];apply F;clear F K;apply gT (by simp only[go_sem,z1,z2,w1,w2]);refine gY ?_
    rw[← bad (by simp only[z1,z2,w1,w2];rfl)]
    exact wr (gU [.tmp 2] [.c (.p (.bool false))])
   rcases gK ((x.bs.length:Int)==0) with w3|w3
   ·refine gM fun K F=>?_;simp only[go_sem];refine gP p ?_;simp only[go_sem,z1,z2,w1,w2,w3];apply F;clear F K;apply gT (by simp only[go_sem,z1,z2,w1,w2,w3]);refine gY ?_
    rw[← bad (by simp only[z1,z2,w1,w2,w3];rfl)]
    exact wr (gU [.tmp 2] [.c (.p (.bool false))])
   rcases gK (decide ((2000:Int)<x.bs.length)) with w4|w4
   ·refine gM fun K F=>?_;simp only[go_sem];refine gP p ?_;simp only[go_sem,z1,z2,w1,w2,w3,w4];apply F;clear F K;apply gT (by simp only[go_sem,z1,z2,w1,w2,w3,w4]);refine gY ?_
    rw[← bad (by simp only[z1,z2,w1,w2,w3,w4];rfl)]
    exact wr (gU [.tmp 2] [.c (.p (.bool false))])
   refine gM fun K F=>?_;simp only[go_sem];refine gP p ?_;simp only[go_sem,z1,z2,w1,w2,w3,w4];apply F;clear F K;apply gF (by simp only[go_sem,z1,z2,w1,w2,w3,w4])
   exact⟨⟨by simp only[z1,z2,w1,w2,w3,w4];rfl,.inl (by simpa using z2),⟨by have:=of_decide_eq_false w1;omega,by have:=of_decide_eq_false w2;omega⟩,by have:=of_decide_eq_false w4;omega⟩,rfl,by simp only[go_sem],oW⟩
 rintro⟨e,ds,s1⟩ ⟨⟨c1,hk,hw,hbl⟩,rfl,hF,ho⟩
 simp only[Fs] at hF ho
 rw[c1,← rfBks_eq hk x.bs (-1) kO] at hR
 have hR0:rfBks x.k x.w (prevS x.bs 0) (x.bs.drop 0)=R:=by rw[← hR];rfl
 clear hR;refine Wc.seqR (fun y=>R=true∧y.ds=[]∧Fs y.e 78 []) ?_ ?_
 ·apply gS kG;refine Wc.block (Wc.loop (fun c y=>∃ i:Nat,c=x.bs.length-i∧i≤x.bs.length∧y.ds=[]∧Fs y.e 78 [(1,.v (.c (.ref 0 0))),(3,P' (pI i))]∧OA y.s.nx y.s [] [(0,.cells (x.pd.map .p) false)]∧rfBks x.k x.w (prevS x.bs i) (x.bs.drop i)=R) ?_ (k:=x.bs.length) ?_)
  ·clear hF ho hR0 e s1;rintro c ⟨e,ds,s1⟩ ⟨i,rfl,hi,rfl,hF,ho,hRi⟩;simp only[Fs] at hF ho
   have g0:=ho.at_ (0,.cells (x.pd.map .p) false) kS
   simp only[gm] at g0;refine gO ?_;apply gR kC;refine Wc.cond (t:=decide ((i:Int)<x.bs.length)) kF (fun hc=>?_) (fun hc=>?_)
   ·have hil:i<x.bs.length:=gi hc
    obtain⟨b,hb⟩:=gE hil
    have hix:=ixA ti29 rfl ti41 (j:=i) (m:=x.bs.length) (cs:=x.bs.flatMap Bkt.pd) hil hfl kD
    have hca:=rpA (off:=i*10) (drop_flat (f:=Bkt.pd) (k:=10) (fun _=>rfl) hb) (by rw[hfl];omega)
    rw[rfBks_step hb] at hRi
    have p:=pf106 b x.k x.w hk hw
    refine Wc.skip (Wc.seqR (fun y=>(!rfBk x.k x.w b || decide (b.st≤prevS x.bs i))=false∧y.ds=[]∧Fs y.e 78 [(1,.v (.c (.ref 0 0))),(3,P' (pI i))]∧OA y.s.nx y.s [] [(0,.cells (x.pd.map .p) false)]) ?_ ?_)
    ·refine Wc.block (Wc.seq ?_);cases hB:rfBk x.k x.w b with
     |false =>
      rw[hB] at p
      refine Wc.regD fun K F=>?_;simp only[go_sem,hF,g0,hix,hca]
      refine⟨by simp[o106,x106,plainD,plainV,plainC],?_⟩
      refine gP p ?_;simp only[go_sem,hF,g0,hix,hca];apply F;clear F K;apply gT kF;apply gS kG
      rw[← hRi,hB]
      exact wr (gV [.tmp 2] [.c (.p (.bool false))] kF)
     |true =>
      rw[hB] at p
      by_cases hi0:0<i
      ·obtain⟨a,ha⟩:∃ a,x.bs[i-1]? = some a:=⟨x.bs[i-1],List.getElem?_eq_getElem kO⟩
       have hiy:=ixA ti29 rfl ti41 (j:=i-1) (m:=x.bs.length) (cs:=x.bs.flatMap Bkt.pd) kO hfl kD
       have hcb:=rpA (off:=(i-1)*10) (drop_flat (f:=Bkt.pd) (k:=10) (fun _=>rfl) ha) (by rw[hfl];omega)
       have e1:IntKind.i64.wrap ((i:Int)-1)=((i-1:Nat):Int):=by rw[wi64];omega
       have hd:(0<(i:Int))=True:=by simp;omega
       have hpr:prevS x.bs i=a.st:=by unfold prevS;rw[if_neg kO,ha];rfl
       rw[hpr] at hRi ⊢
       refine Wc.regD fun K F=>?_;simp only[go_sem,hF,g0,hix,hca,hiy,hcb,e1,hd]
       refine⟨by simp[o106,x106,plainD,plainV,plainC],?_⟩
       refine gP p ?_;simp only[go_sem,hF,g0,hix,hca,hiy,hcb,e1,hd];apply F;clear F K;refine Wc.cond (t:=decide (b.st≤a.st)) kF (fun hc=>?_) (fun hc=>?_)
       ·apply gS kG
        rw[← hRi,hc,hB]
        exact wr (gV [.tmp 2] [.c (.p (.bool false))] kF)
       ·exact Wc.skip ⟨by rw[hc];rfl,rfl,by simp only[go_sem,hF],oZ⟩
      ·have hd:(0<(i:Int))=False:=by simp;omega
       have hz:i=0:=kO
       have hs:0≤b.st:=by
        rw[rfBk_eq hk] at hB
        simp only[Bool.and_eq_true,decide_eq_true_eq] at hB;exact hB.1
       have hp:decide (b.st≤prevS x.bs i)=false:=by subst hz;rw[show prevS x.bs 0 = -1 from rfl];exact decide_eq_false kO
       refine Wc.regD fun K F=>?_;simp only[go_sem,hF,g0,hix,hca,hd]
       refine⟨by simp[o106,x106,plainD,plainV,plainC],?_⟩
       refine gP p ?_;simp only[go_sem,hF,g0,hix,hca,hd];apply F;clear F K;apply gF kF
       exact⟨by rw[hp];rfl,rfl,by simp only[go_sem,hF],oZ⟩
    clear hF ho g0 e s1
    rintro⟨e,ds,s1⟩ ⟨c3,rfl,hF,ho⟩
    simp only[Fs] at hF ho
    rw[c3] at hRi
    apply gR kX
    exact⟨x.bs.length-(i+1),kO,i+1,rfl,kO,rfl,by simp only[go_sem,hF],oZ,hRi⟩
   ·have hil:i=x.bs.length:=by have:=of_decide_eq_false hc;omega
    subst hil
    rw[List.drop_length] at hRi
    exact Wc.exit ⟨hRi.symm,rfl,by simp only[go_sem,hF]⟩
  ·exact⟨0,rfl,kO,rfl,by simp only[go_sem,hF],oZ,hR0⟩
 clear hF ho e s1
 rintro⟨e,ds,s1⟩ ⟨hRt,rfl,hF⟩
 simp only[Fs] at hF;subst hRt;apply gS kG;exact wr (gV [.tmp 2] [.c (.p (.bool true))] kF)
def rlpZ (l:List Bkt):Zo:=match l with
 |[]=>Zo.none
 |b::r=>⟨(b::r).length,b.ft,((b::r).getLast kS).lt,(b::r).foldl (fun m y=>minI m y.mn) b.mn,(b::r).foldl (fun m y=>maxI m y.mx) b.mx⟩
def encR (x:Rlp):D:=if rlpOK x=false then .tup [noCh,.c (.p (pI 1))] else match packE x.bs bktCols with
 |none=>.tup [noCh,.c (.p (pI 4))]
 |some ss=>finE 6 (.lst x.lb.length (x.lb.flatMap lbP)) (rlpZ x.bs).pd (jn (appV (appV [] x.k).1 x.w).1 ss)
theorem thenD_ret0 {K:Fr→Prop}{Q:Ex→Fr→Prop}{y:Fr}(h:Q .ret y):thenD K Q .ret y:=h
theorem o98:E0.opn 98=true:=by kernel_rfl
theorem x98:E0.xt 98=none:=by kernel_rfl
theorem o99:E0.opn 99=false:=by kernel_rfl
theorem x99:E0.xt 99=none:=by kernel_rfl
theorem rlpOK_some {x:Rlp}(h:rlpOK x=true):(x.k=1∨x.k=2)∧(1≤x.w∧x.w≤1099511627776)∧x.bs≠[]∧x.bs.length≤2000:=by
 unfold rlpOK at h;simp only[Bool.and_eq_true,Bool.not_eq_true',Bool.or_eq_false_iff,decide_eq_false_iff_not,bne_eq_false_iff_eq,Bool.and_eq_false_iff,beq_eq_false_iff_ne] at h
 obtain⟨⟨_,h1⟩,⟨⟨⟨h2,h3⟩,h4⟩,h5⟩,_⟩:=h
 refine⟨by rcases h1 with h | h;exact .inl (by simpa using h);exact .inr (by simpa using h),kO,fun e=>by rw[e] at h4;simp at h4,kO⟩
theorem Own.purS {s:St}{es n:Nat}{c:C}{cs:List Pd}(h:Own s es (.v (.c c)) n cs):Go.Proofs.YtedcnhbblgmdnaaGreat.Ab.purS c=some (.lst n cs):=by
 obtain⟨hl,⟨h1,h2⟩|⟨id,h1,_⟩⟩:=h
 ·simp only[D.v.injEq,V.c.injEq] at h1;subst h1 h2
  have:cs=[]:=List.length_eq_zero_iff.1 (by simpa using hl)
  subst this;rfl
 ·simp only[D.v.injEq,V.c.injEq] at h1;subst h1;rfl
theorem purC_S {s:St}{c:C}{x:Pd}(h:purS c=some x):purC s c=some (x,s):=by
 cases c<;>first | (simp only[purS] at h;cases h;rfl) | cases h
theorem purC_p (s:St)(x:Pd):purC s (.p x)=some (x,s):=rfl
theorem purVs_5 {c:C}{y:Pd}(h:purS c=some y)(s:St){p0 p1 p2:Pd}{z0 z1 z2 z3 z4 z5 z6 z7 z8 z9 z10 z11 z12:Pd}:purVs s [.c (.p p0),.c (.p p1),.agg [.p z0,.p z1,.p z2,.p z3,.p z4,.p z5,.p z6,.p z7,.p z8,.p z9,.p z10,.p z11,.p z12],.c (.p p2),.c c] =
  some ([.c (.p p0),.c (.p p1),.agg [.p z0,.p z1,.p z2,.p z3,.p z4,.p z5,.p z6,.p z7,.p z8,.p z9,.p z10,.p z11,.p z12],.c (.p p2),.c (.p y)],s):=by
 simp only[purVs,purV,purCs,purC_p,purC_S h,List.map_cons,List.map_nil]
theorem purNo (s:St):purD s (packD [noCh,.c (.p (pI 4))])=some (.tup [noCh,.c (.p (pI 4))],s):=rfl
theorem purCh (s:St)(n:Nat)(cs:List Pd)(z:Zo)(d:List UInt8):purD s (packD [chV 6 (.lst n cs) z.pd d,.c (.p (pI 0))])=some (.tup [chV 6 (.lst n cs) z.pd d,.c (.p (pI 0))],s):=rfl
theorem pf51 (x:Rlp)(hlb:x.lb.length<2^40)(hls:∀ y∈x.lb,y.1.length<2^50∧y.2.length<2^50):Pf E0 51 [.agg (x.pd.map .p)] (encR x):=by
 have hfl:(x.bs.flatMap Bkt.pd).length=x.bs.length*10:=flat_len (k:=10) (fun _=>rfl) _
 have p46:=pf97 x hlb hls
 unfold encR;refine gQ (fn:=Tryz.f51) ?_;simp only[gL,Tryz.ntmps51,Nat.reduceSub,Nat.reduceAdd];refine gY ?_;cases hok:rlpOK x with
 |false =>
  rw[hok] at p46
  rw[if_pos rfl]
  refine gO ?_;refine gM fun K F=>?_;simp only[go_sem];refine gP p46 ?_;simp only[go_sem];apply F;clear F K;refine gG ?_;refine gY ?_;exact wr (gU [.cell 2 96,.tmp 3] [.agg ([.p (pI 0),.nils]++zz0.map .p++[.p (.str [])]),.c (.p (pI 1))])
 |true =>
  rw[hok] at p46
  obtain⟨hk,hw,hne,hbl⟩:=rlpOK_some hok
  rw[if_neg kD]
  generalize hP:packE x.bs bktCols=P;refine Wc.seqR (fun y=>y.ds=[]∧Fs y.e 90 [(1,.v (.c (.ref 0 0))),(2,.v (.c (.ref 1 0)))]∧OA y.s.nx y.s [] [(1,.cells ([.p (pI 0),.nils]++zz0.map .p++[.p (.str [])]) false),(0,.cells (x.pd.map .p) false)]) ?_ ?_
  ·refine gN fun K F=>?_;simp only[go_sem];refine gP p46 ?_;simp only[go_sem];apply F;clear F K;refine gH ?_
   exact⟨rfl,by simp only[go_sem],oW⟩
  rintro⟨e,ds,s1⟩ ⟨rfl,hF,ho⟩
  simp only[Fs] at hF ho
  have g0:=ho.at_ (0,.cells (x.pd.map .p) false) kS
  have g1:=ho.at_ (1,.cells ([.p (pI 0),.nils]++zz0.map .p++[.p (.str [])]) false) kS
  simp only[List.map_cons,List.map_nil,List.cons_append,List.nil_append] at g0 g1;refine Wc.seq ?_;refine Wc.regT fun K F=>?_;simp only[go_sem,hF,g0,o98,x98,o99,x99,List.all_nil,Option.isNone_none];refine wpCall.pf pf99 x99 o99 rfl rfl ?_;simp only[go_sem,hF,g0,o98,x98,o99,x99,List.all_nil,Option.isNone_none];refine call98 (x:=.v (.c (.p (.lst x.bs.length (x.bs.flatMap Bkt.pd))))) (l:=x.bs) (cols:=bktCols) (ho.adv.mono (by simp only[St.nx_adv];omega)) kO ⟨_,rfl⟩ kA (fun j hj=>ixA ti29 rfl ti41 hj hfl kD) bktCols_ok kD (fun hN s' ho' hnx=>?_) (fun ss hS x' s' ho' hnx=>?_)
  ·rw[hP] at hN
   subst hN;simp only[go_sem,hF,g0,o98,x98,o99,x99,List.all_nil,Option.isNone_none]
   refine⟨by rfl,F _ _ ?_⟩
   have g1':=ho'.at_ (1,.cells ([.p (pI 0),.nils]++zz0.map .p++[.p (.str [])]) false) kS
   simp only[List.map_cons,List.map_nil,List.cons_append,List.nil_append] at g1';refine gO ?_;apply gR kG;apply gT kF;apply gS (by simp only[go_sem,hF,g1'];rfl);refine Wc.ret (thenD_ret0 ?_);exact Pf.ret [.cell 2 96,.tmp 3] [.agg ([.p (pI 0),.nils]++zz0.map .p++[.p (.str [])]),.c (.p (pI 4))] rfl rfl (by simp only[go_sem,hF,g1']) rfl
  ·rw[hP] at hS
   subst hS;simp only[go_sem,hF,g0,o98,x98,o99,x99,List.all_nil,Option.isNone_none]
   refine⟨by rfl,F _ _ ?_⟩
   clear F K
   obtain⟨b0,r0,hbs⟩:∃ b0 r0,x.bs=b0::r0:=by
    cases hx:x.bs with
    |nil=>exact absurd hx hne
    |cons a r=>exact⟨a,r,rfl⟩
   have hlen0:0<x.bs.length:=by rw[hbs];simp
   refine gO ?_;apply gR kG;apply gF kF
   have g0':=ho'.at_ (0,.cells (x.pd.map .p) false) kS
   simp only[gm] at g0'
   have hix0:indexAddrD E0 29 (.v (.c (.p (.lst x.bs.length (x.bs.flatMap Bkt.pd))))) (.v (.c (.p (.int .i64 0))))=some (.v (.c (.rp (x.bs.flatMap Bkt.pd) 0))):=ixA ti29 rfl ti41 (j:=0) hlen0 hfl kD
   have hca0:=rpA (off:=0) (cs:=x.bs.flatMap Bkt.pd) (pre:=b0.pd) (rest:=r0.flatMap Bkt.pd) (by rw[hbs];rfl) kO
   refine Wc.seqA (fun y=>∃ k6,y.ds=[]∧Fs y.e 90 [(1,.v (.c (.ref 0 0))),(2,.v (.c (.ref 1 0))),(4,.v (.c x')),(6,.v (.c (.ref k6 0)))]∧OA y.s.nx y.s [(1,.v (.c x'),ss.length,ss.map .str)] [(k6,.cells (b0.pd.map .p) false),(1,.cells ([.p (pI 0),.nils]++zz0.map .p++[.p (.str [])]) false),(0,.cells (x.pd.map .p) false)]) ?_ ?_
   ·apply gR (by simp only[go_sem,hF,g0',hix0,hca0];rfl)
    exact⟨rfl,s'.nx+6,rfl,by simp only[go_sem,hF],by(try simp only[gI]);repeat (first | exact OA.mono ho' kO | refine oN ?_ | refine oA ?_)⟩
   clear hF ho ho' g0 g0' g1 hnx e s1 s'
   rintro⟨e,ds,s1⟩ ⟨k6,rfl,hF,ho⟩
   simp only[Fs] at hF ho
   have g0:=ho.at_ (0,.cells (x.pd.map .p) false) kS
   have g6:=ho.at_ (k6,.cells (b0.pd.map .p) false) kS
   simp only[gm] at g0 g6
   obtain⟨bl,hbl1⟩:∃ bl,x.bs[x.bs.length-1]? = some bl:=⟨x.bs[x.bs.length-1],List.getElem?_eq_getElem kO⟩
   have hixl:=ixA ti29 rfl ti41 (j:=x.bs.length-1) (m:=x.bs.length) (cs:=x.bs.flatMap Bkt.pd) kO hfl kD
   have hcl:∀ s,cellsAt s (.v (.c (.rp (x.bs.flatMap Bkt.pd) ((x.bs.length-1)*10+8))))=some (([pI bl.lt,pI bl.inc]++(x.bs.drop (x.bs.length-1+1)).flatMap Bkt.pd).map .p):=fun s=>by
    refine rpA ?_ (by rw[hfl];omega) s
    rw[← List.drop_drop,drop_flat (f:=Bkt.pd) (k:=10) (fun _=>rfl) hbl1]
    rfl
   have w1:IntKind.i64.wrap ((x.bs.length:Int)-1)=((x.bs.length-1:Nat):Int):=by rw[wi64];omega
   refine Wc.seqA (fun y=>∃ k7,y.ds=[]∧Fs y.e 90 [(1,.v (.c (.ref 0 0))),(2,.v (.c (.ref 1 0))),(4,.v (.c x')),(7,.v (.c (.ref k7 0)))]∧OA y.s.nx y.s [(1,.v (.c x'),ss.length,ss.map .str)] [(k7,.cells [.p (pI x.bs.length),.p (pI b0.ft),.p (pI bl.lt),.p (pI b0.mn),.p (pI b0.mx),.p (.int .u32 0),.p (.int .u32 0),.p (.int .u32 0),.p (.int .u32 0),.p (.int .u32 0),.p (.int .u32 0),.p (.int .u32 0),.p (.int .u32 0)] false),(1,.cells ([.p (pI 0),.nils]++zz0.map .p++[.p (.str [])]) false),(0,.cells (x.pd.map .p) false)]) ?_ ?_
   ·refine Wc.regT fun K F=>?_;simp only[go_sem,hF,g0,g6,hixl,hcl,w1];refine⟨by rw[trOK_eq];rfl,F _ _ ?_⟩;clear F K
    have hs:=ho.sub (L1:=[(1,.v (.c x'),ss.length,ss.map .str)]) (M1:=[(1,.cells ([.p (pI 0),.nils]++zz0.map .p++[.p (.str [])]) false),(0,.cells (x.pd.map .p) false)]) (List.Sublist.refl _) (List.sublist_cons_self _ _)
    exact⟨rfl,s1.nx+19,rfl,by simp only[go_sem,hF],by(try simp only[gI]);repeat (first | exact oM hs | refine oN ?_ | refine oA ?_)⟩
   clear hF ho g0 g6 e s1
   rintro⟨e,ds,s1⟩ ⟨k7,rfl,hF,ho⟩
   simp only[Fs] at hF ho
   have g0:=ho.at_ (0,.cells (x.pd.map .p) false) kS
   simp only[gm] at g0;refine Wc.seqA (fun y=>y.ds=[]∧Fs y.e 90 [(1,.v (.c (.ref 0 0))),(2,.v (.c (.ref 1 0))),(4,.v (.c x')),(7,.v (.c (.ref k7 0)))]∧OA y.s.nx y.s [(1,.v (.c x'),ss.length,ss.map .str)] [(k7,.cells [.p (pI x.bs.length),.p (pI b0.ft),.p (pI bl.lt),.p (pI (x.bs.foldl (fun m y=>minI m y.mn) b0.mn)),.p (pI (x.bs.foldl (fun m y=>maxI m y.mx) b0.mx)),.p (.int .u32 0),.p (.int .u32 0),.p (.int .u32 0),.p (.int .u32 0),.p (.int .u32 0),.p (.int .u32 0),.p (.int .u32 0),.p (.int .u32 0)] false),(1,.cells ([.p (pI 0),.nils]++zz0.map .p++[.p (.str [])]) false),(0,.cells (x.pd.map .p) false)]) ?_ ?_
   ·apply gS kC;refine Wc.block (Wc.loop (fun c y=>∃ i:Nat,c=x.bs.length-i∧i≤x.bs.length∧y.ds=[]∧Fs y.e 90 [(1,.v (.c (.ref 0 0))),(2,.v (.c (.ref 1 0))),(4,.v (.c x')),(7,.v (.c (.ref k7 0))),(50,P' (.lst x.bs.length (x.bs.flatMap Bkt.pd))),(51,P' (pI x.bs.length)),(52,P' (pI i))]∧OA y.s.nx y.s [(1,.v (.c x'),ss.length,ss.map .str)] [(k7,.cells [.p (pI x.bs.length),.p (pI b0.ft),.p (pI bl.lt),.p (pI ((x.bs.take i).foldl (fun m y=>minI m y.mn) b0.mn)),.p (pI ((x.bs.take i).foldl (fun m y=>maxI m y.mx) b0.mx)),.p (.int .u32 0),.p (.int .u32 0),.p (.int .u32 0),.p (.int .u32 0),.p (.int .u32 0),.p (.int .u32 0),.p (.int .u32 0),.p (.int .u32 0)] false),(1,.cells ([.p (pI 0),.nils]++zz0.map .p++[.p (.str [])]) false),(0,.cells (x.pd.map .p) false)]) ?_ (k:=x.bs.length) ?_)
    ·clear hF ho g0 e s1;rintro c ⟨e,ds,s1⟩ ⟨i,rfl,hi,rfl,hF,ho⟩;simp only[Fs] at hF ho;apply gS kG;refine Wc.seq (Wc.cond (t:=decide ((i:Int)<x.bs.length)) kF (fun hc=>?_) (fun hc=>?_))
     ·have hil:i<x.bs.length:=gi hc
      obtain⟨b,hb⟩:=gE hil
      have hix:=ixA ti29 rfl ti41 (j:=i) (m:=x.bs.length) (cs:=x.bs.flatMap Bkt.pd) hil hfl kD
      have hca:=rpA (off:=i*10) (drop_flat (f:=Bkt.pd) (k:=10) (fun _=>rfl) hb) (by rw[hfl];omega)
      have e1:(x.bs.take (i+1)).foldl (fun m y=>minI m y.mn) b0.mn=minI ((x.bs.take i).foldl (fun m y=>minI m y.mn) b0.mn) b.mn:=by rw[take_snoc hb,List.foldl_append];rfl
      have e2:(x.bs.take (i+1)).foldl (fun m y=>maxI m y.mx) b0.mx=maxI ((x.bs.take i).foldl (fun m y=>maxI m y.mx) b0.mx) b.mx:=by rw[take_snoc hb,List.foldl_append];rfl
      generalize hm1:(x.bs.take i).foldl (fun m y=>minI m y.mn) b0.mn=m1 at *;generalize hm2:(x.bs.take i).foldl (fun m y=>maxI m y.mx) b0.mx=m2 at *;refine Wc.skip (Wc.seq (Wc.block (Wc.seqA (fun y=>∃ k9,y.ds=[]∧Fs y.e 90 [(1,.v (.c (.ref 0 0))),(2,.v (.c (.ref 1 0))),(4,.v (.c x')),(7,.v (.c (.ref k7 0))),(50,P' (.lst x.bs.length (x.bs.flatMap Bkt.pd))),(51,P' (pI x.bs.length)),(52,P' (pI i)),(9,.v (.c (.ref k9 0)))]∧OA y.s.nx y.s [(1,.v (.c x'),ss.length,ss.map .str)] [(k9,.cells (b.pd.map .p) false),(k7,.cells [.p (pI x.bs.length),.p (pI b0.ft),.p (pI bl.lt),.p (pI m1),.p (pI m2),.p (.int .u32 0),.p (.int .u32 0),.p (.int .u32 0),.p (.int .u32 0),.p (.int .u32 0),.p (.int .u32 0),.p (.int .u32 0),.p (.int .u32 0)] false),(1,.cells ([.p (pI 0),.nils]++zz0.map .p++[.p (.str [])]) false),(0,.cells (x.pd.map .p) false)]) ?_ ?_)))
      ·apply gR (by simp only[go_sem,hF,hix,hca];rfl)
       exact⟨rfl,s1.nx+3,rfl,by simp only[go_sem,hF],oZ⟩
      clear hF ho e s1
      rintro⟨e,ds,s1⟩ ⟨k9,rfl,hF,ho⟩
      simp only[Fs] at hF ho
      have g9:=ho.at_ (k9,.cells (b.pd.map .p) false) kS
      have g7:=ho.at_ (k7,.cells [.p (pI x.bs.length),.p (pI b0.ft),.p (pI bl.lt),.p (pI m1),.p (pI m2),.p (.int .u32 0),.p (.int .u32 0),.p (.int .u32 0),.p (.int .u32 0),.p (.int .u32 0),.p (.int .u32 0),.p (.int .u32 0),.p (.int .u32 0)] false) kS
      simp only[gm] at g9 g7
      have hne79:(k7=k9)=False:=by
       have:=ho.dism
       simp only[List.pairwise_cons,List.mem_cons] at this
       have:=this.1 (k7,.cells [.p (pI x.bs.length),.p (pI b0.ft),.p (pI bl.lt),.p (pI m1),.p (pI m2),.p (.int .u32 0),.p (.int .u32 0),.p (.int .u32 0),.p (.int .u32 0),.p (.int .u32 0),.p (.int .u32 0),.p (.int .u32 0),.p (.int .u32 0)] false) (.inl rfl)
       simp only[eq_iff_iff,iff_false];exact fun e=>this e.symm
      apply gS (by simp only[go_sem,hF,g9,g7,foldO];rfl);apply gR (by simp only[go_sem,hF,g9,g7,foldO,hne79];rfl);apply gR kX
      refine⟨x.bs.length-(i+1),kO,i+1,rfl,kO,rfl,by simp only[go_sem,hF],?_⟩
      rw[e1,e2]
      have hs:=ho.sub (L1:=[(1,.v (.c x'),ss.length,ss.map .str)]) (M1:=[(k7,.cells [.p (pI x.bs.length),.p (pI b0.ft),.p (pI bl.lt),.p (pI m1),.p (pI m2),.p (.int .u32 0),.p (.int .u32 0),.p (.int .u32 0),.p (.int .u32 0),.p (.int .u32 0),.p (.int .u32 0),.p (.int .u32 0),.p (.int .u32 0)] false),(1,.cells ([.p (pI 0),.nils]++zz0.map .p++[.p (.str [])]) false),(0,.cells (x.pd.map .p) false)]) (List.Sublist.refl _) (List.sublist_cons_self _ _)
      simp only[St.nx_put,St.nx_adv];(repeat refine oA ?_);refine OA.ofS (M1:=[]) (k:=k7) ?_;repeat (first | exact⟨_,OA.mono hs kO⟩ | refine OAs.adv ?_ | refine OAs.put ?_)
     ·have hil:i=x.bs.length:=by have:=of_decide_eq_false hc;omega
      subst hil
      rw[List.take_length] at ho
      exact Wc.exit ⟨rfl,rfl,by simp only[go_sem,hF],oZ⟩
    ·exact⟨0,rfl,kO,rfl,by simp only[go_sem,hF],oZ⟩
   clear hF ho g0 e s1
   rintro⟨e,ds,s1⟩ ⟨rfl,hF,ho⟩
   simp only[Fs] at hF ho
   have g0:=ho.at_ (0,.cells (x.pd.map .p) false) kS
   have g1:=ho.at_ (1,.cells ([.p (pI 0),.nils]++zz0.map .p++[.p (.str [])]) false) kS
   have g7:=ho.at_ (k7,.cells [.p (pI x.bs.length),.p (pI b0.ft),.p (pI bl.lt),.p (pI (x.bs.foldl (fun m y=>minI m y.mn) b0.mn)),.p (pI (x.bs.foldl (fun m y=>maxI m y.mx) b0.mx)),.p (.int .u32 0),.p (.int .u32 0),.p (.int .u32 0),.p (.int .u32 0),.p (.int .u32 0),.p (.int .u32 0),.p (.int .u32 0),.p (.int .u32 0)] false) kS
   simp only[List.map_cons,List.map_nil,List.cons_append,List.nil_append] at g0 g1 g7
   have hpu:=(ho.own _ (List.mem_cons_self ..)).purS
   have hz:rlpZ x.bs=⟨x.bs.length,b0.ft,bl.lt,x.bs.foldl (fun m y=>minI m y.mn) b0.mn,x.bs.foldl (fun m y=>maxI m y.mx) b0.mx⟩:=by
    have hl:x.bs.getLast? = some bl:=by rw[List.getLast?_eq_getElem?];exact hbl1
    rw[hbs] at hl ⊢
    rw[List.getLast?_eq_some_getLast kS] at hl
    simp only[Option.some.injEq] at hl;simp only[rlpZ,hl]
   have hap:(appV (appV [] x.k).1 x.w).1.length≤262144:=by
    have a1:(appV [] x.k).1.length≤10:=by
     unfold appV
     split
     ·simp
     ·rw[List.nil_append];exact vb_len10 kO
    unfold appV at a1 ⊢
    split
    ·simp
    ·simp only[List.length_append]
     have:=vb_len10 (n:=x.w.toNat) kO
     omega
   have hpl:∀ q∈ss,q.length≤35184372088832:=by
    rw[packE_cols] at hP
    refine jn_pre hP fun c hc hc0=>?_
    obtain⟨cc,_,rfl⟩:=List.mem_map.1 hc
    have:=encF_len hc0
    rw[List.length_map] at this
    omega
   have hsl:=packE_len hP
   have p41:=pf101 6 x.lb.length (x.lb.flatMap lbP) (pI x.bs.length) (pI b0.ft) (pI bl.lt) (pI (x.bs.foldl (fun m y=>minI m y.mn) b0.mn)) (pI (x.bs.foldl (fun m y=>maxI m y.mx) b0.mx)) (.int .u32 0) (.int .u32 0) (.int .u32 0) (.int .u32 0) (.int .u32 0) (.int .u32 0) (.int .u32 0) (.int .u32 0) (appV (appV [] x.k).1 x.w).1 ss hap hpl (by have:bktCols.length=10:=rfl;omega)
   rw[hz]
   have p49b := pf100 (appV [] x.k).1 x.w (by
    unfold appV
    split
    ·simp
    ·rw[List.nil_append];have:=vb_len10 (n:=x.k.toNat) kO;simp only;omega)
   generalize appV (appV [] x.k).1 x.w=T2 at *;refine gN fun K F=>?_;simp only[go_sem,hF,g0];refine gP (pf100 [] x.k kS) ?_;simp only[go_sem,hF,g0];apply F;clear F K;refine gN fun K F=>?_;simp only[go_sem,hF,g0];refine gP p49b ?_;simp only[go_sem,hF,g0];apply F;clear F K;refine Wc.seq ?_;cases hj:jn T2.1 ss with
   |none =>
    rw[hj] at p41
    simp only[finE,hj] at p41 ⊢;refine gM fun K F=>?_;simp only[go_sem,hF,g0,g7];refine wpCall.pf p41 kR kR rfl (purVs_5 hpu _) ?_;simp only[go_sem,hF,g0,g1,g7];apply F;clear F K;exact wr (Pf.ret [.cell 2 96,.tmp 3] [noCh,.c (.p (pI 4))] rfl rfl (by simp only[go_sem,hF];try rfl) (purNo _))
   |some d =>
    rw[hj] at p41
    simp only[finE,hj] at p41 ⊢;refine gM fun K F=>?_;simp only[go_sem,hF,g0,g7];refine wpCall.pf p41 kR kR rfl (purVs_5 hpu _) ?_;simp only[go_sem,hF,g0,g1,g7];apply F;clear F K;exact wr (Pf.ret [.cell 2 96,.tmp 3] [chV 6 (.lst x.lb.length (x.lb.flatMap lbP)) (Zo.pd ⟨x.bs.length,b0.ft,bl.lt,x.bs.foldl (fun m y=>minI m y.mn) b0.mn,x.bs.foldl (fun m y=>maxI m y.mx) b0.mx⟩) d,.c (.p (pI 0))] rfl rfl (by simp only[go_sem,hF];try rfl) (purCh _ _ _ _ _))
theorem pf45 (n lo hi:Int):Pf E0 45 [.c (.p (.int .i64 n)),.c (.p (.int .i64 lo)),.c (.p (.int .i64 hi))] (P' (.bool (btw n lo hi))):=by
 refine gQ (fn:=Tryz.f45) ?_;simp only[gL,Tryz.ntmps45,Nat.reduceSub,Nat.reduceAdd];refine gY ?_;refine Wc.seq ?_
 by_cases h:lo≤n
 ·apply gR kB;exact wr (gV [.tmp 6] [.c (.p (.bool (btw n lo hi)))] (by simp only[go_sem,btw,h,Bool.true_and]))
 ·apply gR kB;exact wr (gV [.tmp 6] [.c (.p (.bool (btw n lo hi)))] (by simp only[go_sem,btw,h,Bool.false_and]))
theorem pf153 (a b:Int)(ha : -1099511627776≤a∧a≤1099511627776)(hb : -1099511627776≤b∧b≤1099511627776):Pf E0 153 [.c (.p (pI a)),.c (.p (pI b))] (P' (pI (stepV a b))):=by
 have e1:IntKind.i64.wrap (b-a)=b-a:=by rw[wi64];omega
 refine gQ (fn:=Tryz.f153) ?_;simp only[gL,Tryz.ntmps153,Nat.reduceSub,Nat.reduceAdd];refine gY ?_;refine gO ?_;refine gZ ?_;refine Wc.cond (t:=decide (b<a)) kA (fun hc=>?_) (fun hc=>?_)
 ·have h:b<a:=of_decide_eq_true hc
  refine gY ?_
  rw[show stepV a b=b from if_pos h]
  exact wr (gU [.tmp 4] [.c (.p (pI b))])
 ·have h:¬ b<a:=of_decide_eq_false hc
  refine Wc.skip (Wc.seq ?_);refine gZ ?_
  rw[show stepV a b=b-a from if_neg h]
  exact wr (gV [.tmp 4] [.c (.p (pI (b-a)))] (by simp only[go_sem,e1]))
theorem pf47 (x:I2)(w:Int)(hx:1≤x.1∧x.1≤1099511627776)(hw:1≤w∧w≤1099511627776):Pf E0 47 [.agg [.p (pI x.1),.p (pI x.2)],.c (.p (pI w))] (.v (.agg ((single w x).pd.map .p))):=by
 have hw0:(w=0)=False:=by simp;omega
 have hs:=start_le hw.1 hx.1
 have e1:IntKind.i64.wrap (x.1-1)=x.1-1:=by rw[wi64];omega
 have e2:IntKind.i64.wrap ((x.1-1).tdiv w)=(x.1-1).tdiv w:=by
  have h1:0≤(x.1-1).tdiv w:=Int.tdiv_nonneg kO kO
  have h2:(x.1-1).tdiv w≤x.1-1:=by rw[Int.tdiv_eq_ediv_of_nonneg kO];exact Int.ediv_le_self _ kO
  rw[wi64];omega
 have e3:IntKind.i64.wrap ((x.1-1).tdiv w*w)=(x.1-1).tdiv w*w:=by
  have:startOf w x.1=(x.1-1).tdiv w*w:=rfl
  rw[wi64];omega
 refine gQ (fn:=Tryz.f47) ?_;simp only[gL,Tryz.ntmps47,Nat.reduceSub,Nat.reduceAdd];refine gY ?_;refine Wc.seq ?_;refine Wc.regT fun K F=>?_;simp only[go_sem,hw0,e1,e2,e3]
 refine⟨by rfl,F _ _ ?_⟩
 exact wr (gV [.cell 4 41] [.agg ((single w x).pd.map .p)] (by simp only[go_sem];try rfl))
def chkR (x:Rlp):Int:=if rlpOK x then 0 else 1
theorem pf23 (x:Rlp)(hlb:x.lb.length<2^40)(hls:∀ y∈x.lb,y.1.length<2^50∧y.2.length<2^50):Pf E0 23 [.agg (x.pd.map .p)] (P' (pI (chkR x))):=by
 have p:=pf54 x hlb hls
 unfold chkR;refine gQ (fn:=Tryz.f23) ?_;simp only[gL,Tryz.ntmps23,Nat.reduceSub,Nat.reduceAdd];refine gY ?_;refine gO ?_;cases hok:rlpOK x with
 |false =>
  rw[hok] at p
  refine gM fun K F=>?_;simp only[go_sem];refine gP p ?_;simp only[go_sem];apply F;clear F K;refine gG ?_;refine gY ?_;exact wr (gU [.tmp 2] [.c (.p (pI 1))])
 |true =>
  rw[hok] at p
  refine gM fun K F=>?_;simp only[go_sem];refine gP p ?_;simp only[go_sem];apply F;clear F K;refine gH ?_;refine gY ?_;exact wr (gU [.tmp 2] [.c (.p (pI 0))])
theorem encR_form (x:Rlp):∃(c:List C) (e:Int),encR x=.tup [.agg c,.c (.p (pI e))]∧c.length=16∧((e==1) = !rlpOK x):=by
 unfold encR;cases hok:rlpOK x with
 |false=>exact⟨_,1,by rw[if_pos rfl],rfl,rfl⟩
 |true =>
  rw[if_neg kS]
  cases packE x.bs bktCols with
  |none=>exact⟨_,4,rfl,rfl,rfl⟩
  |some ss =>
   simp only[finE];cases jn (appV (appV [] x.k).1 x.w).1 ss with
   |none=>exact⟨_,4,rfl,rfl,rfl⟩
   |some d=>exact⟨_,0,rfl,rfl,rfl⟩
theorem pf19 (x:Rlp)(hlb:x.lb.length<2^40)(hls:∀ y∈x.lb,y.1.length<2^50∧y.2.length<2^50):Pf E0 19 [.agg (x.pd.map .p)] (P' (pI (chkR x))):=by
 have p:=pf51 x hlb hls
 obtain⟨c,e,he,hl,h1⟩:=encR_form x
 rw[he] at p
 obtain⟨c0,c1,c2,c3,c4,c5,c6,c7,c8,c9,c10,c11,c12,c13,c14,c15,rfl⟩:∃ c0 c1 c2 c3 c4 c5 c6 c7 c8 c9 c10 c11 c12 c13 c14 c15,c=[c0,c1,c2,c3,c4,c5,c6,c7,c8,c9,c10,c11,c12,c13,c14,c15]:=by
  match c,hl with
  |[c0,c1,c2,c3,c4,c5,c6,c7,c8,c9,c10,c11,c12,c13,c14,c15],_=>exact⟨_,_,_,_,_,_,_,_,_,_,_,_,_,_,_,_,rfl⟩
 unfold chkR;refine gQ (fn:=Tryz.f19) ?_;simp only[gL,Tryz.ntmps19,Nat.reduceSub,Nat.reduceAdd];refine gY ?_;refine gO ?_;refine gM fun K F=>?_;simp only[go_sem];refine gP p ?_;simp only[go_sem];apply F;clear F K;refine gY ?_;refine Wc.cond (t:=(e==1)) kA (fun hc=>?_) (fun hc=>?_)
 ·have hok:rlpOK x=false:=by rw[hc] at h1;simpa using h1
  refine gY ?_
  rw[hok]
  exact wr (gU [.tmp 2] [.c (.p (pI 1))])
 ·have hok:rlpOK x=true:=by rw[hc] at h1;simpa using h1
  refine Wc.skip (Wc.seq ?_);refine gZ ?_
  rw[hok]
  exact wr (gU [.tmp 2] [.c (.p (pI 0))])
theorem o153:E0.opn 153=false:=by kernel_rfl
theorem x153:E0.xt 153=none:=by kernel_rfl
theorem minB2 (a b:Int):foldO minD (.v (.c (.p (.int .i64 a)))) [.v (.c (.p (.int .i64 b)))]=some (.v (.c (.p (.int .i64 (minI a b))))):=by
 simp only[foldO,minD,P',Option.some.injEq,D.v.injEq,V.c.injEq,C.p.injEq,Pd.int.injEq,true_and,decide_eq_true_eq,if_true,minI]
theorem maxB2 (a b:Int):foldO maxD (.v (.c (.p (.int .i64 a)))) [.v (.c (.p (.int .i64 b)))]=some (.v (.c (.p (.int .i64 (maxI a b))))):=by
 simp only[foldO,maxD,P',Option.some.injEq,D.v.injEq,V.c.injEq,C.p.injEq,Pd.int.injEq,true_and,decide_eq_true_eq,if_true,maxI]
theorem pf95 (a b:Bkt)(k:Int)(hv:(-1099511627776≤a.l∧a.l≤1099511627776)∧(-1099511627776≤b.f∧b.f≤1099511627776))(hi : -4611686018427387904≤a.inc+b.inc∧a.inc+b.inc≤4611686018427387904)
  (hc : -4611686018427387904≤a.c+b.c∧a.c+b.c≤4611686018427387904) (hs : -9223372036854775808≤a.s+b.s∧a.s+b.s≤9223372036854775807):Pf E0 95 [.agg (a.pd.map .p),.agg (b.pd.map .p),.c (.p (pI k))] (.v (.agg ((joinB k a b).pd.map .p))):=by
 have p:=pf153 a.l b.f hv.1 hv.2
 have hst : -2199023255552≤stepV a.l b.f∧stepV a.l b.f≤2199023255552:=by unfold stepV;split<;>omega
 have e1:IntKind.i64.wrap (a.inc+b.inc)=a.inc+b.inc:=by rw[wi64];omega
 have e2:IntKind.i64.wrap (a.inc+b.inc+stepV a.l b.f)=a.inc+b.inc+stepV a.l b.f:=by rw[wi64];omega
 have e3:IntKind.i64.wrap (a.c+b.c)=a.c+b.c:=by rw[wi64];omega
 have e4:IntKind.i64.wrap (a.s+b.s)=a.s+b.s:=by rw[wi64];omega
 refine gQ (fn:=Tryz.f95) ?_;simp only[gL,Tryz.ntmps95,Nat.reduceSub,Nat.reduceAdd];refine gY ?_
 obtain⟨inc,hinc⟩:∃ inc,inc=(if k=2 then a.inc+b.inc+stepV a.l b.f else a.inc):=⟨_,rfl⟩
 have hF:True:=trivial
 refine Wc.seqR (fun y=>y.ds=[]∧Fs y.e 52 [(3,.v (.c (.ref 0 0))),(4,.v (.c (.ref 1 0))),(6,.v (.c (.ref 2 0)))]∧y.s.get 2=some (.cells ((List.replicate 10 (pI 0)).map .p) false)∧y.s.get 1=some (.cells (b.pd.map .p) false)∧y.s.get 0=some (.cells ([pI a.st,pI a.c,pI a.s,pI a.mn,pI a.mx,pI a.f,pI a.l,pI a.ft,pI a.lt,pI inc].map .p) false)) ?_ ?_
 ·refine Wc.seq ?_
  by_cases hk:k=2
  ·subst hk;refine gZ ?_;refine gG ?_;refine Wc.regT fun K F=>?_;simp only[go_sem,e1,e2];refine gP p ?_;simp only[go_sem,e1,e2,o153,x153]
   refine⟨by rfl,F _ _ ?_⟩
   rw[if_pos rfl] at hinc
   subst hinc
   exact⟨rfl,by simp only[go_sem],by simp only[go_sem],by simp only[go_sem],by simp only[go_sem]⟩
  ·have hkd:(k==2)=false:=by simpa using hk
   rw[if_neg hk] at hinc
   subst hinc;refine gZ ?_;apply gF (by simp only[go_sem];exact congrArg some hkd)
   exact⟨rfl,by simp only[go_sem],by simp only[go_sem],by simp only[go_sem],by simp only[go_sem]⟩
 clear hF
 rintro⟨e,ds,s1⟩ ⟨rfl,hF,g2,g1,g0⟩
 simp only[Fs] at hF;simp only[gm] at g0 g1 g2;refine Wc.seq ?_;refine Wc.regT fun K F=>?_;simp only[go_sem,hF,g0,g1,e3,e4]
 refine⟨by rfl,F _ _ ?_⟩
 refine Wc.seq ?_;refine Wc.regT fun K F=>?_;simp only[go_sem,hF,g0,g1,minB2,maxB2]
 refine⟨by rfl,F _ _ ?_⟩
 refine Wc.seq ?_;refine Wc.regT fun K F=>?_;simp only[go_sem,hF,g0,g1]
 refine⟨by rfl,F _ _ ?_⟩
 apply gS (by simp only[go_sem,hF,g2];rfl);exact wr (gV [.cell 6 41] [.agg ((joinB k a b).pd.map .p)] (by simp only[go_sem,hF,joinB,hinc];try rfl))
end Go.Proofs.YtedcnhbblgmdnaaGreat.Ab
