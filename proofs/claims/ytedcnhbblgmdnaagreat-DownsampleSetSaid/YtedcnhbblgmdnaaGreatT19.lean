/- A part of the proof. -/
import Derived.Test.YtedcnhbblgmdnaaGreatT18
set_option maxHeartbeats 8000000
set_option maxRecDepth 10000
set_option linter.unusedSimpArgs false
set_option linter.unusedVariables false
namespace Go.Proofs.YtedcnhbblgmdnaaGreat.Ab
def agrB (h:Hst)(q:Nat)(t:Int):Bool:=if h.c≠t then false else if t=0 then decide (h.s=0)&&(decide (h.mn=0)&&decide (h.mx=0)) else match h.bs[0]?,h.bs[h.bs.length-1]? with
 |some f,some l=>agr1 q h.s h.mn h.mx h.bs f l t
 |_,_=>false
theorem OA.permM {b:Nat}{s:St}{L:List (Nat×D×Nat×List Pd)}{M M':List (Nat×Ob)}(h:OA b s L M)(hp:M.Perm M'):OA b s L M' :=
 ⟨h.free,h.own,h.dis,fun y hy=>h.at_ y (hp.mem_iff.2 hy),fun y hy=>h.nof y (hp.mem_iff.2 hy),(hp.pairwise_iff (fun hxy e=>hxy e.symm)).1 h.dism⟩
theorem St.adv_adv (s:St)(m n:Nat):(s.adv m).adv n=s.adv (m+n):=by simp[St.adv,Nat.add_assoc]
theorem o247:E0.opn 247=false:=by kernel_rfl
theorem x247:E0.xt 247=none:=by kernel_rfl
theorem pf212 (h:Hst)(t:Int)(q:Nat)(hq:q≤8)(hp:h.p=q)(hb:BsOK q h.bs)(hn:h.bs.length≤500)(ht:t=cnt h.bs)(ht2:t≤1048576):Pf E0 212 [.agg (h.pd.map .p),.c (.p (pI t))] (P' (.bool (agrB h q t))):=by
 have hfl:(h.bs.flatMap p2).length=h.bs.length*2:=flat_len (k:=2) (fun _=>rfl) _
 refine gQ (fn:=Tryz.f212) ?_;simp only[gL,Tryz.ntmps212,Nat.reduceSub,Nat.reduceAdd];refine gY ?_;refine gO ?_;refine gZ ?_;refine Wc.cond (t:=(h.c != t)) kA (fun hc=>?_) (fun hc=>?_)
 ·have hc':h.c≠t:=by simpa using hc
  have e:agrB h q t=false:=by unfold agrB;rw[if_pos hc']
  rw[e]
  refine gY ?_;exact wr (gU [.tmp 4] [.c (.p (.bool false))])
 have hc':¬ h.c≠t:=by simpa using hc
 refine Wc.skip (Wc.seq (Wc.seq ?_));refine gZ ?_;refine Wc.cond (t:=(t==0)) kA (fun hc=>?_) (fun hc=>?_)
 ·have ht0:t=0:=by simpa using hc
  have e:agrB h q t=(decide (h.s=0)&&(decide (h.mn=0)&&decide (h.mx=0))):=by unfold agrB;rw[if_neg hc',if_pos ht0]
  rw[e]
  refine Wc.seq ?_
  by_cases h1:h.s=0
  ·have b1:(h.s==0)=true:=by simpa using h1
   by_cases h2:h.mn=0
   ·have b2:(h.mn==0)=true:=by simpa using h2
    apply gR (by simp only[go_sem,b1,b2];rfl)
    rw[show(decide (h.s=0)&&(decide (h.mn=0)&&decide (h.mx=0)))=(h.mx==0) by rw[decide_eq_true h1,decide_eq_true h2,Bool.true_and,Bool.true_and];rfl]
    exact wr (gV [.tmp 4] [.c (.p (.bool (h.mx==0)))] (by simp only[go_sem,b1,b2]))
   ·have b2:(h.mn==0)=false:=by simpa using h2
    apply gR (by simp only[go_sem,b1,b2];rfl)
    rw[show(decide (h.s=0)&&(decide (h.mn=0)&&decide (h.mx=0)))=false by simp[h2]]
    exact wr (gV [.tmp 4] [.c (.p (.bool false))] (by simp only[go_sem,b1,b2]))
  ·have b1:(h.s==0)=false:=by simpa using h1
   apply gR (by simp only[go_sem,b1];rfl)
   rw[show(decide (h.s=0)&&(decide (h.mn=0)&&decide (h.mx=0)))=false by simp[h1]]
   exact wr (gV [.tmp 4] [.c (.p (.bool false))] (by simp only[go_sem,b1]))
 have ht0:¬ t=0:=by simpa using hc
 have hne:h.bs≠[]:=fun e=>by rw[e] at ht;exact ht0 (by rw[ht];rfl)
 have hl0:0<h.bs.length:=List.length_pos_iff.2 hne
 obtain⟨f,hf⟩:=gE hl0
 obtain⟨l,hl⟩:∃ l,h.bs[h.bs.length-1]? = some l:=⟨h.bs[h.bs.length-1],List.getElem?_eq_getElem kO⟩
 have e:agrB h q t=agr1 q h.s h.mn h.mx h.bs f l t:=by unfold agrB;rw[if_neg hc',if_neg ht0,hf,hl]
 rw[e]
 clear e;refine Wc.skip (Wc.seq ?_)
 have hif:=ixA ti148 rfl ti205 (j:=0) (m:=h.bs.length) (cs:=h.bs.flatMap p2) hl0 hfl kD
 have hcf:=rpA (off:=0*2) (drop_flat (f:=p2) (k:=2) (fun _=>rfl) hf) kO
 rw[show((0:Nat):Int)=0 from rfl,Nat.zero_mul] at hif
 rw[Nat.zero_mul] at hcf
 have hil:=ixA ti148 rfl ti205 (j:=h.bs.length-1) (m:=h.bs.length) (cs:=h.bs.flatMap p2) kO hfl kD
 have hcl:=rpA (off:=(h.bs.length-1)*2) (drop_flat (f:=p2) (k:=2) (fun _=>rfl) hl) (by rw[hfl];omega)
 have el1:IntKind.i64.wrap ((h.bs.length:Int)-1)=((h.bs.length-1:Nat):Int):=by rw[wi64];omega
 apply gR (by simp only[go_sem,hif,hcf];rfl)
 refine Wc.seqA (fun y => ∃ k5 k6, y.ds = [] ∧ y.e.length = 147 ∧ y.e.getD 1 .junk = P' (pI t) ∧ y.e.getD 2 .junk = .v (.c (.ref 0 0)) ∧ y.e.getD 5 .junk = .v (.c (.ref k5 0)) ∧ y.e.getD 6 .junk = .v (.c (.ref k6 0)) ∧
  OA y.s.nx y.s [] [(k6,.cells ((p2 l).map .p) false),(k5,.cells ((p2 f).map .p) false),(0,.cells (h.pd.map .p) false)]) ?_ ?_
 ·apply gR (by simp only[go_sem,hil,hcl,el1,hif,hcf];rfl)
  refine⟨rfl,12,22,rfl,rfl,rfl,rfl,rfl,rfl,?_⟩
  have o0:=(s00_oa.adv (n:=2)).new (k:=0) (o:=.cells (h.pd.map .p) false) (Nat.le_refl _) rfl
  have o1:=(((o0.adv (n:=4)).adv (n:=2)).adv (n:=6)).new (k:=12) (o:=.cells [.p (.int .i64 0),.p (.int .i64 0)] false) kD rfl
  have o2:=OA.set (M1:=[]) (o':=.cells ((p2 f).map .p) false) o1 rfl
  have o3:=(o2.adv (n:=10)).new (k:=22) (o:=.cells [.p (.int .i64 0),.p (.int .i64 0)] false) kD rfl
  have o4:=OA.set (M1:=[]) (o':=.cells ((p2 l).map .p) false) o3 rfl
  exact o4.mono kY
 rintro⟨e,ds,s1⟩ ⟨k5,k6,rfl,hlen,h1,h2,h5,h6,ho⟩
 simp only at hlen h1 h2 h5 h6 ho
 have g0:=ho.at_ (0,.cells (h.pd.map .p) false) kS
 have g5:=ho.at_ (k5,.cells ((p2 f).map .p) false) kS
 have g6:=ho.at_ (k6,.cells ((p2 l).map .p) false) kS
 simp only[gm] at g0 g5 g6
 have hp0:h.p=(q:Int):=hp
 have bad:agr1 q h.s h.mn h.mx h.bs f l t=false→∀ {e:List D} {ro:Option Nat} {s:St} {K:Ex→Fr→Prop},True:=fun _ _ _ _ _=>trivial
 refine Wc.seqR (fun y=>(0≤h.mn∧h.mn≤mxv∧0≤h.mx∧h.mx≤mxv∧h.mn≤h.mx)∧y.ds=[]∧y.e.length=147∧y.e.getD 1 .junk=P' (pI t)∧y.e.getD 2 .junk=.v (.c (.ref 0 0))∧y.e.getD 5 .junk=.v (.c (.ref k5 0))∧y.e.getD 6 .junk=.v (.c (.ref k6 0))∧∃ n,y.s=s1.adv n) ?_ ?_
 ·have b7:¬ (0≤h.mn∧h.mn≤mxv∧0≤h.mx∧h.mx≤mxv∧h.mn≤h.mx)→agr1 q h.s h.mn h.mx h.bs f l t=false:=fun hn7=>by
   unfold agr1;rw[if_pos kO]
  have hM:mxv=1099511627776:=rfl
  refine gN fun K F=>?_;simp only[go_sem,hlen,h1,h2,h5,h6,g0,g5,g6];refine gP (pf248 h.mn) ?_
  by_cases v1:0≤h.mn∧h.mn≤1099511627776
  ·rw[decide_eq_true v1]
   simp only[go_sem,hlen,h1,h2,h5,h6,g0,g5,g6];refine gP (pf248 h.mx) ?_
   by_cases v2:0≤h.mx∧h.mx≤1099511627776
   ·rw[decide_eq_true v2]
    simp only[go_sem,hlen,h1,h2,h5,h6,g0,g5,g6];apply F;clear F K;refine Wc.cond (t:=decide (h.mx<h.mn)) kL (fun hc=>?_) (fun hc=>?_)
    ·have hc3:h.mx<h.mn:=by simpa using hc
     apply gS kM
     rw[b7 kO]
     exact wr (gV [.tmp 4] [.c (.p (.bool false))] kL)
    ·have hc3:¬ h.mx<h.mn:=by simpa using hc
     exact Wc.skip ⟨kO,rfl,by simp only[go_sem,hlen],by simp only[go_sem,hlen,h1],by simp only[go_sem,hlen,h2],by simp only[go_sem,hlen,h5],by simp only[go_sem,hlen,h6],_,rfl⟩
   ·rw[decide_eq_false v2]
    simp only[go_sem,hlen,h1,h2,h5,h6,g0,g5,g6];apply F;clear F K;apply gT kL;apply gS kM
    rw[b7 kO]
    exact wr (gV [.tmp 4] [.c (.p (.bool false))] kL)
  ·rw[decide_eq_false v1]
   simp only[go_sem,hlen,h1,h2,h5,h6,g0,g5,g6];apply F;clear F K;apply gT kL;apply gS kM
   rw[b7 kO]
   exact wr (gV [.tmp 4] [.c (.p (.bool false))] kL)
 clear bad hlen h1 h2 h5 h6 e
 rintro⟨e,ds,s2⟩ ⟨⟨m0,m1,m2,m3,m4⟩,rfl,hlen,h1,h2,h5,h6,n1,rfl⟩
 simp only at hlen h1 h2 h5 h6;simp only[mxv] at m1 m3
 obtain⟨a,ea⟩:∃ a:Nat,h.mn=(a:Int):=⟨h.mn.toNat,kO⟩
 obtain⟨b,eb⟩:∃ b:Nat,h.mx=(b:Int):=⟨h.mx.toNat,kO⟩
 have ta:h.mn.toNat=a:=kO
 have tb:h.mx.toNat=b:=kO
 have eA:agr1 q h.s h.mn h.mx h.bs f l t=if (ix q a:Int)≠f.1∨(ix q b:Int)≠l.1 then false else if t=1∧h.mn≠h.mx then false else decide (leastP q h.mn h.mx h.bs l≤h.s)&&decide (h.s≤greatP q h.mn h.mx h.bs f):=by
  have hM:mxv=1099511627776:=rfl
  unfold agr1;rw[if_neg kO,ta,tb]
 have gg0:(s1.adv n1).get 0=_:=g0
 have gg5:(s1.adv n1).get k5=_:=g5
 have gg6:(s1.adv n1).get k6=_:=g6
 refine Wc.seqR (fun y=>((ix q a:Int)=f.1∧(ix q b:Int)=l.1)∧y.ds=[]∧y.e.length=147∧y.e.getD 1 .junk=P' (pI t)∧y.e.getD 2 .junk=.v (.c (.ref 0 0))∧y.e.getD 5 .junk=.v (.c (.ref k5 0))∧y.e.getD 6 .junk=.v (.c (.ref k6 0))∧∃ n,y.s=s1.adv n) ?_ ?_
 ·refine Wc.seq ?_;refine Wc.regD fun K F=>?_;simp only[go_sem,hlen,h1,h2,h5,h6,g0,g5,g6,hp0,ea,eb]
  refine⟨by simp[o247,x247,plainD,plainV,plainC],?_⟩
  refine gP (pf247 q a hq kO) ?_
  by_cases v1:(ix q a:Int)=f.1
  ·have b1:((ix q a:Int) != f.1)=false:=by simpa using v1
   simp only[go_sem,hlen,h1,h2,h5,h6,g0,g5,g6,hp0,ea,eb,b1]
   refine⟨by simp[o247,x247,plainD,plainV,plainC],?_⟩
   refine gP (pf247 q b hq kO) ?_;simp only[go_sem,hlen,h1,h2,h5,h6,g0,g5,g6,hp0,ea,eb,b1];apply F;clear F K;refine Wc.cond (t:=((ix q b:Int) != l.1)) kL (fun hc=>?_) (fun hc=>?_)
   ·have hc3:(ix q b:Int)≠l.1:=by simpa using hc
    apply gS kM
    rw[eA,if_pos (.inr hc3)]
    exact wr (gV [.tmp 4] [.c (.p (.bool false))] kL)
   ·have hc3:(ix q b:Int)=l.1:=by simpa using hc
    exact Wc.skip ⟨⟨v1,hc3⟩,rfl,by simp only[go_sem,hlen],by simp only[go_sem,hlen,h1],by simp only[go_sem,hlen,h2],by simp only[go_sem,hlen,h5],by simp only[go_sem,hlen,h6],_,St.adv_adv _ _ _⟩
  ·have b1:((ix q a:Int) != f.1)=true:=by simpa using v1
   simp only[go_sem,hlen,h1,h2,h5,h6,g0,g5,g6,hp0,ea,eb,b1];apply F;clear F K;apply gT kL;apply gS kM
   rw[eA,if_pos (.inl v1)]
   exact wr (gV [.tmp 4] [.c (.p (.bool false))] kL)
 clear hlen h1 h2 h5 h6 e gg0 gg5 gg6 n1
 rintro⟨e,ds,s2⟩ ⟨⟨i1,i2⟩,rfl,hlen,h1,h2,h5,h6,n1,rfl⟩
 simp only at hlen h1 h2 h5 h6
 rw[if_neg kO] at eA
 refine Wc.seqR (fun y=>¬ (t=1∧h.mn≠h.mx)∧y.ds=[]∧y.e.length=147∧y.e.getD 1 .junk=P' (pI t)∧y.e.getD 2 .junk=.v (.c (.ref 0 0))∧y.e.getD 5 .junk=.v (.c (.ref k5 0))∧y.e.getD 6 .junk=.v (.c (.ref k6 0))∧∃ n,y.s=s1.adv n) ?_ ?_
 ·refine Wc.seq ?_
  by_cases v1:t=1
  ·have b1:(t==1)=true:=by simpa using v1
   apply gR (by simp only[go_sem,hlen,h1,h2,h5,h6,g0,g5,g6,b1];rfl);refine Wc.cond (t:=(h.mn != h.mx)) kL (fun hc=>?_) (fun hc=>?_)
   ·have hc3:h.mn≠h.mx:=by simpa using hc
    apply gS kM
    rw[eA,if_pos ⟨v1,hc3⟩]
    exact wr (gV [.tmp 4] [.c (.p (.bool false))] kL)
   ·have hc3:h.mn=h.mx:=by simpa using hc
    exact Wc.skip ⟨kO,rfl,by simp only[go_sem,hlen],by simp only[go_sem,hlen,h1],by simp only[go_sem,hlen,h2],by simp only[go_sem,hlen,h5],by simp only[go_sem,hlen,h6],_,St.adv_adv _ _ _⟩
  ·have b1:(t==1)=false:=by simpa using v1
   apply gR (by simp only[go_sem,hlen,h1,h2,h5,h6,g0,g5,g6,b1];rfl);apply gX kL;exact Wc.skip ⟨kO,rfl,by simp only[go_sem,hlen],by simp only[go_sem,hlen,h1],by simp only[go_sem,hlen,h2],by simp only[go_sem,hlen,h5],by simp only[go_sem,hlen,h6],_,St.adv_adv _ _ _⟩
 clear hlen h1 h2 h5 h6 e n1
 rintro⟨e,ds,s2⟩ ⟨j1,rfl,hlen,h1,h2,h5,h6,n1,rfl⟩
 simp only at hlen h1 h2 h5 h6
 rw[if_neg j1] at eA
 rw[eA]
 clear eA
 have ho2:OA (s1.adv n1).nx (s1.adv n1) [] [(k6,.cells ((p2 l).map .p) false),(k5,.cells ((p2 f).map .p) false),(0,.cells (h.pd.map .p) false)]:=(ho.mono (Nat.le_add_right _ n1)).adv
 clear g0 g5 g6 ho;generalize s1.adv n1=s2 at ho2;clear n1 s1
 refine Wc.seqA (fun y => ∃ k7 k8, y.ds = [] ∧ y.e.length = 147 ∧ y.e.getD 1 .junk = P' (pI t) ∧ y.e.getD 2 .junk = .v (.c (.ref 0 0)) ∧ y.e.getD 5 .junk = .v (.c (.ref k5 0)) ∧ y.e.getD 6 .junk = .v (.c (.ref k6 0)) ∧ y.e.getD 7 .junk = .v (.c (.ref k7 0)) ∧ y.e.getD 8 .junk = .v (.c (.ref k8 0)) ∧
  OA y.s.nx y.s [] [(k8,.cells [.p (pI 0)] false),(k7,.cells [.p (pI 0)] false),(k6,.cells ((p2 l).map .p) false),(k5,.cells ((p2 f).map .p) false),(0,.cells (h.pd.map .p) false)]) ?_ ?_
 ·have f1:(s2.nx+1=s2.nx)=False:=by simp
  have f2:(s2.nx=s2.nx+1)=False:=by simp
  apply gR (by simp only[go_sem,hlen,h1,h2,h5,h6,f1,f2];rfl)
  refine⟨rfl,s2.nx,s2.nx+1,rfl,by simp only[go_sem,hlen],by simp only[go_sem,hlen,h1],by simp only[go_sem,hlen,h2],by simp only[go_sem,hlen,h5],by simp only[go_sem,hlen,h6],by simp only[go_sem,hlen],by simp only[go_sem,hlen],?_⟩
  have o1:=((ho2.adv (n:=4)).new (k:=s2.nx) (o:=.cells [.p (pI 0)] false) (Nat.le_refl _) rfl).new (k:=s2.nx+1) (o:=.cells [.p (pI 0)] false) (Nat.le_refl _) rfl
  have o2:=OA.set (M1:=[(s2.nx+1,.cells [.p (pI 0)] false)]) (o':=.cells [.p (pI 0)] false) o1 rfl
  have o3:=OA.set (M1:=[]) (o':=.cells [.p (pI 0)] false) o2 rfl
  exact o3.mono kY
 clear hlen h1 h2 h5 h6 e ho2 s2
 rintro⟨e,ds,s1⟩ ⟨k7,k8,rfl,hlen,h1,h2,h5,h6,h7,h8,ho⟩
 simp only at hlen h1 h2 h5 h6 h7 h8 ho
 have nnc:∀ b∈h.bs,1≤b.2:=hb.cn
 refine Wc.seqA (fun y => ∃ kd, y.ds = [kd] ∧ y.e.length = 147 ∧ y.e.getD 2 .junk = .v (.c (.ref 0 0)) ∧ y.e.getD 5 .junk = .v (.c (.ref k5 0)) ∧ y.e.getD 6 .junk = .v (.c (.ref k6 0)) ∧ y.e.getD 7 .junk = .v (.c (.ref k7 0)) ∧ y.e.getD 8 .junk = .v (.c (.ref k8 0)) ∧
  OA y.s.nx y.s [] ((kd,.defr)::[(k8,.cells [.p (pI (sumI (fun _ b=>min (hi q b.1.toNat:Int) h.mx*b.2) 0 h.bs))] false),(k7,.cells [.p (pI (sumI (fun _ b=>max (lo q b.1.toNat:Int) h.mn*b.2) 0 h.bs))] false),(k6,.cells ((p2 l).map .p) false),(k5,.cells ((p2 f).map .p) false),(0,.cells (h.pd.map .p) false)])) ?_ ?_
 ·refine Wc.seq ?_
  have g0:=ho.at_ (0,.cells (h.pd.map .p) false) kS
  simp only[gm] at g0;refine gM fun K F=>?_;simp only[go_sem,hlen,h1,h2,h5,h6,h7,h8,g0];refine call249 (hh:=h) (ho.adv.mono ?_) fun s2 ho2 hnx2=>?_
  ·simp only[St.nx_adv];omega
  simp only[go_sem,hlen,h1,h2,h5,h6,h7,h8];apply F;clear F K;refine Wc.block ?_;refine Wc.iter (iter271 (h:=h) (r:=(s1.adv 2).nx) (frz:=false) kO) (fun i L M=>∃ u v,L=[]∧M=((s1.adv 2).nx,.cells (h.pd.map .p) false)::[(k8,.cells [.p (pI v)] false),(k7,.cells [.p (pI u)] false),(k6,.cells ((p2 l).map .p) false),(k5,.cells ((p2 f).map .p) false),(0,.cells (h.pd.map .p) false)]∧u=sumI (fun _ b=>max (lo q b.1.toNat:Int) h.mn*b.2) 0 (h.bs.take i)∧v=sumI (fun _ b=>min (hi q b.1.toNat:Int) h.mx*b.2) 0 (h.bs.take i)) kL ho2 ⟨0,0,rfl,rfl,rfl,rfl⟩ ?_ ?_ ?_ ?_
  ·rintro i L M s ⟨u,v,rfl,rfl,_⟩ hM;exact hM (_,_) (List.mem_cons_self ..)
  ·rintro i k a ⟨_,b,n,_,rfl⟩;rfl
  ·rintro i k aa lp s L M ⟨rfl,bb,n,hbb,rfl⟩ ⟨u,v,rfl,rfl,hu,hv⟩ hos;simp only[setAll,List.zip_cons_cons,List.zip_nil_right]
   have gM:∀ y∈((s1.adv 2).nx,Ob.cells (h.pd.map .p) false)::[(k8,.cells [.p (pI v)] false),(k7,.cells [.p (pI u)] false),(k6,.cells ((p2 l).map .p) false),(k5,.cells ((p2 f).map .p) false),(0,.cells (h.pd.map .p) false)],s.get y.1=some y.2:=fun y hy=>hos.at_ y (List.mem_cons_of_mem _ (List.mem_cons_of_mem _ hy))
   apply gR (by simp only[go_sem,hlen,h2,h5,h6,h7,h8];rfl)
   have q1:=OA.set (M1:=[]) (o':=.cells ((p2 bb).map .p) false) ((hos.adv (n:=2)).new (k:=s.nx) (o:=.cells [.p (.int .i64 0),.p (.int .i64 0)] false) (Nat.le_refl _) rfl) rfl
   refine⟨rfl,[],_,(q1.permM ((List.Perm.swap _ _ _).trans (List.Perm.cons _ (List.Perm.swap _ _ _)))).mono kY,fun lq s' hos'=>?_⟩
   clear q1 gM
   have hb0:=(hb.lo0 bb (gw hbb))
   have hb1:=hb.cn bb (gw hbb)
   have bi:bb.1.toNat≤(41-q)*2 ^ q:=kO
   have lob:=lo_last hq bi
   have hib:hi q bb.1.toNat≤1099511627776:=Nat.min_le_right _ _
   have tks:=sumI_take (f:=fun _ b=>b.2) hbb
   have tb1:cnt (h.bs.take i)+bb.2≤1048576∧0≤cnt (h.bs.take i):=by
    have c1:=(cnt_le hb.cn (i+1)).2
    have c2:=(cnt_le hb.cn i).1
    unfold cnt at *;omega
   have bdl:∀(j:Nat) (c:Int×Int),(h.bs.take i)[j]? = some c→0≤max (lo q c.1.toNat:Int) h.mn*c.2∧max (lo q c.1.toNat:Int) h.mn*c.2≤1099511627776*c.2:=fun j c hc=>by
    have hcm:=List.mem_of_mem_take (gw hc)
    have c0:=hb.lo0 c hcm
    have c1:=hb.cn c hcm
    have c2:=lo_last hq (i:=c.1.toNat) kO
    exact⟨Int.mul_nonneg kO kO,Int.mul_le_mul_of_nonneg_right kO kO⟩
   have bdg:∀(j:Nat) (c:Int×Int),(h.bs.take i)[j]? = some c→0≤min (hi q c.1.toNat:Int) h.mx*c.2∧min (hi q c.1.toNat:Int) h.mx*c.2≤1099511627776*c.2:=fun j c hc=>by
    have hcm:=List.mem_of_mem_take (gw hc)
    have c1:=hb.cn c hcm
    exact⟨Int.mul_nonneg kO kO,Int.mul_le_mul_of_nonneg_right kO kO⟩
   have su:=sumI_bound (f:=fun _ b=>max (lo q b.1.toNat:Int) h.mn*b.2) (i:=0) bdl
   have sv:=sumI_bound (f:=fun _ b=>min (hi q b.1.toNat:Int) h.mx*b.2) (i:=0) bdg
   rw[← hu] at su
   rw[← hv] at sv
   change 0≤u∧u≤1099511627776*cnt (h.bs.take i) at su
   change 0≤v∧v≤1099511627776*cnt (h.bs.take i) at sv
   have X0:0≤max (lo q bb.1.toNat:Int) h.mn*bb.2:=Int.mul_nonneg kO kO
   have X1:max (lo q bb.1.toNat:Int) h.mn*bb.2≤1099511627776*bb.2:=Int.mul_le_mul_of_nonneg_right kO kO
   have Y0:0≤min (hi q bb.1.toNat:Int) h.mx*bb.2:=Int.mul_nonneg kO kO
   have Y1:min (hi q bb.1.toNat:Int) h.mx*bb.2≤1099511627776*bb.2:=Int.mul_le_mul_of_nonneg_right kO kO
   have hu':sumI (fun _ b=>max (lo q b.1.toNat:Int) h.mn*b.2) 0 (h.bs.take (i+1))=u+max (lo q bb.1.toNat:Int) h.mn*bb.2:=by rw[hu];exact sumI_take hbb
   have hv':sumI (fun _ b=>min (hi q b.1.toNat:Int) h.mx*b.2) 0 (h.bs.take (i+1))=v+min (hi q bb.1.toNat:Int) h.mx*bb.2:=by rw[hv];exact sumI_take hbb
   generalize hX:max (lo q bb.1.toNat:Int) h.mn=X at X0 X1 hu';generalize hY:min (hi q bb.1.toNat:Int) h.mx=Y at Y0 Y1 hv'
   have w1:IntKind.i64.wrap (X*bb.2)=X*bb.2:=by rw[wi64];omega
   have w2:IntKind.i64.wrap (u+X*bb.2)=u+X*bb.2:=by rw[wi64];omega
   have w3:IntKind.i64.wrap (Y*bb.2)=Y*bb.2:=by rw[wi64];omega
   have w4:IntKind.i64.wrap (v+Y*bb.2)=v+Y*bb.2:=by rw[wi64];omega
   have g9:=hos'.at_ (s.nx,.cells ((p2 bb).map .p) false) kS
   have g0:=hos'.at_ (0,.cells (h.pd.map .p) false) kS
   have g7:=hos'.at_ (k7,.cells [.p (pI u)] false) kS
   simp only[gm] at g9 g0 g7;refine Wc.block (Wc.seq ?_);refine gM fun K F=>?_;simp only[go_sem,hlen,h2,h5,h6,h7,h8,g9,g0];refine gP (pf250 h bb q bb.1.toNat hq hp kO bi) ?_
   rw[hX,hY]
   simp only[go_sem,hlen,h2,h5,h6,h7,h8,g9,g0];apply F;clear F K
   refine Wc.seqA (fun y => y.ds = [] ∧ y.e.length = 147 ∧ y.e.getD 8 .junk = .v (.c (.ref k8 0)) ∧ y.e.getD 9 .junk = .v (.c (.ref s.nx 0)) ∧ y.e.getD 11 .junk = P' (pI Y) ∧
    OA y.s.nx y.s [] ((s2.nx,.loop lq)::(s2.nx+1,.defr)::(s.nx,.cells ((p2 bb).map .p) false)::((s1.adv 2).nx,.cells (h.pd.map .p) false)::[(k8,.cells [.p (pI v)] false),(k7,.cells [.p (pI (u+X*bb.2))] false),(k6,.cells ((p2 l).map .p) false),(k5,.cells ((p2 f).map .p) false),(0,.cells (h.pd.map .p) false)])) ?_ ?_
   ·apply gR (by simp only[go_sem,hlen,h2,h5,h6,h7,h8,g9,g0,g7,w1,w2];rfl)
    refine⟨rfl,rfl,by simp only[go_sem,hlen],by simp only[go_sem,hlen,h8],by simp only[go_sem,hlen],by simp only[go_sem,hlen],?_⟩
    have q2:=OA.set (M1:=(s2.nx,.loop lq)::(s2.nx+1,.defr)::(s.nx,.cells ((p2 bb).map .p) false)::((s1.adv 2).nx,.cells (h.pd.map .p) false)::[(k8,.cells [.p (pI v)] false)]) (o':=.cells [.p (pI (u+X*bb.2))] false) ((hos'.adv (n:=8)).adv (n:=7)) rfl
    exact q2.mono kY
   ·clear hos' g9 g0 g7
    rintro⟨e3,ds3,s3⟩ ⟨rfl,hl3,h83,h93,h113,ho3⟩
    simp only at hl3 h83 h93 h113 ho3
    have g9:=ho3.at_ (s.nx,.cells ((p2 bb).map .p) false) kS
    have g8:=ho3.at_ (k8,.cells [.p (pI v)] false) kS
    simp only[gm] at g9 g8;apply gR (by simp only[go_sem,hl3,h83,h93,h113,g9,g8,w3,w4];rfl)
    refine⟨rfl,[],_,?_,u+X*bb.2,v+Y*bb.2,rfl,rfl,hu'.symm,hv'.symm⟩
    have q3:=OA.set (M1:=(s2.nx,.loop lq)::(s2.nx+1,.defr)::(s.nx,.cells ((p2 bb).map .p) false)::[((s1.adv 2).nx,.cells (h.pd.map .p) false)]) (o':=.cells [.p (pI (v+Y*bb.2))] false) (ho3.adv (n:=7)) rfl
    exact(q3.sub (List.Sublist.refl _) (List.Sublist.cons_cons _ (List.Sublist.cons_cons _ (List.sublist_cons_self _ _)))).mono kY
  ·rintro L M s3 hos ⟨u,v,rfl,rfl,hu,hv⟩
   rw[List.take_length] at hu hv
   subst hu hv
   exact⟨rfl,s2.nx+1,rfl,by simp only[go_sem,hlen],by simp only[go_sem,hlen,h2],by simp only[go_sem,hlen,h5],by simp only[go_sem,hlen,h6],by simp only[go_sem,hlen,h7],by simp only[go_sem,hlen,h8],hos.sub (List.Sublist.refl _) (List.Sublist.cons_cons _ (List.sublist_cons_self _ _))⟩
 ·clear hlen h1 h2 h5 h6 h7 h8 ho e s1
  rintro⟨e,ds,s1⟩ ⟨kd,rfl,hlen,h2,h5,h6,h7,h8,ho⟩
  simp only at hlen h2 h5 h6 h7 h8 ho
  have bdl:∀(j:Nat) (c:Int×Int),h.bs[j]? = some c→0≤max (lo q c.1.toNat:Int) h.mn*c.2∧max (lo q c.1.toNat:Int) h.mn*c.2≤1099511627776*c.2:=fun j c hc=>by
   have hcm:=gw hc
   have c0:=hb.lo0 c hcm
   have c1:=hb.cn c hcm
   have c2:=lo_last hq (i:=c.1.toNat) kO
   exact⟨Int.mul_nonneg kO kO,Int.mul_le_mul_of_nonneg_right kO kO⟩
  have bdg:∀(j:Nat) (c:Int×Int),h.bs[j]? = some c→0≤min (hi q c.1.toNat:Int) h.mx*c.2∧min (hi q c.1.toNat:Int) h.mx*c.2≤1099511627776*c.2:=fun j c hc=>by
   have hcm:=gw hc
   have c1:=hb.cn c hcm
   have c2:hi q c.1.toNat≤1099511627776:=Nat.min_le_right _ _
   exact⟨Int.mul_nonneg kO kO,Int.mul_le_mul_of_nonneg_right kO kO⟩
  have su:=sumI_bound (f:=fun _ b=>max (lo q b.1.toNat:Int) h.mn*b.2) (i:=0) (by simpa using bdl)
  have sv:=sumI_bound (f:=fun _ b=>min (hi q b.1.toNat:Int) h.mx*b.2) (i:=0) (by simpa using bdg)
  change _∧_≤1099511627776*cnt h.bs at su
  change _∧_≤1099511627776*cnt h.bs at sv
  rw[← ht] at su sv
  have eL:leastP q h.mn h.mx h.bs l=sumI (fun _ b=>max (lo q b.1.toNat:Int) h.mn*b.2) 0 h.bs+(h.mx-max (lo q l.1.toNat:Int) h.mn):=rfl
  have eG:greatP q h.mn h.mx h.bs f=sumI (fun _ b=>min (hi q b.1.toNat:Int) h.mx*b.2) 0 h.bs-(min (hi q f.1.toNat:Int) h.mx-h.mn):=rfl
  have f0:=hb.lo0 f (gw hf)
  have l0:=hb.lo0 l (gw hl)
  have lol:=lo_last hq (i:=l.1.toNat) kO
  have hif2:hi q f.1.toNat≤1099511627776:=Nat.min_le_right _ _
  generalize sumI (fun _ b=>max (lo q b.1.toNat:Int) h.mn*b.2) 0 h.bs=U at *;generalize sumI (fun _ b=>min (hi q b.1.toNat:Int) h.mx*b.2) 0 h.bs=V at *
  have g0:=ho.at_ (0,.cells (h.pd.map .p) false) kS
  have g5:=ho.at_ (k5,.cells ((p2 f).map .p) false) kS
  have g6:=ho.at_ (k6,.cells ((p2 l).map .p) false) kS
  have g7:=ho.at_ (k7,.cells [.p (pI U)] false) kS
  simp only[gm] at g0 g5 g6 g7;refine gN fun K F=>?_;simp only[go_sem,hlen,h2,h5,h6,h7,h8,g0,g5];refine gP (pf250 h f q f.1.toNat hq hp kO kO) ?_;generalize hX1:max (lo q f.1.toNat:Int) h.mn=X1;generalize hY1:min (hi q f.1.toNat:Int) h.mx=Y1 at eG ⊢;simp only[go_sem,hlen,h2,h5,h6,h7,h8,g0,g5];apply F;clear F K;refine gN fun K F=>?_;simp only[go_sem,hlen,h2,h5,h6,h7,h8,g0,g6];refine gP (pf250 h l q l.1.toNat hq hp kO kO) ?_;generalize hX2:max (lo q l.1.toNat:Int) h.mn=X2 at eL ⊢;generalize hY2:min (hi q l.1.toNat:Int) h.mx=Y2;simp only[go_sem,hlen,h2,h5,h6,h7,h8,g0,g6];apply F;clear F K
  have w1:IntKind.i64.wrap (h.mx-X2)=h.mx-X2:=by rw[wi64];omega
  have w2:IntKind.i64.wrap (U+(h.mx-X2))=leastP q h.mn h.mx h.bs l:=by rw[wi64];omega
  have w3:IntKind.i64.wrap (Y1-h.mn)=Y1-h.mn:=by rw[wi64];omega
  have w4:IntKind.i64.wrap (V-(Y1-h.mn))=greatP q h.mn h.mx h.bs f:=by rw[wi64];omega
  refine Wc.seqA (fun y => y.ds = [kd] ∧ y.e.length = 147 ∧ y.e.getD 2 .junk = .v (.c (.ref 0 0)) ∧ y.e.getD 7 .junk = .v (.c (.ref k7 0)) ∧ y.e.getD 8 .junk = .v (.c (.ref k8 0)) ∧ y.e.getD 13 .junk = P' (pI Y1) ∧
   OA y.s.nx y.s [] ((kd,.defr)::[(k8,.cells [.p (pI V)] false),(k7,.cells [.p (pI (leastP q h.mn h.mx h.bs l))] false),(k6,.cells ((p2 l).map .p) false),(k5,.cells ((p2 f).map .p) false),(0,.cells (h.pd.map .p) false)])) ?_ ?_
  ·apply gR (by simp only[go_sem,hlen,h2,h5,h6,h7,h8,g0,g6,g7,w1,w2];rfl)
   refine⟨rfl,rfl,by simp only[go_sem,hlen],by simp only[go_sem,hlen,h2],by simp only[go_sem,hlen,h7],by simp only[go_sem,hlen,h8],by simp only[go_sem,hlen],?_⟩
   have q2:=OA.set (M1:=(kd,.defr)::[(k8,.cells [.p (pI V)] false)]) (o':=.cells [.p (pI (leastP q h.mn h.mx h.bs l))] false) (((ho.adv (n:=8)).adv (n:=8)).adv (n:=7)) rfl
   exact q2.mono kY
  clear hlen h2 h5 h6 h7 h8 ho e s1 g0 g5 g6 g7
  rintro⟨e,ds,s1⟩ ⟨rfl,hlen,h2,h7,h8,h13,ho⟩
  simp only at hlen h2 h7 h8 h13 ho
  have g0:=ho.at_ (0,.cells (h.pd.map .p) false) kS
  have g8:=ho.at_ (k8,.cells [.p (pI V)] false) kS
  simp only[gm] at g0 g8
  refine Wc.seqA (fun y => y.ds = [kd] ∧ y.e.length = 147 ∧ y.e.getD 2 .junk = .v (.c (.ref 0 0)) ∧ y.e.getD 7 .junk = .v (.c (.ref k7 0)) ∧ y.e.getD 8 .junk = .v (.c (.ref k8 0)) ∧
   OA y.s.nx y.s [] ((kd,.defr)::[(k8,.cells [.p (pI (greatP q h.mn h.mx h.bs f))] false),(k7,.cells [.p (pI (leastP q h.mn h.mx h.bs l))] false),(k6,.cells ((p2 l).map .p) false),(k5,.cells ((p2 f).map .p) false),(0,.cells (h.pd.map .p) false)])) ?_ ?_
  ·apply gR (by simp only[go_sem,hlen,h2,h7,h8,h13,g0,g8,w3,w4];rfl)
   refine⟨rfl,rfl,by simp only[go_sem,hlen],by simp only[go_sem,hlen,h2],by simp only[go_sem,hlen,h7],by simp only[go_sem,hlen,h8],?_⟩
   have q2:=OA.set (M1:=[(kd,.defr)]) (o':=.cells [.p (pI (greatP q h.mn h.mx h.bs f))] false) (ho.adv (n:=7)) rfl
   exact q2.mono kY
  clear hlen h2 h7 h8 h13 ho e s1 g0 g8
  rintro⟨e,ds,s1⟩ ⟨rfl,hlen,h2,h7,h8,ho⟩
  simp only at hlen h2 h7 h8 ho
  have g0:=ho.at_ (0,.cells (h.pd.map .p) false) kS
  have g7:=ho.at_ (k7,.cells [.p (pI (leastP q h.mn h.mx h.bs l))] false) kS
  have g8:=ho.at_ (k8,.cells [.p (pI (greatP q h.mn h.mx h.bs f))] false) kS
  have gd:=ho.at_ (kd,.defr) (List.mem_cons_self ..)
  simp only[gm] at g0 g7 g8 gd;refine Wc.seq ?_
  by_cases z1:leastP q h.mn h.mx h.bs l≤h.s
  ·apply gR (by simp only[go_sem,hlen,h2,h7,h8,g0,g7,g8,z1];rfl)
   rw[decide_eq_true z1,Bool.true_and]
   exact wr (Pf.ret1 [.tmp 4] [.c (.p (.bool (decide (h.s≤greatP q h.mn h.mx h.bs f))))] rfl gd rfl kL rfl)
  ·apply gR (by simp only[go_sem,hlen,h2,h7,h8,g0,g7,g8,z1];rfl)
   rw[decide_eq_false z1,Bool.false_and]
   exact wr (Pf.ret1 [.tmp 4] [.c (.p (.bool false))] rfl gd rfl kL rfl)
def bck (last:Int):Int→List I2→Int
 |_,[]=>0
 |p,b::r=>if b.1<0∨last<b.1∨b.2<1∨1048576<b.2 then 2 else if b.1≤p then 9 else bck last b.1 r
def prevB (l:List I2)(i:Nat):Int:=if i=0 then -1 else ((l[i-1]?).map (·.1)).getD 0
theorem bck_step {last:Int}{l:List I2}{i:Nat}{b:I2}(h:l[i]? = some b):bck last (prevB l i) (l.drop i)=if b.1<0∨last<b.1∨b.2<1∨1048576<b.2 then 2 else if b.1≤prevB l i then 9 else bck last (prevB l (i+1)) (l.drop (i+1)):=by
 have hi:=(List.getElem?_eq_some_iff.1 h).1
 have hx:=(List.getElem?_eq_some_iff.1 h).2
 have hp:prevB l (i+1)=b.1:=by simp[prevB,h]
 rw[List.drop_eq_getElem_cons hi,hx,hp]
 rfl
theorem bck_ok {last:Int}:∀ {l:List I2} {p:Int},bck last p l=0→(∀ b∈l,p<b.1∧0≤b.1∧b.1≤last∧1≤b.2∧b.2≤1048576)∧∀(i j:Nat) (b c:I2),i<j→l[i]? = some b→l[j]? = some c→b.1<c.1
 |[],p,h=>⟨fun b hb=>by(cases hb),fun i j b c _ h1 _=>by simp at h1⟩
 |x::r,p,h=>by
  simp only[bck] at h
  split at h
  ·cases h
  ·split at h
   ·cases h
   ·rename_i h1 h2
    obtain⟨a1,a2⟩:=bck_ok h
    refine⟨fun b hb=>?_,fun i j b c hij hi hj=>?_⟩
    ·rcases List.mem_cons.1 hb with rfl|hb
     ·omega
     ·have:=a1 b hb;omega
    ·cases j with
     |zero=>omega
     |succ j =>
      simp only[List.getElem?_cons_succ] at hj;cases i with
      |zero =>
       simp at hi;subst hi
       exact(a1 c (gw hj)).1
      |succ i =>
       simp only[List.getElem?_cons_succ] at hi;exact a2 i j b c kO hi hj
def hck (h:Hst):Int:=if h.p<0∨8<h.p then 2 else if 500<h.bs.length then 4 else if bck (ix h.p.toNat 1099511627776) (-1) h.bs≠0 then bck (ix h.p.toNat 1099511627776) (-1) h.bs else if 1048576<cnt h.bs then 4 else if agrB h h.p.toNat (cnt h.bs)=false then 10 else 0
theorem bck_bs {q:Nat}{bs:List I2}(hq:q≤8)(h:bck (ix q 1099511627776) (-1) bs=0):BsOK q bs:=by
 obtain⟨a1,a2⟩:=bck_ok h
 rw[ix_last q hq] at a1
 exact⟨fun b hb=>⟨(a1 b hb).2.1,(a1 b hb).2.2.1⟩,fun b hb=>(a1 b hb).2.2.2.1,a2⟩
theorem pf136 (h:Hst)(hl:h.bs.length<2^60):Pf E0 136 [.agg (h.pd.map .p)] (P' (pI (hck h))):=by
 have hfl:(h.bs.flatMap p2).length=h.bs.length*2:=flat_len (k:=2) (fun _=>rfl) _
 refine gQ (fn:=Tryz.f136) ?_;simp only[gL,Tryz.ntmps136,Nat.reduceSub,Nat.reduceAdd];refine gY ?_;refine gO ?_;refine gM fun K F=>?_;simp only[go_sem];refine gP (pf210 h.p) ?_;simp only[go_sem];apply F;clear F K;refine Wc.cond (t:=!(decide (0≤h.p∧h.p≤8))) kA (fun hc=>?_) (fun hc=>?_)
 ·have hp:h.p<0∨8<h.p:=by simp at hc;omega
  have e:hck h=2:=by unfold hck;rw[if_pos hp]
  rw[e]
  refine gY ?_;exact wr (gU [.tmp 2] [.c (.p (pI 2))])
 have hp:0≤h.p∧h.p≤8:=by simpa using hc
 obtain⟨q,hq⟩:∃ q:Nat,h.p=(q:Int):=⟨h.p.toNat,kO⟩
 have hq8:q≤8:=kO
 have eq0:h.p.toNat=q:=kO
 have e1:hck h=if 500<h.bs.length then 4 else if bck (ix q 1099511627776) (-1) h.bs≠0 then bck (ix q 1099511627776) (-1) h.bs else if 1048576<cnt h.bs then 4 else if agrB h q (cnt h.bs)=false then 10 else 0:=by
  unfold hck;rw[if_neg kO,eq0]
 refine Wc.skip (Wc.seq (Wc.seq ?_));refine gZ ?_;refine Wc.cond (t:=decide ((500:Int)<h.bs.length)) kA (fun hc=>?_) (fun hc=>?_)
 ·have h5 : 500 < h.bs.length := by have : (500 : Int) < h.bs.length := by simpa using hc
                                    omega
  rw[e1,if_pos h5]
  refine gY ?_;exact wr (gU [.tmp 2] [.c (.p (pI 4))])
 have h5 : ¬ 500 < h.bs.length := by have : ¬ (500 : Int) < h.bs.length := by simpa using hc
                                     omega
 rw[if_neg h5] at e1
 refine Wc.skip (Wc.seq ?_);refine gZ ?_;refine gY ?_;refine gN fun K F=>?_;simp only[go_sem,hq];refine gP (pf211 q hq8) ?_;simp only[go_sem];apply F;clear F K
 have e2:bck (ix q 1099511627776) (-1) h.bs=bck (ix q 1099511627776) (prevB h.bs 0) (h.bs.drop 0):=rfl
 refine Wc.seqR (fun y=>bck (ix q 1099511627776) (-1) h.bs=0∧y.ds=[]∧y.e.length=62∧y.e.getD 1 .junk=.v (.c (.ref 0 0))∧y.e.getD 4 .junk=P' (pI (cnt h.bs))∧OA y.s.nx y.s [] [(0,.cells (h.pd.map .p) false)]) ?_ ?_
 ·refine gY ?_
  refine Wc.block (Wc.loop (fun k y => ∃ i : Nat, k = h.bs.length - i ∧ i ≤ h.bs.length ∧ y.ds = [] ∧ y.e.length = 62 ∧ y.e.getD 1 .junk = .v (.c (.ref 0 0)) ∧ y.e.getD 3 .junk = P' (pI (prevB h.bs i)) ∧ y.e.getD 4 .junk = P' (pI (cnt (h.bs.take i))) ∧ y.e.getD 5 .junk = P' (pI (ix q 1099511627776)) ∧ y.e.getD 20 .junk = P' (.lst h.bs.length (h.bs.flatMap p2)) ∧ y.e.getD 21 .junk = P' (pI h.bs.length) ∧ y.e.getD 22 .junk = P' (pI i) ∧
   OA y.s.nx y.s [] [(0,.cells (h.pd.map .p) false)]∧(0≤cnt (h.bs.take i)∧cnt (h.bs.take i)≤i*1048576)∧bck (ix q 1099511627776) (-1) h.bs=bck (ix q 1099511627776) (prevB h.bs i) (h.bs.drop i)) ?_ (k:=h.bs.length) ?_)
  ·rintro k ⟨e,ds,s1⟩ ⟨i,rfl,hi,rfl,hlen,h1,h3,h4,h5',h20,h21,h22,ho,hcn,hch⟩;simp only at hlen h1 h3 h4 h5' h20 h21 h22 ho;apply gS (by simp only[go_sem,hlen,h1,h3,h4,h5',h20,h21,h22];rfl);refine Wc.seq (Wc.cond (t:=decide ((i:Int)<h.bs.length)) kL (fun hc=>?_) (fun hc=>?_))
   ·have hil : i < h.bs.length := by have : (i : Int) < h.bs.length := by simpa using hc
                                     omega
    obtain⟨b,hb⟩:=gE hil
    have hix:=ixA ti148 rfl ti205 (j:=i) (m:=h.bs.length) (cs:=h.bs.flatMap p2) hil hfl kD
    have hca:=rpA (off:=i*2) (drop_flat (f:=p2) (k:=2) (fun _=>rfl) hb) (by rw[hfl];omega)
    rw[bck_step hb] at hch
    have bad2:(b.1<0∨(ix q 1099511627776:Int)<b.1∨b.2<1∨1048576<b.2)→hck h=2:=fun hx=>by
     rw[e1,hch,if_pos hx,if_pos kD]
    refine Wc.skip (Wc.seq (Wc.block (Wc.seqA (fun y=>∃ k7,y.ds=[]∧y.e.length=62∧y.e.getD 1 .junk=.v (.c (.ref 0 0))∧y.e.getD 3 .junk=P' (pI (prevB h.bs i))∧y.e.getD 4 .junk=P' (pI (cnt (h.bs.take i)))∧y.e.getD 5 .junk=P' (pI (ix q 1099511627776))∧y.e.getD 20 .junk=P' (.lst h.bs.length (h.bs.flatMap p2))∧y.e.getD 21 .junk=P' (pI h.bs.length)∧y.e.getD 22 .junk=P' (pI i)∧y.e.getD 7 .junk=.v (.c (.ref k7 0))∧OA y.s.nx y.s [] [(k7,.cells ((p2 b).map .p) false),(0,.cells (h.pd.map .p) false)]) ?_ ?_)))
    ·apply gR (by simp only[go_sem,hlen,h1,h3,h4,h5',h20,h21,h22,hix,hca];rfl)
     refine⟨rfl,s1.nx+3,rfl,by simp only[go_sem,hlen],by simp only[go_sem,hlen,h1],by simp only[go_sem,hlen,h3],by simp only[go_sem,hlen,h4],by simp only[go_sem,hlen,h5'],by simp only[go_sem,hlen,h20],by simp only[go_sem,hlen,h21],by simp only[go_sem,hlen,h22],by simp only[go_sem,hlen],?_⟩
     have q1:=OA.set (M1:=[]) (o':=.cells ((p2 b).map .p) false) (((ho.adv (n:=1)).adv (n:=4)).new (k:=s1.nx+3) (o:=.cells [.p (.int .i64 0),.p (.int .i64 0)] false) kO rfl) rfl
     exact q1.mono kY
    clear hlen h1 h3 h4 h5' h20 h21 h22 ho e s1 hc
    rintro⟨e,ds,s1⟩ ⟨k7,rfl,hlen,h1,h3,h4,h5',h20,h21,h22,h7,ho⟩
    simp only at hlen h1 h3 h4 h5' h20 h21 h22 h7 ho
    have g7:=ho.at_ (k7,.cells ((p2 b).map .p) false) kS
    simp only[gm] at g7;refine Wc.seqR (fun y=>¬ (b.1<0∨(ix q 1099511627776:Int)<b.1∨b.2<1∨1048576<b.2)∧y.ds=[]∧y.e.length=62∧y.e.getD 1 .junk=.v (.c (.ref 0 0))∧y.e.getD 3 .junk=P' (pI (prevB h.bs i))∧y.e.getD 4 .junk=P' (pI (cnt (h.bs.take i)))∧y.e.getD 5 .junk=P' (pI (ix q 1099511627776))∧y.e.getD 20 .junk=P' (.lst h.bs.length (h.bs.flatMap p2))∧y.e.getD 21 .junk=P' (pI h.bs.length)∧y.e.getD 22 .junk=P' (pI i)∧y.e.getD 7 .junk=.v (.c (.ref k7 0))∧∃ n,y.s=s1.adv n) ?_ ?_
    ·refine Wc.seq ?_
     by_cases z1:b.1<0
     ·apply gR (by simp only[go_sem,hlen,h1,h3,h4,h5',h20,h21,h22,h7,g7,z1];rfl);apply gT kL;apply gS kM
      rw[bad2 (.inl z1)]
      exact wr (gV [.tmp 2] [.c (.p (pI 2))] kL)
     by_cases z2:(ix q 1099511627776:Int)<b.1
     ·apply gR (by simp only[go_sem,hlen,h1,h3,h4,h5',h20,h21,h22,h7,g7,z1,z2];rfl);apply gT kL;apply gS kM
      rw[bad2 (.inr (.inl z2))]
      exact wr (gV [.tmp 2] [.c (.p (pI 2))] kL)
     by_cases z3:b.2<1
     ·apply gR (by simp only[go_sem,hlen,h1,h3,h4,h5',h20,h21,h22,h7,g7,z1,z2,z3];rfl);apply gT kL;apply gS kM
      rw[bad2 (.inr (.inr (.inl z3)))]
      exact wr (gV [.tmp 2] [.c (.p (pI 2))] kL)
     apply gR (by simp only[go_sem,hlen,h1,h3,h4,h5',h20,h21,h22,h7,g7,z1,z2,z3];rfl);refine Wc.cond (t:=decide (1048576<b.2)) kL (fun hc=>?_) (fun hc=>?_)
     ·apply gS kM
      rw[bad2 (.inr (.inr (.inr (by simpa using hc))))]
      exact wr (gV [.tmp 2] [.c (.p (pI 2))] kL)
     ·have z4:¬ 1048576<b.2:=by simpa using hc
      exact Wc.skip ⟨kO,rfl,by simp only[go_sem,hlen],by simp only[go_sem,hlen,h1],by simp only[go_sem,hlen,h3],by simp only[go_sem,hlen,h4],by simp only[go_sem,hlen,h5'],by simp only[go_sem,hlen,h20],by simp only[go_sem,hlen,h21],by simp only[go_sem,hlen,h22],by simp only[go_sem,hlen,h7],_,rfl⟩
    clear hlen h1 h3 h4 h5' h20 h21 h22 h7 e
    rintro⟨e,ds,s2⟩ ⟨hz,rfl,hlen,h1,h3,h4,h5',h20,h21,h22,h7,n1,rfl⟩
    simp only at hlen h1 h3 h4 h5' h20 h21 h22 h7
    rw[if_neg hz] at hch
    refine gO ?_;apply gR (by simp only[go_sem,hlen,h1,h3,h4,h5',h20,h21,h22,h7,g7];rfl);refine Wc.cond (t:=decide (b.1≤prevB h.bs i)) kL (fun hc=>?_) (fun hc=>?_)
    ·have z5:b.1≤prevB h.bs i:=by simpa using hc
     rw[if_pos z5] at hch
     apply gS kM
     rw[e1,hch,if_pos kD]
     exact wr (gV [.tmp 2] [.c (.p (pI 9))] kL)
    have z5:¬ b.1≤prevB h.bs i:=by simpa using hc
    rw[if_neg z5] at hch
    have hcs:cnt (h.bs.take (i+1))=cnt (h.bs.take i)+b.2:=sumI_take hb
    have hpb:prevB h.bs (i+1)=b.1:=by simp[prevB,hb]
    have w1:IntKind.i64.wrap (cnt (h.bs.take i)+b.2)=cnt (h.bs.take (i+1)):=by rw[wi64];omega
    refine Wc.skip (Wc.seq ?_);apply gR (by simp only[go_sem,hlen,h1,h3,h4,h5',h20,h21,h22,h7,g7];rfl);apply gR (by simp only[go_sem,hlen,h1,h3,h4,h5',h20,h21,h22,h7,g7,w1];rfl);apply gR (by simp only[go_sem,hlen,h1,h3,h4,h5',h20,h21,h22,h7,g7,i64n i kO];rfl)
    refine⟨h.bs.length-(i+1),kO,i+1,rfl,kO,rfl,by simp only[go_sem,hlen],by simp only[go_sem,hlen,h1],by simp only[go_sem,hlen,hpb],by simp only[go_sem,hlen],by simp only[go_sem,hlen,h5'],by simp only[go_sem,hlen,h20],by simp only[go_sem,hlen,h21],by simp only[go_sem,hlen],?_,kO,hch⟩
    have q1:=ho.sub (List.Sublist.refl _) (List.sublist_cons_self _ _)
    refine OA.mono (b:=s1.nx) ?_ (by simp only[St.nx_adv];omega)
    repeat refine OA.adv ?_
    exact q1
   ·have hil : i = h.bs.length := by have : ¬ (i : Int) < h.bs.length := by simpa using hc
                                     omega
    subst hil
    rw[List.drop_length] at hch
    rw[List.take_length] at h4
    exact Wc.exit ⟨hch,rfl,by simp only[go_sem,hlen],by simp only[go_sem,hlen,h1],by simp only[go_sem,hlen,h4],(ho.mono (Nat.le_add_right _ 1)).adv⟩
  ·refine⟨0,rfl,kO,rfl,rfl,rfl,rfl,rfl,rfl,rfl,rfl,rfl,?_,by simp[cnt,sumI],e2⟩
   have hH:Ob.cells [.p (pI q),.p (pI h.c),.p (pI h.s),.p (pI h.mn),.p (pI h.mx),.p (.lst h.bs.length (h.bs.flatMap p2))] false=.cells (h.pd.map .p) false:=by rw[← hq];rfl
   rw[hH]
   have o0:=(s00_oa.adv (n:=2)).new (k:=0) (o:=.cells (h.pd.map .p) false) (Nat.le_refl _) rfl
   refine OA.mono (b:=0+1) ?_ (by simp only[St.nx_adv,St.nx_put];omega)
   repeat refine OA.adv ?_
   exact o0
 rintro⟨e,ds,s1⟩ ⟨hz,rfl,hlen,h1,h4,ho⟩
 simp only at hlen h1 h4 ho
 rw[if_neg (by rw[hz];decide)] at e1
 have hbs:=bck_bs hq8 hz
 refine gO ?_;apply gR (by simp only[go_sem,hlen,h1,h4];rfl);refine Wc.cond (t:=decide (1048576<cnt h.bs)) kL (fun hc=>?_) (fun hc=>?_)
 ·have z1:1048576<cnt h.bs:=by simpa using hc
  rw[e1,if_pos z1]
  apply gS kM;exact wr (gV [.tmp 2] [.c (.p (pI 4))] kL)
 have z1:¬ 1048576<cnt h.bs:=by simpa using hc
 rw[if_neg z1] at e1
 have g0:=ho.at_ (0,.cells (h.pd.map .p) false) kS
 simp only[gm] at g0;refine Wc.skip (Wc.seq (Wc.seq ?_));refine gM fun K F=>?_;simp only[go_sem,hlen,h1,h4,g0];refine gP (pf212 h (cnt h.bs) q hq8 hq hbs kO rfl kO) ?_;simp only[go_sem,hlen,h1,h4,g0];apply F;clear F K;refine Wc.cond (t:=!(agrB h q (cnt h.bs))) kL (fun hc=>?_) (fun hc=>?_)
 ·rw[e1,if_pos (by simpa using hc)]
  apply gS kM;exact wr (gV [.tmp 2] [.c (.p (pI 10))] kL)
 ·have z2:agrB h q (cnt h.bs)=true:=by simpa using hc
  rw[e1,if_neg (by rw[z2];decide)]
  refine Wc.skip (Wc.seq ?_);apply gR kM;exact wr (gV [.tmp 2] [.c (.p (pI 0))] kL)
end Go.Proofs.YtedcnhbblgmdnaaGreat.Ab
