/- A part of the proof. -/
import Derived.Test.YtedcnhbblgmdnaaGreatT36
import Derived.Test.YtedcnhbblgmdnaaGreatT37
import Derived.Test.YtedcnhbblgmdnaaGreatT25
import Derived.Test.YtedcnhbblgmdnaaGreatT28
import Derived.Test.YtedcnhbblgmdnaaGreatT27
set_option maxHeartbeats 8000000
set_option maxRecDepth 10000
set_option linter.unusedSimpArgs false
set_option linter.unusedVariables false
namespace Go.Proofs.YtedcnhbblgmdnaaGreat.Ab
def rolls (w:Int):List Ser→List Rlp
 |[]=>[]
 |x::r=>(bif x.k != 3 then [Rlp.mk x.lb x.k w (ofB x.k w x.sm)] else [])++rolls w r
theorem rolls_step {w:Int}{l:List Ser}{i:Nat}{c:Ser}(h:l[i]? = some c):rolls w (l.drop i)=(bif c.k != 3 then [Rlp.mk c.lb c.k w (ofB c.k w c.sm)] else [])++rolls w (l.drop (i+1)):=by
 obtain⟨h1,h2⟩:=List.getElem?_eq_some_iff.1 h
 rw[List.drop_eq_getElem_cons h1,h2,rolls]
theorem rolls_len (w:Int):∀ l:List Ser,(rolls w l).length≤l.length
 |[]=>Nat.le_refl _
 |x::r=>by
  have:=rolls_len w r
  rw[rolls,List.length_append,List.length_cons]
  cases x.k != 3<;>simp<;>omega
theorem rolls_mem {w:Int}:∀ {l:List Ser} {r:Rlp},r∈rolls w l→∃ c∈l,c.k≠3∧r=Rlp.mk c.lb c.k w (ofB c.k w c.sm)
 |[],r,h=>by cases h
 |x::l,r,h=>by
  rw[rolls] at h
  rcases List.mem_append.1 h with h|h
  ·cases hk:(x.k != 3) with
   |true=>rw[hk,cond_true] at h;exact⟨x,List.mem_cons_self ..,by simpa using hk,List.mem_singleton.1 h⟩
   |false=>rw[hk,cond_false] at h;cases h
  ·obtain⟨c,h1,h2⟩:=rolls_mem h
   exact⟨c,List.mem_cons_of_mem _ h1,h2⟩
def setE (d:Dat)(w:Int):Int:=bif chkD d != 0 then 1 else bif decide (w<1) || decide (1099511627776<w) then 2 else 0
def setS (d:Dat)(w V:Int):RSet:=bif V != 0 then ⟨0,0,[]⟩ else ⟨w,0,rolls w d.ss⟩
theorem lstR_ok {A:Type}{ok:A→Bool}{cmp:A→A→Int}:∀ {l:List A} {q:Option A},lstR (okC ok) cmp q l=0→∀ c∈l,ok c=true
 |[],_,_,c,hc=>by cases hc
 |x::r,q,h,c,hc=>by
  have hx:okC ok x=0∧lstR (okC ok) cmp (some x) r=0:=by
   cases q with
   |none =>
    rw[lstR] at h
    cases h1:(okC ok x != 0) with
    |true=>rw[h1,cond_true] at h;rw[h] at h1;cases h1
    |false=>rw[h1,cond_false] at h;exact⟨by simpa using h1,h⟩
   |some q =>
    rw[lstR] at h
    cases h1:(okC ok x != 0) with
    |true=>rw[h1,cond_true] at h;rw[h] at h1;cases h1
    |false =>
     rw[h1,cond_false] at h
     cases h2:decide (0≤cmp q x) with
     |true=>rw[h2,cond_true] at h;cases h
     |false=>rw[h2,cond_false] at h;exact⟨by simpa using h1,h⟩
  have hk:ok x=true:=by
   cases h3:ok x with
   |true=>rfl
   |false=>have:=hx.1;unfold okC at this;rw[h3] at this;cases this
  rcases List.mem_cons.1 hc with rfl|hc
  ·exact hk
  ·exact lstR_ok hx.2 c hc
theorem nz_zero {a b:Int}(h:nz a b=0):a=0:=by
 unfold nz at h;cases h1:(a != 0) with
 |true=>rw[h1,cond_true] at h;exact h
 |false=>simpa using h1
theorem chkD_ss {d:Dat}(h:chkD d=0):∀ c∈d.ss,serOK c=true:=by
 have h1:=nz_zero h
 unfold chkL at h1;cases h2:decide (1000<(d.ss.length:Int)) with
 |true=>rw[h2,cond_true] at h1;cases h1
 |false=>rw[h2,cond_false] at h1;exact lstR_ok h1
theorem o43:E0.opn 43=false:=by kernel_rfl
theorem x43:E0.xt 43=none:=by kernel_rfl
theorem purVs_rset {c:C}{y:Pd}(h:purS c=some y)(s:St){p0 p1 e:Pd}:purVs s [.agg [.p p0,.p p1,c],.c (.p e)]=some ([.agg [.p p0,.p p1,.p y],.c (.p e)],s):=by
 simp only[purVs,purV,purCs,purC_p,purC_S h,List.map_cons,List.map_nil]
theorem pf29 (d:Dat)(z:d.Sz)(w:Int):Pf E0 29 [.agg (d.pd.map .p),.c (.p (pI w))] (resS (setS d w (setE d w)) (setE d w)):=by
 have hfl:(d.ss.flatMap Ser.pd).length=d.ss.length*4:=flat_len (k:=4) (fun _=>rfl) _
 have hl1:=z.l1
 have p42:=pf42g d z
 generalize hE:setE d w=V;unfold setE at hE;generalize hCD:chkD d=CD at *;refine gQ (fn:=Tryz.f29) ?_;simp only[gL,Tryz.ntmps29,Nat.reduceSub,Nat.reduceAdd];refine gY ?_;refine Wc.seq ?_;refine gN fun K F=>?_;simp only[go_sem];refine gP p42 ?_;simp only[go_sem];apply F;clear F K;rcases gK (CD !=(0:Int)) with w0_1|w0_1
 ·simp only[w0_1,gC] at hE;apply gT (by simp only[go_sem,w0_1]);apply gS (by simp only[go_sem,w0_1];rfl);subst hE;exact wr (gy [ResultVar.cell (4) (62),.tmp 5] (by simp only[go_sem,w0_1];exact⟨_,rfl,_,rfl⟩))
 simp only[w0_1,gC] at hE;apply gX (by simp only[go_sem,w0_1]);refine Wc.skip ?_;refine gO ?_;rcases gK (decide (w<(1:Int))) with w0_2|w0_2
 ·simp only[w0_2,gC] at hE;apply gR (by simp only[go_sem,w0_1,w0_2];rfl);apply gT (by simp only[go_sem,w0_1,w0_2]);apply gS (by simp only[go_sem,w0_1,w0_2];rfl);subst hE;exact wr (gy [ResultVar.cell (4) (62),.tmp 5] (by simp only[go_sem,w0_1,w0_2];exact⟨_,rfl,_,rfl⟩))
 simp only[w0_2,gC] at hE;apply gR (by simp only[go_sem,w0_1,w0_2];rfl);rcases gK (decide ((1099511627776:Int)<w)) with w0_3|w0_3
 ·simp only[w0_3,gC] at hE;apply gT (by simp only[go_sem,w0_1,w0_2,w0_3]);apply gS (by simp only[go_sem,w0_1,w0_2,w0_3];rfl);subst hE;exact wr (gy [ResultVar.cell (4) (62),.tmp 5] (by simp only[go_sem,w0_1,w0_2,w0_3];exact⟨_,rfl,_,rfl⟩))
 simp only[w0_3,gC] at hE;apply gX (by simp only[go_sem,w0_1,w0_2,w0_3]);refine Wc.skip ?_
 have hCD0:CD=0:=by simpa using w0_1
 have hok:=chkD_ss (hCD.trans hCD0)
 have hw:1≤w∧w≤1099511627776:=⟨by have:=of_decide_eq_false w0_2;omega,by have:=of_decide_eq_false w0_3;omega⟩
 subst hE
 show Wc E0 none _ _ (bodyQ E0 Tryz.f29 fun d0 s2=>∃ s3,purD s2 d0=some (.tup [.agg [.p (pI w),.p (pI 0),.p (.lst (rolls w d.ss).length ((rolls w d.ss).flatMap Rlp.pd))],.c (.p (pI 0))],s3))
 have hll:=rolls_len w d.ss
 refine Wc.seqA (fun y=>∃ k6 xc,y.ds=[]∧Fs y.e 42 [(1,P' (pI w)),(2,.v (.c (.ref 0 0))),(4,.v (.c (.ref 1 0))),(6,.v (.c (.ref k6 0)))]∧OA y.s.nx y.s [(4,.v (.c xc),0,[])] [(k6,.cells [.p (pI w),.p (pI 0),xc] false),(1,.cells [.p (pI 0),.p (pI 0),.nils] false),(0,.cells (d.pd.map .p) false)]) ?_ ?_
 ·refine gZ ?_
  exact⟨rfl,14,.nils,rfl,by simp only[go_sem],OA.nil (by(try simp only[St.put_adv,St.adv_adv,St.put_put,gI]);repeat (first | exact oM s00_oa | refine oN ?_ | refine oP ?_ | refine oA ?_))⟩
 rintro⟨e,ds,s1⟩ ⟨k6,xc,rfl,hF,ho⟩
 simp only[Fs] at hF ho
 have hR0 : []++rolls w (d.ss.drop 0)=rolls w d.ss:=rfl
 generalize rolls w d.ss=R at *;refine Wc.seqR (fun y=>∃ k6 xc T,R=T∧y.ds=[]∧Fs y.e 42 [(1,P' (pI w)),(2,.v (.c (.ref 0 0))),(4,.v (.c (.ref 1 0))),(6,.v (.c (.ref k6 0)))]∧OA y.s.nx y.s [(4,.v (.c xc),T.length,T.flatMap Rlp.pd)] [(k6,.cells [.p (pI w),.p (pI 0),xc] false),(1,.cells [.p (pI 0),.p (pI 0),.nils] false),(0,.cells (d.pd.map .p) false)]) ?_ ?_
 ·have g0:=ho.at_ (0,.cells (d.pd.map .p) false) kS
  simp only[gm] at g0;apply gS kC;refine Wc.block (Wc.loop (fun k y=>∃(i k6:Nat) (xc:C) (T:List Rlp),k=d.ss.length-i∧(i≤d.ss.length∧T.length≤i∧T++rolls w (d.ss.drop i)=R)∧y.ds=[]∧Fs y.e 42 [(1,P' (pI w)),(2,.v (.c (.ref 0 0))),(4,.v (.c (.ref 1 0))),(6,.v (.c (.ref k6 0))),(23,P' (.lst d.ss.length (d.ss.flatMap Ser.pd))),(24,P' (pI d.ss.length)),(25,P' (pI i))]∧OA y.s.nx y.s [(4,.v (.c xc),T.length,T.flatMap Rlp.pd)] [(k6,.cells [.p (pI w),.p (pI 0),xc] false),(1,.cells [.p (pI 0),.p (pI 0),.nils] false),(0,.cells (d.pd.map .p) false)]) ?_ (k:=d.ss.length) ⟨0,k6,xc,[],rfl,⟨kO,by simp,hR0⟩,rfl,by simp only[go_sem,hF],oZ⟩);clear hF ho g0 e s1 hR0 xc k6;rintro k ⟨e,ds,s1⟩ ⟨i,k6,xc,T,rfl,⟨hi,hTl,hR⟩,rfl,hF,ho⟩;simp only[Fs] at hF ho;apply gS kG;refine Wc.seq ?_;refine Wc.cond (t:=decide ((i:Int)<d.ss.length)) kF (fun hc=>?_) (fun hc=>?_)
  ·have hil:i<d.ss.length:=gi hc
   obtain⟨c,hcc⟩:=gE hil
   have okc:=hok c (gw hcc)
   rw[rolls_step hcc] at hR
   have hix:=ixA ti52 rfl ti26 (j:=i) (m:=d.ss.length) (cs:=d.ss.flatMap Ser.pd) hil hfl kD
   have hca:=rpG (f:=Ser.pd) (k:=4) (fun _=>rfl) hcc
   refine Wc.skip (Wc.seq (Wc.block (Wc.seqA (fun y=>∃ k8,y.ds=[]∧Fs y.e 42 [(1,P' (pI w)),(2,.v (.c (.ref 0 0))),(4,.v (.c (.ref 1 0))),(6,.v (.c (.ref k6 0))),(23,P' (.lst d.ss.length (d.ss.flatMap Ser.pd))),(24,P' (pI d.ss.length)),(25,P' (pI i)),(8,.v (.c (.ref k8 0)))]∧OA y.s.nx y.s [(4,.v (.c xc),T.length,T.flatMap Rlp.pd)] ((k8,.cells (c.pd.map .p) false)::[(k6,.cells [.p (pI w),.p (pI 0),xc] false),(1,.cells [.p (pI 0),.p (pI 0),.nils] false),(0,.cells (d.pd.map .p) false)])) ?_ ?_)))
   ·apply gR (by simp only[go_sem,hF,hix,hca];rfl)
    exact⟨rfl,s1.nx+3,rfl,by simp only[go_sem,hF],by(try simp only[St.put_adv,St.adv_adv,St.put_put,gI]);repeat (first | exact oM ho | refine oN ?_ | refine oP ?_ | refine oA ?_)⟩
   clear hF ho e s1
   rintro⟨e,ds,s1⟩ ⟨k8,rfl,hF,ho⟩
   simp only[Fs] at hF ho
   have g8:=ho.at_ (k8,.cells (c.pd.map .p) false) kS
   have g6:=ho.at_ (k6,.cells [.p (pI w),.p (pI 0),xc] false) kS
   simp only[gm] at g8;cases hk:(c.k != 3) with
   |true =>
    rw[hk,cond_true] at hR
    have v:=serOK_v okc (by simpa using hk)
    have p43:=pf43 c v w hw
    generalize hX:Rlp.mk c.lb c.k w (ofB c.k w c.sm)=X at *;apply gS (by simp only[go_sem,hF,g8,hk];rfl);apply gT (by simp only[go_sem,hF,hk]);refine Wc.regT fun K F=>?_;simp only[go_sem,hF,g6,g8];refine gP p43 ?_;simp only[go_sem,hF,g6,g8];refine OA.app (L1:=[]) (L2:=[]) (by_:=64) (n:=T.length) (m:=1) (ys:=X.pd) (cs:=T.flatMap Rlp.pd) (b:=s1.nx+9) (M:=(k8,.cells (c.pd.map .p) false)::[(k6,.cells [.p (pI w),.p (pI 0),xc] false),(1,.cells [.p (pI 0),.p (pI 0),.nils] false),(0,.cells (d.pd.map .p) false)]) ?_ (Nat.le_refl _) ⟨_,ti60,rfl⟩ ti31 rfl rfl rfl kD kD kA rfl kO fun x' s3 hs hnx=>?_
    ·exact by(try simp only[gI]);repeat (first | exact oM ho | refine oN ?_ | refine oP ?_ | refine oA ?_)
    obtain⟨xc',rfl⟩:=(hs.own _ (List.mem_cons_self ..)).v
    have g6':=hs.at_ (k6,.cells [.p (pI w),.p (pI 0),xc] false) kS
    simp only[go_sem,hF,g6',o43,x43];refine⟨by rw[trOK_eq3];rfl,F _ _ ?_⟩;clear F K
    have h5:=OA.set (M1:=[]) (o':=.cells [.p (pI w),.p (pI 0),xc'] false) (OA.sub (M1:=[(k6,.cells [.p (pI w),.p (pI 0),xc] false),(1,.cells [.p (pI 0),.p (pI 0),.nils] false),(0,.cells (d.pd.map .p) false)]) hs (List.Sublist.refl _) (List.sublist_cons_self _ _)) rfl
    simp only[St.nx_put,St.nx_adv] at hnx;apply gR kX
    refine⟨d.ss.length-(i+1),kO,i+1,k6,xc',T++[X],rfl,⟨kO,by simp;omega,by rw[List.append_assoc];exact hR⟩,rfl,by simp only[go_sem,hF],?_⟩
    have e1:(T++[X]).length=T.length+1:=by simp
    have e2:(T++[X]).flatMap Rlp.pd=T.flatMap Rlp.pd++X.pd:=by simp
    rw[e1,e2]
    exact OA.mono h5.adv kY
   |false =>
    rw[hk,cond_false,List.nil_append] at hR
    apply gS (by simp only[go_sem,hF,g8,hk];rfl);apply gF (by simp only[go_sem,hF,hk]);apply gR kX
    exact⟨d.ss.length-(i+1),kO,i+1,k6,xc,T,rfl,⟨kO,kO,hR⟩,rfl,by simp only[go_sem,hF],by(try simp only[gI]);repeat (first | exact oM (ho.sub (List.Sublist.refl _) (List.sublist_cons_self _ _)) | refine oN ?_ | refine oA ?_)⟩
  ·have hil:i=d.ss.length:=by have:=of_decide_eq_false hc;omega
   rw[hil,List.drop_length,rolls,List.append_nil] at hR
   exact Wc.exit ⟨k6,xc,T,hR.symm,rfl,by simp only[go_sem,hF],oZ⟩
 clear hF ho e s1 hR0 xc k6
 rintro⟨e,ds,s1⟩ ⟨k6,xc,T,rfl,rfl,hF,ho⟩
 simp only[Fs] at hF ho
 have hpu:=(ho.own _ (List.mem_cons_self ..)).purS
 have g6:=ho.at_ (k6,.cells [.p (pI w),.p (pI 0),xc] false) kS
 have g1:=ho.at_ (1,.cells [.p (pI 0),.p (pI 0),.nils] false) kS
 apply gS (by simp only[go_sem,hF,g6,g1];rfl);exact wr (Pf.ret [.cell 4 62,.tmp 5] [.agg [.p (pI w),.p (pI 0),xc],.c (.p (pI 0))] rfl rfl kF (by simp only[packD,purD,purVs_rset hpu];rfl))
theorem pf30 (d:Dat)(z:d.Sz)(w:Int):Pf E0 30 [.agg (d.pd.map .p),.c (.p (pI w))] (resS (setS d w (setE d w)) (setE d w)):=by
 have hfl:(d.ss.flatMap Ser.pd).length=d.ss.length*4:=flat_len (k:=4) (fun _=>rfl) _
 have hl1:=z.l1
 have p61:=pf61 d z
 have p45:=pf45 w 1 1099511627776
 have hbt:btw w 1 1099511627776 = !(decide (w<1) || decide (1099511627776<w)):=by
  unfold btw
  rw[Bool.not_or,← decide_not,← decide_not]
  congr 1<;>rw[decide_eq_decide]<;>omega
 generalize hE:setE d w=V;unfold setE at hE
 rw[show(decide (w<1) || decide (1099511627776<w)) = !btw w 1 1099511627776 by rw[hbt,Bool.not_not]] at hE
 generalize hCD:chkD d=CD at *;refine gQ (fn:=Tryz.f30) ?_;simp only[gL,Tryz.ntmps30,Nat.reduceSub,Nat.reduceAdd];refine gY ?_;refine Wc.seq ?_;refine gN fun K F=>?_;simp only[go_sem];refine gP p61 ?_;simp only[go_sem];apply F;clear F K;rcases gK (CD !=(0:Int)) with w0_1|w0_1
 ·simp only[w0_1,gC] at hE;apply gT (by simp only[go_sem,w0_1]);apply gS (by simp only[go_sem,w0_1];rfl);subst hE;exact wr (gy [ResultVar.cell (4) (62),.tmp 5] (by simp only[go_sem,w0_1];exact⟨_,rfl,_,rfl⟩))
 simp only[w0_1,gC] at hE;apply gX (by simp only[go_sem,w0_1]);refine Wc.skip ?_;refine Wc.seq ?_;refine gN fun K F=>?_;simp only[go_sem,w0_1];refine gP p45 ?_;simp only[go_sem,w0_1];apply F;clear F K;rcases (gK (btw w (1:Int) (1099511627776:Int))).symm with w0_2|w0_2
 ·simp only[w0_2,gC] at hE;apply gT (by simp only[go_sem,w0_1,w0_2]);apply gS (by simp only[go_sem,w0_1,w0_2];rfl);subst hE;exact wr (gy [ResultVar.cell (4) (62),.tmp 5] (by simp only[go_sem,w0_1,w0_2];exact⟨_,rfl,_,rfl⟩))
 simp only[w0_2,gC] at hE;apply gX (by simp only[go_sem,w0_1,w0_2]);refine Wc.skip ?_
 have hCD0:CD=0:=by simpa using w0_1
 have hok:=chkD_ss (hCD.trans hCD0)
 have hw:1≤w∧w≤1099511627776:=by unfold btw at w0_2;rw[Bool.and_eq_true] at w0_2;exact⟨of_decide_eq_true w0_2.1,of_decide_eq_true w0_2.2⟩
 clear hbt;subst hE
 show Wc E0 none _ _ (bodyQ E0 Tryz.f30 fun d0 s2=>∃ s3,purD s2 d0=some (.tup [.agg [.p (pI w),.p (pI 0),.p (.lst (rolls w d.ss).length ((rolls w d.ss).flatMap Rlp.pd))],.c (.p (pI 0))],s3))
 have hll:=rolls_len w d.ss
 refine Wc.seqA (fun y=>∃ k6 xc,y.ds=[]∧Fs y.e 46 [(1,P' (pI w)),(2,.v (.c (.ref 0 0))),(4,.v (.c (.ref 1 0))),(6,.v (.c (.ref k6 0)))]∧OA y.s.nx y.s [(4,.v (.c xc),0,[])] [(k6,.cells [.p (pI w),.p (pI 0),xc] false),(1,.cells [.p (pI 0),.p (pI 0),.nils] false),(0,.cells (d.pd.map .p) false)]) ?_ ?_
 ·refine gZ ?_
  exact⟨rfl,11,.nils,rfl,by simp only[go_sem],OA.nil (by(try simp only[St.put_adv,St.adv_adv,St.put_put,gI]);repeat (first | exact oM s00_oa | refine oN ?_ | refine oP ?_ | refine oA ?_))⟩
 rintro⟨e,ds,s1⟩ ⟨k6,xc,rfl,hF,ho⟩
 simp only[Fs] at hF ho
 have hR0 : []++rolls w (d.ss.drop 0)=rolls w d.ss:=rfl
 generalize rolls w d.ss=R at *;refine Wc.seqR (fun y=>∃ k6 xc T,R=T∧y.ds=[]∧Fs y.e 46 [(1,P' (pI w)),(2,.v (.c (.ref 0 0))),(4,.v (.c (.ref 1 0))),(6,.v (.c (.ref k6 0)))]∧OA y.s.nx y.s [(4,.v (.c xc),T.length,T.flatMap Rlp.pd)] [(k6,.cells [.p (pI w),.p (pI 0),xc] false),(1,.cells [.p (pI 0),.p (pI 0),.nils] false),(0,.cells (d.pd.map .p) false)]) ?_ ?_
 ·apply gS kG;refine Wc.block (Wc.loop (fun k y=>∃(i k6:Nat) (xc:C) (T:List Rlp),k=d.ss.length-i∧(i≤d.ss.length∧T.length≤i∧T++rolls w (d.ss.drop i)=R)∧y.ds=[]∧Fs y.e 46 [(1,P' (pI w)),(2,.v (.c (.ref 0 0))),(4,.v (.c (.ref 1 0))),(6,.v (.c (.ref k6 0))),(7,P' (pI i))]∧OA y.s.nx y.s [(4,.v (.c xc),T.length,T.flatMap Rlp.pd)] [(k6,.cells [.p (pI w),.p (pI 0),xc] false),(1,.cells [.p (pI 0),.p (pI 0),.nils] false),(0,.cells (d.pd.map .p) false)]) ?_ (k:=d.ss.length) ⟨0,k6,xc,[],rfl,⟨kO,by simp,hR0⟩,rfl,by simp only[go_sem,hF],oZ⟩);clear hF ho e s1 hR0 xc k6;rintro k ⟨e,ds,s1⟩ ⟨i,k6,xc,T,rfl,⟨hi,hTl,hR⟩,rfl,hF,ho⟩;simp only[Fs] at hF ho
  have g0:=ho.at_ (0,.cells (d.pd.map .p) false) kS
  simp only[gm] at g0;refine gO ?_;apply gR kC;refine Wc.cond (t:=decide ((i:Int)<d.ss.length)) kF (fun hc=>?_) (fun hc=>?_)
  ·have hil:i<d.ss.length:=gi hc
   obtain⟨c,hcc⟩:=gE hil
   have okc:=hok c (gw hcc)
   rw[rolls_step hcc] at hR
   have hix:=ixA ti52 rfl ti26 (j:=i) (m:=d.ss.length) (cs:=d.ss.flatMap Ser.pd) hil hfl kD
   have hca:=rpG (f:=Ser.pd) (k:=4) (fun _=>rfl) hcc
   have zc:=z.z1 c (gw hcc)
   have p14:=pf14 c zc w
   have hbw:btw w 1 1099511627776=true:=w0_2
   have hoc:ofC c w=(if c.k=3 then 8 else 0):=by
    unfold ofC
    rw[okc,hbw]
    simp
   cases hk:(c.k != 3) with
   |true =>
    rw[hk,cond_true] at hR
    have hk3:c.k≠3:=by simpa using hk
    rw[if_neg hk3] at hoc
    have hor:ofR c w=Rlp.mk c.lb c.k w (ofB c.k w c.sm):=by unfold ofR;rw[if_pos hoc]
    rw[hor,hoc] at p14
    generalize hX:Rlp.mk c.lb c.k w (ofB c.k w c.sm)=X at *;refine Wc.skip (Wc.seq (Wc.block (Wc.seqA (fun y=>∃ k8,y.ds=[]∧Fs y.e 46 [(1,P' (pI w)),(2,.v (.c (.ref 0 0))),(4,.v (.c (.ref 1 0))),(6,.v (.c (.ref k6 0))),(7,P' (pI i)),(8,.v (.c (.ref k8 0))),(9,P' (pI 0))]∧OA y.s.nx y.s [(4,.v (.c xc),T.length,T.flatMap Rlp.pd)] ((k8,.cells (X.pd.map .p) false)::[(k6,.cells [.p (pI w),.p (pI 0),xc] false),(1,.cells [.p (pI 0),.p (pI 0),.nils] false),(0,.cells (d.pd.map .p) false)])) ?_ ?_)))
    ·refine gM fun K F=>?_;simp only[go_sem,hF,g0,hix,hca];refine gP p14 ?_;simp only[go_sem,hF];apply F;clear F K
     exact⟨rfl,s1.nx+15,rfl,by simp only[go_sem,hF],by(try simp only[St.put_adv,St.adv_adv,St.put_put,gI]);repeat (first | exact oM ho | refine oN ?_ | refine oP ?_ | refine oA ?_)⟩
    clear hF ho g0 e s1
    rintro⟨e,ds,s1⟩ ⟨k8,rfl,hF,ho⟩
    simp only[Fs] at hF ho
    have g8:=ho.at_ (k8,.cells (X.pd.map .p) false) kS
    have g6:=ho.at_ (k6,.cells [.p (pI w),.p (pI 0),xc] false) kS
    simp only[gm] at g8;apply gS kG;apply gT kF;refine gM fun K F=>?_;simp only[go_sem,hF,g6,g8];refine OA.app (L1:=[]) (L2:=[]) (by_:=64) (n:=T.length) (m:=1) (ys:=X.pd) (cs:=T.flatMap Rlp.pd) (b:=s1.nx+6) (M:=(k8,.cells (X.pd.map .p) false)::[(k6,.cells [.p (pI w),.p (pI 0),xc] false),(1,.cells [.p (pI 0),.p (pI 0),.nils] false),(0,.cells (d.pd.map .p) false)]) ?_ (Nat.le_refl _) ⟨_,ti60,rfl⟩ ti31 rfl rfl rfl kD kD kA rfl kO fun x' s3 hs hnx=>?_
    ·exact by(try simp only[gI]);repeat (first | exact oM ho | refine oN ?_ | refine oP ?_ | refine oA ?_)
    obtain⟨xc',rfl⟩:=(hs.own _ (List.mem_cons_self ..)).v
    have g6':=hs.at_ (k6,.cells [.p (pI w),.p (pI 0),xc] false) kS
    simp only[go_sem,hF,g6'];apply F;clear F K
    have h5:=OA.set (M1:=[]) (o':=.cells [.p (pI w),.p (pI 0),xc'] false) (OA.sub (M1:=[(k6,.cells [.p (pI w),.p (pI 0),xc] false),(1,.cells [.p (pI 0),.p (pI 0),.nils] false),(0,.cells (d.pd.map .p) false)]) hs (List.Sublist.refl _) (List.sublist_cons_self _ _)) rfl
    simp only[St.nx_put,St.nx_adv] at hnx;apply gR kX
    refine⟨d.ss.length-(i+1),kO,i+1,k6,xc',T++[X],rfl,⟨kO,by simp;omega,by rw[List.append_assoc];exact hR⟩,rfl,by simp only[go_sem,hF],?_⟩
    have e1:(T++[X]).length=T.length+1:=by simp
    have e2:(T++[X]).flatMap Rlp.pd=T.flatMap Rlp.pd++X.pd:=by simp
    rw[e1,e2]
    exact OA.mono h5.adv kY
   |false =>
    rw[hk,cond_false,List.nil_append] at hR
    have hk3:c.k=3:=by simpa using hk
    rw[if_pos hk3] at hoc
    have hor:ofR c w=zR:=by unfold ofR;rw[if_neg (by rw[hoc];decide)]
    rw[hor,hoc] at p14
    refine Wc.skip (Wc.seq (Wc.block (Wc.seqA (fun y=>∃ k8,y.ds=[]∧Fs y.e 46 [(1,P' (pI w)),(2,.v (.c (.ref 0 0))),(4,.v (.c (.ref 1 0))),(6,.v (.c (.ref k6 0))),(7,P' (pI i)),(9,P' (pI 8))]∧OA y.s.nx y.s [(4,.v (.c xc),T.length,T.flatMap Rlp.pd)] ((k8,.cells (zR.pd.map .p) false)::[(k6,.cells [.p (pI w),.p (pI 0),xc] false),(1,.cells [.p (pI 0),.p (pI 0),.nils] false),(0,.cells (d.pd.map .p) false)])) ?_ ?_)))
    ·refine gM fun K F=>?_;simp only[go_sem,hF,g0,hix,hca];refine gP p14 ?_;simp only[go_sem,hF];apply F;clear F K
     exact⟨rfl,s1.nx+15,rfl,by simp only[go_sem,hF],by(try simp only[St.put_adv,St.adv_adv,St.put_put,gI]);repeat (first | exact oM ho | refine oN ?_ | refine oP ?_ | refine oA ?_)⟩
    clear hF ho g0 e s1
    rintro⟨e,ds,s1⟩ ⟨k8,rfl,hF,ho⟩
    simp only[Fs] at hF ho
    have b8:((8:Int)==0)=false:=by decide
    apply gS (by simp only[go_sem,hF,b8];rfl);apply gF (by simp only[go_sem,hF,b8]);apply gR kX
    exact⟨d.ss.length-(i+1),kO,i+1,k6,xc,T,rfl,⟨kO,kO,hR⟩,rfl,by simp only[go_sem,hF],by(try simp only[gI]);repeat (first | exact oM (ho.sub (List.Sublist.refl _) (List.sublist_cons_self _ _)) | refine oN ?_ | refine oA ?_)⟩
  ·have hil:i=d.ss.length:=by have:=of_decide_eq_false hc;omega
   rw[hil,List.drop_length,rolls,List.append_nil] at hR
   exact Wc.exit ⟨k6,xc,T,hR.symm,rfl,by simp only[go_sem,hF],oZ⟩
 clear hF ho e s1 hR0 xc k6
 rintro⟨e,ds,s1⟩ ⟨k6,xc,T,rfl,rfl,hF,ho⟩
 simp only[Fs] at hF ho
 have hpu:=(ho.own _ (List.mem_cons_self ..)).purS
 have g6:=ho.at_ (k6,.cells [.p (pI w),.p (pI 0),xc] false) kS
 have g1:=ho.at_ (1,.cells [.p (pI 0),.p (pI 0),.nils] false) kS
 apply gS (by simp only[go_sem,hF,g6,g1];rfl);exact wr (Pf.ret [.cell 4 62,.tmp 5] [.agg [.p (pI w),.p (pI 0),xc],.c (.p (pI 0))] rfl rfl kF (by simp only[packD,purD,purVs_rset hpu];rfl))
end Go.Proofs.YtedcnhbblgmdnaaGreat.Ab
namespace Go.Proofs.YtedcnhbblgmdnaaGreat.Ab
theorem o67:E0.opn 67=false:=by kernel_rfl
theorem x67:E0.xt 67=none:=by kernel_rfl
theorem cmpC_self (c:Chk):cmpC c c=0:=by
 unfold cmpC cmpI
 rw[if_neg (Int.lt_irrefl _),if_neg (Int.lt_irrefl _),if_neg kD]
 exact cmpL_zero.2 rfl
theorem pf67 (c:Chk)(z:Cz c):Pf E0 67 [.agg (c.pd.map .p),.agg (c.pd.map .p)] (P' (.bool true)):=by
 have p126:=pf126g c c z z
 rw[cmpC_self] at p126
 have b0e:((0:Int)==0)=true:=rfl
 refine gQ (fn:=Tryz.f67) ?_;simp only[gL,Tryz.ntmps67,Nat.reduceSub,Nat.reduceAdd];refine gY ?_;refine gN fun K F=>?_;simp only[go_sem];refine gP p126 ?_;simp only[go_sem,b0e,eqL,eqS,beq_self_eq_true,Bool.and_self];apply F;clear F K;exact wr (gU [.tmp 4] [.c (.p (.bool true))])
theorem pf34 (b:Blk)(hl:b.cs.length<2^40)(hz:∀ c∈b.cs,Cz c):Pf E0 34 [.agg (b.pd.map .p),.agg (b.pd.map .p)] (P' (.bool true)):=by
 have hfl:=fK b.cs
 refine gQ (fn:=Tryz.f34) ?_;simp only[gL,Tryz.ntmps34,Nat.reduceSub,Nat.reduceAdd];refine gY ?_;refine gO ?_;apply gR (by simp only[go_sem,bne_self_eq_false];rfl);refine gH ?_;refine Wc.seqR (fun y=>y.ds=[]∧Fs y.e 53 []) ?_ ?_
 ·refine gY ?_;refine Wc.block (Wc.loop (fun q y=>∃ i:Nat,q=b.cs.length-i∧i≤b.cs.length∧y.ds=[]∧Fs y.e 53 [(2,.v (.c (.ref 0 0))),(3,.v (.c (.ref 1 0))),(5,P' (pI i))]∧OA y.s.nx y.s [] [(1,.cells (b.pd.map .p) false),(0,.cells (b.pd.map .p) false)]) ?_ (k:=b.cs.length) ⟨0,rfl,kO,rfl,by simp only[go_sem],by(try simp only[St.put_adv,St.adv_adv,St.put_put,gI]);repeat (first | exact oM s00_oa | refine oN ?_ | refine oP ?_ | refine oA ?_)⟩);rintro q ⟨e,ds,s1⟩ ⟨i,rfl,hi,rfl,hF,ho⟩;simp only[Fs] at hF ho
  have g0:=ho.at_ (0,.cells (b.pd.map .p) false) kS
  have g1:=ho.at_ (1,.cells (b.pd.map .p) false) kS
  simp only[gm] at g0 g1;refine gO ?_;apply gR kC;refine Wc.cond (t:=decide ((i:Int)<b.cs.length)) kF (fun hc=>?_) (fun hc=>?_)
  ·have hil:i<b.cs.length:=gi hc
   obtain⟨c,hcc⟩:=gE hil
   have hix:=ixA ti65 rfl ti96 (j:=i) (m:=b.cs.length) (cs:=b.cs.flatMap Chk.pd) hil hfl kD
   have hca:=rpK hcc
   have p67:=pf67 c (hz c (gw hcc))
   refine Wc.skip (Wc.seq (Wc.block (Wc.seq ?_)));refine Wc.regT fun K F=>?_;simp only[go_sem,hF,g0,g1,hix,hca];refine gP p67 ?_;simp only[go_sem,hF,o67,x67];refine⟨by rw[trOK_eq3];rfl,F _ _ ?_⟩;clear F K;apply gX kF;refine Wc.skip ?_;apply gR kX
   exact⟨b.cs.length-(i+1),kO,i+1,rfl,kO,rfl,by simp only[go_sem,hF],by(try simp only[St.put_adv,St.adv_adv,St.put_put,gI]);repeat (first | exact oM ho | refine oN ?_ | refine oP ?_ | refine oA ?_)⟩
  ·exact Wc.exit ⟨rfl,by simp only[go_sem,hF]⟩
 rintro⟨e,ds,s1⟩ ⟨rfl,hF⟩
 simp only[Fs] at hF;apply gS kG;exact wr (gV [.tmp 4] [.c (.p (.bool true))] kF)
theorem encAll_dec:∀ {l:List Rlp}{cs:List Chk},encAll l=some cs→dAllE cs=0∧cs.map dcX=l∧(∀ r∈l,Rz r→True)∧cs.length=l.length
 |[],cs,h=>by simp only[encAll,Option.some.injEq] at h;subst h;exact⟨rfl,rfl,fun _ _ _=>trivial,rfl⟩
 |r::t,cs,h=>by
  rw[encAll] at h
  cases he:encLo r with
  |none=>rw[encCk,he] at h;cases h
  |some d =>
   rw[encCk,he] at h
   simp only[Option.map_some] at h;cases ht:encAll t with
   |none=>rw[ht] at h;cases h
   |some q =>
    rw[ht] at h
    simp only[Option.map_some,Option.some.injEq] at h;subst h
    obtain⟨i1,i2,_,i3⟩:=encAll_dec ht
    have hd:=decL_enc he
    refine⟨?_,?_,fun _ _ _=>trivial,by simp[i3]⟩
    ·have:dcE ⟨6,r.lb,(rlpZ r.bs).g,d⟩=0:=by
      unfold dcE;simp only[if_pos,hd,Option.isSome_some]
     rw[dAllE,this,if_neg kD,i1]
    ·have:dcX ⟨6,r.lb,(rlpZ r.bs).g,d⟩=r:=by
      unfold dcX dcR;simp only[if_pos,hd,Option.getD_some]
     rw[List.map_cons,this,i2]
theorem encAll_z {l:List Rlp}{cs:List Chk}(h:encAll l=some cs)(hz:∀ r∈l,Rz r):∀ c∈cs,Cz c:=by
 induction l generalizing cs with
 |nil=>simp only[encAll,Option.some.injEq] at h;subst h;intro c hc;cases hc
 |cons r t ih =>
  rw[encAll] at h
  cases he:encCk r with
  |none=>rw[he] at h;cases h
  |some d =>
   rw[he] at h
   simp only at h;cases ht:encAll t with
   |none=>rw[ht] at h;cases h
   |some q =>
    rw[ht] at h
    simp only[Option.map_some,Option.some.injEq] at h;subst h;intro c hc;rcases List.mem_cons.1 hc with rfl|hc
    ·exact encCk_z (hz r kS) he
    ·exact ih ht (fun r hr=>hz r (by simp[hr])) c hc
theorem blk_of {x:RSet}{id:Int}(h:blkE x id=0)(hz:∀ r∈x.rs,Rz r):ofbE (blkB x id)=0∧ofbS (blkB x id)=x∧(blkB x id).id=id∧(blkB x id).w=x.w∧(∀ c∈(blkB x id).cs,Cz c)∧(blkB x id).cs.length=x.rs.length:=by
 have h':=h
 unfold blkE at h'
 split at h'
 ·cases h'
 ·rename_i hs
  have hs':setOK x=true:=by simpa using hs
  cases he:encAll x.rs with
  |none=>rw[he] at h';cases h'
  |some cs =>
   rw[he] at h'
   simp only at h'
   have e:blkB x id=⟨id,x.w,x.fr,cs⟩:=by unfold blkB;rw[if_pos h,he]
   obtain⟨i1,i2,_,i3⟩:=encAll_dec he
   unfold setOK at hs';simp only[Bool.and_eq_true,Bool.not_eq_true',Bool.or_eq_false_iff,decide_eq_false_iff_not] at hs'
   have hm:=rsOK_mem hs'.2
   have hw:x.w≠0:=by have:=hs'.1.1;omega
   have ha:(cs.map dcX).any (fun r=>r.w != x.w)=false:=by
    rw[i2,List.any_eq_false]
    intro r hr
    have:=(hm r hr).1
    simp[this]
   have e2:ofbE ⟨id,x.w,x.fr,cs⟩=0:=by
    unfold ofbE
    rw[if_neg (by simpa using h')]
    simp only
    rw[if_neg hw,i1,if_neg kD,ha,if_neg kD]
   rw[e]
   refine⟨e2,?_,rfl,rfl,encAll_z he hz,i3⟩
   unfold ofbS
   rw[if_pos e2]
   simp only[i2]
theorem blk_ne {x:RSet}{id:Int}(h:blkE x id≠0):blkB x id=zBlk:=by unfold blkB;rw[if_neg h]
theorem blkB_z {x:RSet}{id:Int}(hl:x.rs.length≤8)(hz:∀ r∈x.rs,Rz r):(blkB x id).cs.length≤8∧∀ c∈(blkB x id).cs,Cz c:=by
 by_cases h:blkE x id=0
 ·obtain⟨_,_,_,_,o5,o6⟩:=blk_of h hz
  exact⟨kO,o5⟩
 ·rw[blk_ne h]
  exact⟨Nat.zero_le _,fun c hc=>by cases hc⟩
def grPr (x:Prf):Bool:=lbsG x.lb || grFl x.fl
def grDE (x:Dat):Bool:=decide ((8:Int)<x.ss.length) || (decide ((6:Int)<x.ps.length) || (grEs x.es || (grPs x.sp || grXs x.xs)))
def grD (x:Dat):Bool:=x.ss.any serG || (x.ps.any grPr || grDE x)
structure Dat.Sp (x:Dat):Prop where
 ss:x.ss.length<2^60
 sx:∀ c∈x.ss,c.hs.length<2^60∧c.lb.length<2^60
 es:∀ c∈x.es,c.lb.length<2^60∧c.fs.length<2^60
 sp:x.sp.length<2^60
 sy:∀ c∈x.sp,c.ab.length<2^60
 ps:x.ps.length<2^60
 px:∀ c∈x.ps,c.lb.length<2^60∧c.fl.length<2^60
 xs:x.xs.length<2^60
 xx:∀ c∈x.xs,c.lb.length<2^60
theorem pf28 (x:Dat)(hx:x.Sp):Pf E0 28 [.agg (x.pd.map .p)] (P' (.bool (grD x))):=by
 have hfs:(x.ss.flatMap Ser.pd).length=x.ss.length*4:=flat_len (k:=4) (fun _=>rfl) _
 have hfp:(x.ps.flatMap Prf.pd).length=x.ps.length*3:=flat_len (k:=3) (fun _=>rfl) _
 have hls:=hx.ss
 have hlp:=hx.ps
 have hR0:((x.ss.drop 0).any serG || (x.ps.any grPr || grDE x))=grD x:=rfl
 generalize grD x=R at hR0 ⊢;refine gQ (fn:=Tryz.f28) ?_;simp only[gL,Tryz.ntmps28,Nat.reduceSub,Nat.reduceAdd];refine gY ?_;refine Wc.seqR (fun y=>(x.ps.any grPr || grDE x)=R∧y.ds=[]∧Fs y.e 66 [(1,.v (.c (.ref 0 0)))]∧OA y.s.nx y.s [] [(0,.cells (x.pd.map .p) false)]) ?_ ?_
 ·refine gY ?_;refine Wc.block (Wc.loop (fun q y=>∃ i:Nat,q=x.ss.length-i∧(i≤x.ss.length∧((x.ss.drop i).any serG || (x.ps.any grPr || grDE x))=R)∧y.ds=[]∧Fs y.e 66 [(1,.v (.c (.ref 0 0))),(3,P' (pI i))]∧OA y.s.nx y.s [] [(0,.cells (x.pd.map .p) false)]) ?_ (k:=x.ss.length) ⟨0,rfl,⟨kO,hR0⟩,rfl,by simp only[go_sem],by(try simp only[St.put_adv,St.adv_adv,St.put_put,gI]);repeat (first | exact oM s00_oa | refine oN ?_ | refine oP ?_ | refine oA ?_)⟩);rintro q ⟨e,ds,s1⟩ ⟨i,rfl,⟨hi,hR⟩,rfl,hF,ho⟩;simp only[Fs] at hF ho
  have g0:=ho.at_ (0,.cells (x.pd.map .p) false) kS
  simp only[gm] at g0;refine gO ?_;apply gR kC;refine Wc.cond (t:=decide ((i:Int)<x.ss.length)) kF (fun hc=>?_) (fun hc=>?_)
  ·have hil:i<x.ss.length:=gi hc
   obtain⟨c,hcc⟩:=gE hil
   rw[any_step hcc] at hR
   have hix:=ixA ti52 rfl ti26 (j:=i) (m:=x.ss.length) (cs:=x.ss.flatMap Ser.pd) hil hfs kD
   have hca:=rpG (f:=Ser.pd) (k:=4) (fun _=>rfl) hcc
   have p:=pf56 c (hx.sx c (gw hcc)).1 (hx.sx c (gw hcc)).2
   refine Wc.skip (Wc.seq (Wc.block (Wc.seq ?_)));refine gM fun K F=>?_;simp only[go_sem,hF,g0,hix,hca];refine gP p ?_;simp only[go_sem,hF];apply F;clear F K;refine Wc.cond (t:=serG c) kF (fun hc=>?_) (fun hc=>?_)
   ·rw[hc,Bool.true_or,Bool.true_or] at hR
    subst hR;apply gS kG;exact wr (gV [.tmp 2] [.c (.p (.bool true))] kF)
   rw[hc,Bool.false_or] at hR
   refine Wc.skip ?_;apply gR kX
   exact⟨x.ss.length-(i+1),kO,i+1,rfl,⟨kO,hR⟩,rfl,by simp only[go_sem,hF],by(try simp only[St.put_adv,St.adv_adv,St.put_put,gI]);repeat (first | exact oM ho | refine oN ?_ | refine oP ?_ | refine oA ?_)⟩
  ·have hil:i=x.ss.length:=by have:=of_decide_eq_false hc;omega
   rw[hil,List.drop_length,List.any_nil,Bool.false_or] at hR
   exact Wc.exit ⟨hR,rfl,by simp only[go_sem,hF],oZ⟩
 clear hR0
 rintro⟨e,ds,s1⟩ ⟨hR0,rfl,hF,ho⟩
 simp only[Fs] at hF ho;refine Wc.seqR (fun y=>grDE x=R∧y.ds=[]∧Fs y.e 66 [(1,.v (.c (.ref 0 0)))]∧OA y.s.nx y.s [] [(0,.cells (x.pd.map .p) false)]) ?_ ?_
 ·apply gS kG;refine Wc.block (Wc.loop (fun q y=>∃ i:Nat,q=x.ps.length-i∧(i≤x.ps.length∧((x.ps.drop i).any grPr || grDE x)=R)∧y.ds=[]∧Fs y.e 66 [(1,.v (.c (.ref 0 0))),(4,P' (pI i))]∧OA y.s.nx y.s [] [(0,.cells (x.pd.map .p) false)]) ?_ (k:=x.ps.length) ⟨0,rfl,⟨kO,hR0⟩,rfl,by simp only[go_sem,hF],by(try simp only[St.put_adv,St.adv_adv,St.put_put,gI]);repeat (first | exact oM ho | refine oN ?_ | refine oP ?_ | refine oA ?_)⟩);clear hF ho e s1;rintro q ⟨e,ds,s1⟩ ⟨i,rfl,⟨hi,hR⟩,rfl,hF,ho⟩;simp only[Fs] at hF ho
  have g0:=ho.at_ (0,.cells (x.pd.map .p) false) kS
  simp only[gm] at g0;refine gO ?_;apply gR kC;refine Wc.cond (t:=decide ((i:Int)<x.ps.length)) kF (fun hc=>?_) (fun hc=>?_)
  ·have hil:i<x.ps.length:=gi hc
   obtain⟨c,hcc⟩:=gE hil
   rw[any_step hcc] at hR
   have hix:=ixA ti55 rfl ti106 (j:=i) (m:=x.ps.length) (cs:=x.ps.flatMap Prf.pd) hil hfp kD
   have hc1:=rpGo (f:=Prf.pd) (k:=3) (o:=1) (fun _=>rfl) hcc kD
   have hc2:=rpGo (f:=Prf.pd) (k:=3) (o:=2) (fun _=>rfl) hcc kD
   simp only[Prf.pd,List.drop_succ_cons,List.drop_zero] at hc1 hc2
   have p1:=pf39 c.lb (hx.px c (gw hcc)).1
   have p2:=pf57 c.fl (hx.px c (gw hcc)).2
   refine Wc.skip (Wc.seq (Wc.block (Wc.seq ?_)));cases k1:lbsG c.lb with
   |true =>
    rw[grPr,k1,Bool.true_or,Bool.true_or] at hR
    subst hR
    rw[k1] at p1
    refine gM fun K F=>?_;simp only[go_sem,hF,g0,hix,hc1];refine gP p1 ?_;simp only[go_sem,hF];apply F;clear F K;apply gT kF;apply gS kG;exact wr (gV [.tmp 2] [.c (.p (.bool true))] kF)
   |false =>
   rw[grPr,k1,Bool.false_or] at hR
   rw[k1] at p1
   refine gM fun K F=>?_;simp only[go_sem,hF,g0,hix,hc1];refine gP p1 ?_;simp only[go_sem,hF,g0,hix,hc2];refine gP p2 ?_;simp only[go_sem,hF];apply F;clear F K;refine Wc.cond (t:=grFl c.fl) kF (fun hc=>?_) (fun hc=>?_)
   ·rw[hc,Bool.true_or] at hR
    subst hR;apply gS kG;exact wr (gV [.tmp 2] [.c (.p (.bool true))] kF)
   rw[hc,Bool.false_or] at hR
   refine Wc.skip ?_;apply gR kX
   exact⟨x.ps.length-(i+1),kO,i+1,rfl,⟨kO,hR⟩,rfl,by simp only[go_sem,hF],by(try simp only[St.put_adv,St.adv_adv,St.put_put,gI]);repeat (first | exact oM ho | refine oN ?_ | refine oP ?_ | refine oA ?_)⟩
  ·have hil:i=x.ps.length:=by have:=of_decide_eq_false hc;omega
   rw[hil,List.drop_length,List.any_nil,Bool.false_or] at hR
   exact Wc.exit ⟨hR,rfl,by simp only[go_sem,hF],oZ⟩
 clear hR0 hF ho e s1
 rintro⟨e,ds,s1⟩ ⟨hR,rfl,hF,ho⟩
 simp only[Fs] at hF ho
 have g0:=ho.at_ (0,.cells (x.pd.map .p) false) kS
 simp only[gm] at g0
 have p1:=pf58 x.es hx.es
 have p2:=pf59 x.sp hx.sp hx.sy
 have p3:=pf60 x.xs hx.xs hx.xx
 unfold grDE at hR;generalize grEs x.es=b1 at *;generalize grPs x.sp=b2 at *;generalize grXs x.xs=b3 at *;refine Wc.seq ?_;cases k1:decide ((8:Int)<x.ss.length) with
 |true =>
  rw[k1,Bool.true_or] at hR
  subst hR;apply gR (by simp only[go_sem,hF,g0,k1];rfl);exact wr (gV [.tmp 2] [.c (.p (.bool true))] kF)
 |false =>
 rw[k1,Bool.false_or] at hR
 cases k2:decide ((6:Int)<x.ps.length) with
 |true =>
  rw[k2,Bool.true_or] at hR
  subst hR;apply gR (by simp only[go_sem,hF,g0,k1,k2];rfl);exact wr (gV [.tmp 2] [.c (.p (.bool true))] kF)
 |false =>
 rw[k2,Bool.false_or] at hR
 refine gM fun K F=>?_;simp only[go_sem,hF,g0,k1,k2];refine gP p1 ?_;cases b1 with
 |true =>
  rw[Bool.true_or] at hR
  subst hR;simp only[go_sem,hF];apply F;clear F K;exact wr (gV [.tmp 2] [.c (.p (.bool true))] kF)
 |false =>
 rw[Bool.false_or] at hR
 simp only[go_sem,hF,g0];refine gP p2 ?_;cases b2 with
 |true =>
  rw[Bool.true_or] at hR
  subst hR;simp only[go_sem,hF];apply F;clear F K;exact wr (gV [.tmp 2] [.c (.p (.bool true))] kF)
 |false =>
 rw[Bool.false_or] at hR
 subst hR;simp only[go_sem,hF,g0];refine gP p3 ?_;simp only[go_sem,hF];apply F;clear F K;exact wr (gV [.tmp 2] [.c (.p (.bool b3))] kF)
theorem lbsG_lbs {l:List Lb}(h:lbsG l=false):Lbs l:=by
 simp only[lbsG,Bool.or_eq_false_iff,decide_eq_false_iff_not] at h
 obtain⟨h2,h3⟩:=h
 rw[List.any_eq_false] at h2
 refine⟨kO,fun y hy=>?_⟩
 have:=h2 y hy
 simp only[lbG,Bool.or_eq_true,decide_eq_true_eq] at this;omega
structure Dat.Rd (x:Dat):Prop where
 l1:x.ss.length<2^60
 r1:∀ c∈x.ss,c.lb.length<2^60∧c.hs.length<2^60∧∀ y∈c.hs,y.h.bs.length<2^60
 l2:x.es.length<2^60
 r2:∀ c∈x.es,c.lb.length<2^60∧c.fs.length<2^60
 l3:x.sp.length<2^60
 r3:∀ c∈x.sp,c.ab.length<2^60∧(-2^63≤c.tr∧c.tr<2^63)∧∀ y∈c.lk,-2^63≤y.1∧y.1<2^63
 l4:x.ps.length<2^60
 r4:∀ c∈x.ps,c.lb.length<2^60∧c.fl.length<2^60
 l5:x.xs.length<2^60
 r5:∀ c∈x.xs,c.lb.length<2^60∧(-2^63≤c.tr∧c.tr<2^63)
theorem Dat.Rd.sp {x:Dat}(h:x.Rd):x.Sp:=⟨h.l1,fun c hc=>⟨(h.r1 c hc).2.1,(h.r1 c hc).1⟩,h.r2,h.l3,fun c hc=>(h.r3 c hc).1,h.l4,h.r4,h.l5,fun c hc=>(h.r5 c hc).1⟩
theorem any_f {A:Type}{f:A→Bool}{l:List A}(h:l.any f=false):∀ c∈l,f c=false:=fun c hc=>by
 rw[List.any_eq_false] at h
 exact Bool.eq_false_iff.2 (h c hc)
theorem grD_z {x:Dat}(hr:x.Rd)(h:grD x=false):x.Sz∧x.ss.length≤8∧∀ c∈x.ss,lbsG c.lb=false∧c.sm.length≤24:=by
 simp only[grD,grDE,grEs,grPs,grXs,Bool.or_eq_false_iff,decide_eq_false_iff_not] at h
 obtain⟨h1,h2,h3,h4,⟨h5,h6,h7⟩,⟨h8,h9⟩,h10,h11⟩:=h
 have s1:∀ c∈x.ss,lbsG c.lb=false∧c.sm.length≤24∧c.hs.length≤6:=fun c hc=>by
  have:=any_f h1 c hc
  simp only[serG,Bool.or_eq_false_iff,decide_eq_false_iff_not] at this
  exact⟨this.2.1,kO,kO⟩
 refine⟨⟨kO,fun c hc=>?_,hr.l2,fun c hc=>?_,kO,fun c hc=>?_,hr.l4,fun c hc=>?_,hr.l5,fun c hc=>?_⟩,kO,fun c hc=>⟨(s1 c hc).1,(s1 c hc).2.1⟩⟩
 ·obtain⟨a,b,d⟩:=s1 c hc
  obtain⟨z1,z2⟩:=lbsG_sz a
  exact⟨z1,z2,kO,kO,(hr.r1 c hc).2.2⟩
 ·have:=any_f h6 c hc
  simp only[grE,Bool.or_eq_false_iff,decide_eq_false_iff_not] at this
  obtain⟨a,b,d⟩:=this
  obtain⟨z1,z2⟩:=lbsG_sz b
  obtain⟨z3,z4⟩:=lbsG_sz d
  exact⟨z1,z2,z3,z4,kO⟩
 ·have:=any_f h8 c hc
  simp only[grP,Bool.or_eq_false_iff,decide_eq_false_iff_not] at this
  obtain⟨a,b,d,e⟩:=this
  obtain⟨z1,z2⟩:=lbsG_sz e
  exact⟨z1,z2,kO,(hr.r3 c hc).2.1,(hr.r3 c hc).2.2⟩
 ·have:=any_f h2 c hc
  simp only[grPr,Bool.or_eq_false_iff] at this
  obtain⟨z1,z2⟩:=lbsG_sz this.1
  exact⟨z1,z2,(hr.r4 c hc).2⟩
 ·have:=any_f h10 c hc
  simp only[grX] at this
  obtain⟨z1,z2⟩:=lbsG_sz this
  exact⟨z1,z2,lbsG_lbs this,(hr.r5 c hc).2⟩
theorem setS_z {x:Dat}{w V:Int}(h8:x.ss.length≤8)(h:∀ c∈x.ss,lbsG c.lb=false∧c.sm.length≤24):(setS x w V).rs.length≤8∧∀ r∈(setS x w V).rs,Rz r:=by
 unfold setS;cases V != 0 with
 |true=>exact⟨by simp,fun r hr=>by cases hr⟩
 |false =>
  simp only[cond_false]
  refine⟨Nat.le_trans (rolls_len w x.ss) h8,fun r hr=>?_⟩
  obtain⟨c,hc,_,rfl⟩:=rolls_mem hr
  obtain⟨a,b⟩:=h c hc
  obtain⟨z1,z2⟩:=lbsG_sz a
  have:=ofB_len c.k w c.sm
  exact⟨z1,z2,by simp only;omega⟩
theorem law8 (x:Dat)(w id:Int)(hr:x.Rd):∃ s',Ev E0 (.o 8) [.agg (x.pd.map .p),.c (.p (pI w)),.c (.p (pI id))] s00 (P' (.bool true)) s':=by
 have main:Wc E0 none (Tryz.f8.body.get rfl) { e:=[V.agg (x.pd.map .p),.c (.p (pI w)),.c (.p (pI id))].map .v++List.replicate (Tryz.f8.ntmps-3) (.tup []),ds:=[],s:=s00 } (bodyQ E0 Tryz.f8 fun d _=>d=P' (.bool true)):=by
  show Wc E0 none _ _ _
  simp only[List.map_cons,List.map_nil,List.cons_append,List.nil_append,Tryz.ntmps8,List.replicate,Nat.reduceSub,Nat.reduceAdd,s00]
  have p28:=pf28 x hr.sp
  refine gY ?_;refine gO ?_;cases k1:grD x with
  |true =>
   rw[k1] at p28
   refine gM fun K F=>?_;simp only[go_sem];refine gP p28 ?_;simp only[go_sem];apply F;clear F K;refine gG ?_;refine gN fun K F=>?_;simp only[go_sem];refine gP pf12 ?_;simp only[go_sem];apply F;clear F K;refine Wc.ret (thenD_ret ?_);exact Op.ret [.tmp 6] [.c (.p (.bool true))] rfl rfl kA rfl
  |false =>
  rw[k1] at p28
  refine gM fun K F=>?_;simp only[go_sem];refine gP p28 ?_;simp only[go_sem];apply F;clear F K;refine gH ?_;clear p28
  obtain⟨z,h8,hz⟩:=grD_z hr k1
  have p29:=pf29 x z w
  have p30:=pf30 x z w
  obtain⟨hS8,hSz⟩:=setS_z (w:=w) (V:=setE x w) h8 hz
  generalize setE x w=V at *;generalize setS x w V=S at *
  have p31:=pf31 S id kO hSz
  have p32:=pf32 S id kO hSz
  obtain⟨hB8,hBz⟩:=blkB_z (id:=id) hS8 hSz
  have p33:=pf33 S kO hSz
  generalize blkB S id=B at *;generalize blkE S id=U at *
  have p34:=pf34 B kO hBz
  clear hS8 hSz hB8 hBz z h8 hz k1;simp only[resB] at p31 p32;simp only[resS] at p29 p30
  have d1:(V==V)=true:=beq_self_eq_true V
  have d2:(U==U)=true:=beq_self_eq_true U
  refine gN fun K F=>?_;simp only[go_sem];refine gP p29 ?_;simp only[go_sem];apply F;clear F K;refine gN fun K F=>?_;simp only[go_sem];refine gP p30 ?_;simp only[go_sem];apply F;clear F K;refine gN fun K F=>?_;simp only[go_sem];refine gP p31 ?_;simp only[go_sem];apply F;clear F K;refine gN fun K F=>?_;simp only[go_sem];refine gP p32 ?_;simp only[go_sem];apply F;clear F K;refine gN fun K F=>?_;simp only[go_sem,d1,d2];refine gP p33 ?_;simp only[go_sem,d1,d2];refine gP p34 ?_;simp only[go_sem,d1,d2];refine gP pf12 ?_;simp only[go_sem];apply F;clear F K;exact wr (Op.ret [.tmp 6] [.c (.p (.bool true))] rfl rfl kA rfl)
 obtain⟨n,d,s',h1,h2⟩:=Ev.body (g:=8) (args:=[V.agg (x.pd.map .p),.c (.p (pI w)),.c (.p (pI id))]) kR rfl main
 subst h2
 exact⟨s',n+1,h1⟩
end Go.Proofs.YtedcnhbblgmdnaaGreat.Ab
