/- A part of the proof. -/
import Derived.Test.YtedcnhbblgmdnaaGreatT5
import Derived.RangeFuncNested
import Derived.RangeFuncLeaves
set_option maxHeartbeats 8000000
set_option maxRecDepth 10000
set_option linter.unusedSimpArgs false
set_option linter.unusedVariables false
/- An evaluator of the model's code with slices as pure lists: a region whose order is open is the machine's, in every order. -/
namespace Go.Proofs.YtedcnhbblgmdnaaGreat.Ab
open Go.RowKit
section
variable {X:Ctx} {P:Program} {E:Env} {T:CallT} {ops:Array Oper} {base:Nat}
theorem trOf_i {i:Nat}{e:List D}:(trOf E ops i e).i=i:=by
 unfold trOf
 split
 ·split<;>rfl
 ·rfl
theorem stepOp_some {i:Nat}{e e1:List D}{s s1:St}(h:stepOp E T ops base i e s=some (e1,s1)):∃ o,ops[i]? = some o:=by
 unfold stepOp at h
 split at h
 ·cases h
 ·rename_i o ho;exact⟨o,ho⟩
theorem Wf.step (hT:CallsPlain T E){p:Nat}{oi op:Oper}(hop:ops[p]? = some op){e e1:List D}{s s1:St}(hw:Wf oi e s)(h:stepOp E T ops base p e s=some (e1,s1))(hag:Agree ops oi e e1)
  (hc:(trOf E ops p e).cls≤4) (hfp:s.get (base+p)=none):Wf oi e1 s1:=by
 obtain⟨d,RK,w,rfl,l⟩:=step_local hT hop h hc
 have hres:=l.res
 have hhas:∀ k,s.has k→s1.has k:=fun k hk=>by
  obtain⟨o,ho⟩:=hk
  rw[hres]
  cases w with
  |none=>exact⟨o,ho⟩
  |some x =>
   obtain⟨j,ob⟩:=x
   by_cases e:j=k
   ·subst e;exact⟨ob,St.get_put_same _ _ _⟩
   ·exact⟨o,by simp only[putO,St.get_put];rw[if_neg e];exact ho⟩
 intro x hx
 rw[← hag.opd x hx]
 obtain⟨h1,h2⟩:=hw x hx
 refine⟨fun k hk=>hhas k (h1 k hk),fun n cs k hk es m tg hm=>?_⟩
 rw[hres] at hm
 cases w with
 |none=>exact h2 n cs k hk es m tg hm
 |some y =>
  obtain⟨j,ob⟩:=y
  simp only[putO,St.get_put] at hm
  by_cases e:j=k
  ·subst e
   rw[if_pos rfl] at hm
   cases hm;rcases l.wk j _ rfl with ⟨hx2,_⟩|⟨_,_,es',n1,n2,tg1,tg2,hf,he,hlt⟩|⟨_,_,_,_,hx2⟩
   ·obtain⟨o,ho⟩:=h1 j (.inr (.inr (.inl ⟨n,cs,hk⟩)))
    rw[hx2,hfp] at ho;cases ho
   ·cases he
    have:=h2 n cs j hk _ _ _ hf
    omega
   ·cases hx2
  ·rw[if_neg e] at hm
   exact h2 n cs k hk es m tg hm
theorem front_ok (hT:CallsPlain T E)(hTf:CallsFree T){i:Nat}{oi:Oper}(hoi:ops[i]? = some oi):∀ {pre post:List Nat} {e e':List D} {s s':St} {tr:List Tr},runOpsD E T ops base (pre++i::post) e s=some (e',s',tr)→trOK ops tr=true →
  (∀ p∈pre,p≠i∧hasEdge ops i p=false∧∀ op,ops[p]? = some op→apartD ops op oi=true)→(pre++i::post).Nodup→(∀ x∈pre++i::post,base+x<s.nx∧s.get (base+x)=none) →
  ((trOf E ops i e).cls≠0→Wf oi e s) →
  ∃ e1 s1 tr',stepOp E T ops base i e s=some (e1,s1)∧runOpsD E T ops base (pre++post) e1 s1=some (e',s',tr')∧trOK ops tr'=true∧(∀ x∈tr',x∈tr)∧trOf E ops i e∈tr
 |[],post,e,e',s,s',tr,h,htr,_,_,_,_=>by
  simp only[List.nil_append,runOpsD] at h
  split at h
  ·cases h
  ·rename_i e1 s1 hst
   split at h
   ·cases h
   ·rename_i e2 s2 t hrun
    cases h;simp only[trOK,Bool.and_eq_true] at htr
    exact⟨e1,s1,t,hst,hrun,htr.2,fun x hx=>List.mem_cons_of_mem _ hx,List.mem_cons_self ..⟩
 |p::pre,post,e,e',s,s',tr,h,htr,hpre,hnd,hfr,hwf=>by
  simp only[List.cons_append,runOpsD] at h
  split at h
  ·cases h
  ·rename_i e1 s1 hst
   split at h
   ·cases h
   ·rename_i e2 s2 t hrun
    cases h;simp only[trOK,Bool.and_eq_true] at htr
    obtain⟨htr1,htr2⟩:=htr
    obtain⟨op,hop⟩:=stepOp_some hst
    obtain⟨hpi,hpe,hpa⟩:=hpre p (List.mem_cons_self ..)
    have hap:=hpa op hop
    obtain⟨a1,a2,a3⟩:=apartD_spec hap
    obtain⟨d,hd,_⟩:=step_congr hop hst
    have hag:Agree ops oi e e1:=by rw[hd];exact Agree.put d a1
    simp only[List.cons_append,List.nodup_cons] at hnd
    obtain⟨hnx,hfree⟩:=step_free hTf hst
    have hfr':∀ x∈pre++i::post,base+x<s1.nx∧s1.get (base+x)=none:=fun x hx=>by
     obtain⟨h1,h2⟩:=hfr x (List.mem_cons_of_mem _ hx)
     refine⟨Nat.lt_of_lt_of_le h1 hnx,hfree _ h1 (fun e=>hnd.1 ?_) h2⟩
     have:x=p:=by omega
     rw[← this];exact hx
    obtain⟨hfp1,hfp2⟩:=hfr p (by simp)
    obtain⟨hfi1,hfi2⟩:=hfr i (by simp)
    have hfreeOK:trOf E ops i e1∈t→freeOK (trOf E ops p e) (trOf E ops i e1)=true:=fun hmem=>by
     have:=List.all_eq_true.1 htr1 _ hmem
     simp only[pairOK,Bool.or_eq_true,trOf_i,hpe,Bool.false_eq_true,or_false] at this;exact this
    have hwf':(trOf E ops i e1).cls≠0→trOf E ops i e1∈t→Wf oi e1 s1:=fun h0 hmem=>by
     have hf:=hfreeOK hmem
     have hc:(trOf E ops p e).cls≤4:=by
      simp only[freeOK,Bool.or_eq_true,Bool.and_eq_true,beq_iff_eq,decide_eq_true_eq] at hf;omega
     refine Wf.step hT hop (hwf ?_) hst hag hc hfp2
     rw[hag.tr hoi];exact h0
    have hin:trOf E ops i e1∈t:=trOf_mem hT hTf hoi hrun (fun q hq=>(hpre q (List.mem_cons_of_mem _ hq)).2.2)
    obtain⟨e3,s3,tr3,h3,h4,h5,h6,h7⟩:=front_ok hT hTf hoi hrun htr2 (fun q hq=>hpre q (List.mem_cons_of_mem _ hq)) hnd.2 hfr' (fun h0=>hwf' h0 hin)
    obtain⟨e1',s1',k1,k2,k3,k4⟩:=swap_ok hT hpi hop hoi hst h3 hap (hfreeOK hin) hfp2 hfi2 hwf
    refine⟨e1',s1',trOf E ops p e::tr3,k1,?_,?_,?_,?_⟩
    ·simp only[List.cons_append,runOpsD,k2,h4,k4]
    ·simp only[trOK,Bool.and_eq_true]
     exact⟨List.all_eq_true.2 fun x hx=>List.all_eq_true.1 htr1 x (h6 x hx),h5⟩
    ·intro x hx;rcases List.mem_cons.1 hx with rfl|hx
     ·exact List.mem_cons_self ..
     ·exact List.mem_cons_of_mem _ (h6 x hx)
    ·rw[k3];exact List.mem_cons_of_mem _ hin
where
 trOf_mem (hT:CallsPlain T E) (hTf:CallsFree T) {i:Nat} {oi:Oper} (hoi:ops[i]? = some oi):∀ {pre post:List Nat} {e e':List D} {s s':St} {tr:List Tr},runOpsD E T ops base (pre++i::post) e s=some (e',s',tr) →
   (∀ p∈pre,∀ op,ops[p]? = some op→apartD ops op oi=true)→trOf E ops i e∈tr
  |[],post,e,e',s,s',tr,h,_=>by
   simp only[List.nil_append,runOpsD] at h
   split at h
   ·cases h
   ·split at h
    ·cases h
    ·cases h;exact List.mem_cons_self ..
  |p::pre,post,e,e',s,s',tr,h,hpre=>by
   simp only[List.cons_append,runOpsD] at h
   split at h
   ·cases h
   ·rename_i e1 s1 hst
    split at h
    ·cases h
    ·rename_i e2 s2 t hrun
     cases h
     obtain⟨op,hop⟩:=stepOp_some hst
     obtain⟨a1,_,_⟩:=apartD_spec (hpre p (List.mem_cons_self ..) op hop)
     obtain⟨d,hd,_⟩:=step_congr hop hst
     have hag:Agree ops oi e e1:=by rw[hd];exact Agree.put d a1
     rw[hag.tr hoi]
     exact List.mem_cons_of_mem _ (trOf_mem hT hTf hoi hrun (fun q hq=>hpre q (List.mem_cons_of_mem _ hq)))
theorem wf_of_rel {G:Gh}{s:St}{W:World}{e:List D}{a:Act}(he:relDL G s W e a.tmps.toList)(o:Oper):Wf o e s:=fun x hx=>by
 have hr:=opd_rel he x
 refine⟨fun k hk=>?_,fun n cs k hk es m tg hm=>?_⟩
 ·rcases hk with ⟨off,h⟩|⟨off,n,es,h⟩|⟨n,cs,h⟩|⟨m,off,n,es,h⟩|⟨m,off,h⟩
  ·rw[h] at hr;exact hr.1.has
  ·rw[h] at hr;exact hr.1.has
  ·rw[h] at hr;exact hr.2.1
  ·rw[h] at hr;exact hr.1
  ·rw[h] at hr;exact hr.1
 ·rw[hk] at hr
  exact(hr.2.2 es m tg hm).1
def remOf (n:Nat)(listed:Array Bool):List Nat:=(List.range n).filter fun i=>!listed.getD i true
theorem statOK_spec (h:statOK ops=true){i:Nat}{oi:Oper}(hoi:ops[i]? = some oi):(∀ e∈oi.after,Region.binds .any e=true→e.on<i)∧∀ j,j<i→dirEdge ops i j=true∨∀ oj,ops[j]? = some oj→apartD ops oj oi=true:=by
 have hi:i<ops.size:=(Array.getElem?_eq_some_iff.1 hoi).1
 have h1:=List.all_eq_true.1 h i (by simpa using hi)
 simp only[hoi,Bool.and_eq_true] at h1
 refine⟨fun e he hb=>?_,fun j hj=>?_⟩
 ·have:=List.all_eq_true.1 h1.1 e (by simpa using he)
  simpa[hb] using this
 ·have:=List.all_eq_true.1 h1.2 j (by simpa using hj)
  simp only[Bool.or_eq_true] at this;rcases this with h|h
  ·exact .inl h
  ·refine .inr fun oj ho=>?_
   rw[ho] at h;exact h
def Closed (ops:Array Oper)(listed:Array Bool):Prop:=∀ i o,ops[i]? = some o→listed.getD i true=true→∀ e∈o.after,Region.binds .any e=true→listed.getD e.on true=true
theorem done_getD {listed:Array Bool}(hls:listed.size=ops.size){j:Nat}(h:listed.getD j false=true):listed.getD j true=true:=by
 by_cases hlt:j<listed.size
 ·simp[Array.getD,hlt] at h ⊢;exact h
 ·simp[Array.getD,hlt] at h
theorem reach_done {listed:Array Bool}(hdc:Closed ops listed):∀(f:Nat) {i j:Nat},(∀ o,ops[i]? = some o→∀ e∈o.after,Region.binds .any e=true→listed.getD e.on true=true)→reach ops f i j=true→listed.getD j true=true
 |0,i,j,_,h=>by simp[reach] at h
 |f+1,i,j,hi,h=>by
  simp only[reach] at h
  split at h
  ·rename_i o ho
   obtain⟨e,he,h2⟩:=List.any_eq_true.1 h
   simp only[Bool.and_eq_true,Bool.or_eq_true,beq_iff_eq] at h2
   have h3:=hi o ho e (by simpa using he) h2.1
   rcases h2.2 with h4|h4
   ·rw[h4] at h3;exact h3
   ·exact reach_done hdc f (fun o' ho' e' he' hb'=>hdc e.on o' ho' h3 e' he' hb') h4
  ·cases h
theorem edge_done {listed:Array Bool}(hls:listed.size=ops.size)(hdc:Closed ops listed){i p:Nat}{oi:Oper}(hoi:ops[i]? = some oi)(hall:∀ e∈oi.after,Region.binds .any e=true→listed.getD e.on true=true)(h:hasEdge ops i p=true):listed.getD p true=true:=by
 unfold hasEdge at h
 rw[Bool.or_eq_true] at h
 rcases h with h|h
 ·unfold dirEdge at h
  rw[hoi] at h
  obtain⟨ed,hed,hq2⟩:=List.any_eq_true.1 h
  simp only[Bool.and_eq_true,beq_iff_eq] at hq2
  have h1:=hall ed (by simpa using hed) hq2.1
  rw[hq2.2] at h1
  exact h1
 ·refine reach_done hdc 9 (fun o ho e he hb=>?_) h
  rw[hoi] at ho;cases ho
  exact hall e he hb
theorem closed_set {listed:Array Bool}(hls:listed.size=ops.size)(hdc:Closed ops listed){i:Nat}{oi:Oper}(hoi:ops[i]? = some oi)(hall:∀ e∈oi.after,Region.binds .any e=true→listed.getD e.on true=true):Closed ops (listed.setIfInBounds i true):=by
 have up:∀ j,listed.getD j true=true→(listed.setIfInBounds i true).getD j true=true:=fun j hj=>by
  rw[Array.getD_eq_getD_getElem?] at hj ⊢
  rw[Array.getElem?_setIfInBounds]
  split
  ·split<;>rfl
  ·exact hj
 intro k o ho hk e he hb
 by_cases hki:i=k
 ·subst hki
  rw[hoi] at ho;cases ho
  exact up _ (hall e he hb)
 ·refine up _ (hdc k o ho ?_ e he hb)
  rw[Array.getD_eq_getD_getElem?] at hk ⊢
  rwa [Array.getElem?_setIfInBounds_ne hki] at hk
theorem any_ok {r:Option Nat}(hE:EnvTy P E)(hTc:CallsOK P E T)(hT:CallsPlain T E)(hTf:CallsFree T)(hst:statOK ops=true){Q:Exit→Act→World→Prop}:∀(fuel:Nat) {listed:Array Bool} {G:Gh} {s s':St} {W:World} {e e':List D} {a:Act} {tr:List Tr},
  listed.size=ops.size→(remOf ops.size listed).length=fuel→Inv X G s W→relDL G s W e a.tmps.toList→(∀ x∈remOf ops.size listed,base+x<s.nx∧s.get (base+x)=none)→Closed ops listed →
  runOpsD E T ops base (remOf ops.size listed) e s=some (e',s',tr)→trOK ops tr=true →
  (∀ a' W' G',Inv X G' s' W'→Ext G s W G' s' W'→relDL G' s' W' e' a'.tmps.toList→a'.defers=a.defers→Q .normal a' W')→wpAnyIn (FW r) 0 P .any ops Q fuel listed a W
 |0,listed,G,s,s',W,e,e',a,tr,hls,hlen,hI,he,hfr,hdc,h,htr,hQ=>by
  have hnil:=List.length_eq_zero_iff.1 hlen
  rw[hnil] at h
  simp only[runOpsD] at h;cases h
  refine⟨?_,hQ a W G hI (Ext.refl _ _ _) he rfl⟩
  apply List.eq_nil_iff_forall_not_mem.2;intro j hj
  obtain⟨h1,o,ho,_⟩:=mem_ready.1 hj
  have:j∈remOf ops.size listed:=List.mem_filter.2 ⟨by simpa using(Array.getElem?_eq_some_iff.1 ho).1,by rw[h1];rfl⟩
  rw[hnil] at this;cases this
 |fuel+1,listed,G,s,s',W,e,e',a,tr,hls,hlen,hI,he,hfr,hdc,h,htr,hQ=>by
  refine⟨fun hr=>?_,fun i hi=>?_⟩
  ·-- the first that is left may come
   exfalso
   cases hq:remOf ops.size listed with
   |nil=>rw[hq] at hlen;cases hlen
   |cons j rest =>
    have hjm:j∈remOf ops.size listed:=by rw[hq];exact List.mem_cons_self ..
    obtain⟨hj1,hj2⟩:=List.mem_filter.1 hjm
    have hjlt:j<ops.size:=by simpa using hj1
    have hjl:listed.getD j true=false:=by simpa using hj2
    have ho:ops[j]? = some ops[j]:=Array.getElem?_eq_getElem hjlt
    have : j ∈ Region.ready .any ops listed := mem_ready.2 ⟨hjl, ops[j], ho, fun ed hed hb => by
     have hlt:=(statOK_spec hst ho).1 ed hed hb
     by_cases hx:listed.getD ed.on true=false
     ·exfalso
      have hmem:ed.on∈remOf ops.size listed:=List.mem_filter.2 ⟨by simp;omega,by rw[hx];rfl⟩
      rw[hq] at hmem
      have hsorted:(remOf ops.size listed).Pairwise (· < ·):=List.Pairwise.filter _ List.pairwise_lt_range
      rw[hq] at hsorted
      rcases List.mem_cons.1 hmem with h|h
      ·omega
      ·have:=(List.pairwise_cons.1 hsorted).1 _ h;omega
     ·have hlt2:ed.on<listed.size:=by omega
      have:listed[ed.on]? = some true:=by
       rw[Array.getElem?_eq_getElem hlt2]
       simp[Array.getD,hlt2] at hx
       rw[hx]
      simp[Array.getD,hlt2]
      simpa[Array.getElem?_eq_getElem hlt2] using this⟩
    rw[hr] at this;cases this
  ·obtain⟨hil,oi,hoi,hall⟩:=mem_ready.1 hi
   have hilt:i<ops.size:=(Array.getElem?_eq_some_iff.1 hoi).1
   have him:i∈remOf ops.size listed:=List.mem_filter.2 ⟨by simpa using hilt,by rw[hil];rfl⟩
   obtain⟨pre,post,hpp⟩:=List.append_of_mem him
   have hsorted:(remOf ops.size listed).Pairwise (· < ·):=List.Pairwise.filter _ List.pairwise_lt_range
   have hnd:(remOf ops.size listed).Nodup:=hsorted.imp fun h=>Nat.ne_of_lt h
   have hnew:remOf ops.size (listed.setIfInBounds i true)=pre++post:=by
    have e1:remOf ops.size (listed.setIfInBounds i true)=(remOf ops.size listed).filter (fun j=>decide (j≠i)):=by
     unfold remOf
     rw[List.filter_filter]
     apply List.filter_congr;intro j hj
     by_cases e:j=i
     ·subst e;simp[hls,hilt]
     ·simp[Array.getD_eq_getD_getElem?,Array.getElem?_setIfInBounds_ne (fun h=>e h.symm:i≠j),e]
    rw[e1,hpp]
    rw[hpp] at hnd
    have hn1:=List.nodup_append.1 hnd
    have hn2:=List.nodup_cons.1 hn1.2.1
    rw[List.filter_append,List.filter_cons]
    have p1:pre.filter (fun j=>decide (j≠i))=pre:=List.filter_eq_self.2 fun x hx=>by
     simp;rintro rfl;exact(hn1.2.2 x hx x (List.mem_cons_self ..)) rfl
    have p2:post.filter (fun j=>decide (j≠i))=post:=List.filter_eq_self.2 fun x hx=>by
     simp;rintro rfl;exact hn2.1 hx
    rw[p1,p2]
    simp
   rw[hpp] at h hnd
   have hfr':∀ x∈pre++i::post,base+x<s.nx∧s.get (base+x)=none:=fun x hx=>hfr x (by rw[hpp];exact hx)
   have hpre:∀ p∈pre,p≠i∧hasEdge ops i p=false∧∀ op,ops[p]? = some op→apartD ops op oi=true:=fun p hp=>by
    have hpm:p∈remOf ops.size listed:=by rw[hpp];exact List.mem_append_left _ hp
    have hpl:listed.getD p true=false:=by simpa using(List.mem_filter.1 hpm).2
    have hplt:p<ops.size:=by simpa using(List.mem_filter.1 hpm).1
    have hlt:p<i:=by
     rw[hpp] at hsorted
     exact(List.pairwise_append.1 hsorted).2.2 p hp i (List.mem_cons_self ..)
    have hne:hasEdge ops i p=false:=by
     cases hq:hasEdge ops i p with
     |false=>rfl
     |true =>
      exfalso
      have h1:=edge_done hls hdc hoi (fun ed hed hb=>done_getD hls (hall ed hed hb)) hq
      rw[h1] at hpl;cases hpl
    exact ⟨by omega, hne, ((statOK_spec hst hoi).2 p hlt).resolve_left (by
     unfold hasEdge at hne
     rw[Bool.or_eq_false_iff] at hne
     rw[hne.1];simp)⟩
   obtain⟨e1,s1,tr',h1,h2,h3,_,_⟩:=front_ok hT hTf hoi h htr hpre hnd hfr' (fun _=>wf_of_rel he oi)
   obtain⟨hk,hn⟩:=hfr' i (by simp)
   obtain⟨hnx,hfree⟩:=step_free hTf h1
   refine step_ok hE hTc hI he hk hn h1 (K:=wpAnyIn (FW r) 0 P .any ops Q fuel (listed.setIfInBounds i true)) fun a' W' G' i1 i2 i3 i4=>?_;refine any_ok hE hTc hT hTf hst fuel (by simpa using hls) ?_ i1 i3 ?_ (closed_set hls hdc hoi fun ed hed hb=>done_getD hls (hall ed hed hb)) (by rw[hnew];exact h2) h3 fun a2 W2 G2 k1 k2 k3 k4=>hQ a2 W2 G2 k1 (i2.trans k2) k3 (k4.trans i4)
   ·rw[hnew];rw[hpp] at hlen;simp at hlen ⊢;omega
   ·rw[hnew]
    intro x hx
    have hxm:x∈pre++i::post:=by
     rcases List.mem_append.1 hx with hx|hx
     ·exact List.mem_append_left _ hx
     ·exact List.mem_append_right _ (List.mem_cons_of_mem _ hx)
    obtain⟨g1,g2⟩:=hfr' x hxm
    refine⟨Nat.lt_of_lt_of_le g1 hnx,hfree _ g1 (fun e=>?_) g2⟩
    have hxi:x=i:=by omega
    subst hxi
    have hn1:=List.nodup_append.1 hnd
    have hn2:=List.nodup_cons.1 hn1.2.1
    rcases List.mem_append.1 hx with hx|hx
    ·exact(hn1.2.2 x hx x (List.mem_cons_self ..)) rfl
    ·exact hn2.1 hx
end
end Go.Proofs.YtedcnhbblgmdnaaGreat.Ab
/- An evaluator of the model's code with slices as pure lists: code is the machine's. -/
namespace Go.Proofs.YtedcnhbblgmdnaaGreat.Ab
open Go.RowKit
/-! ### loops -/
def LoopAt (F:Fence)(n:Nat)(P:Program)(c:Code)(Q:Exit→Act→World→Prop)(a:Act)(w:World):Prop :=
 ∀(b:Frame) (k:List Item) (cs:List Frame),b.roundOf=F.round→F.fn b.fn→F.room (cs.length+1+n) →
  ∃ e a' w',Q e a' w'∧ArrivesIn (Machine.fenced P F) P (lone (b.atR a (.code c :: .inLoop c::k)) cs w) b k cs e a' w'
theorem LoopAt.of_body {F:Fence}{n:Nat}{P:Program}{c:Code}{Q:Exit→Act→World→Prop}{a:Act}{w:World}(h:c.wpIn F n P (Exit.then (LoopAt F n P c Q) Q) a w):LoopAt F n P c Q a w:=by
 intro b k cs hro hb hr
 obtain⟨e,a₁,w₁,hq,harr⟩:=h b (.inLoop c::k) cs hro hb hr
 cases e with
 |normal =>
  obtain⟨e₂,a₂,w₂,hq₂,harr₂⟩:=hq b k cs hro hb hr
  exact⟨e₂,a₂,w₂,hq₂,.of_steps (StepsIn.trans harr (.one (fenced_calm hb hr rfl) stepR_inLoop)) harr₂⟩
 |exit id=>exact⟨_,a₁,w₁,hq,.pass (x:=.inLoop c) rfl (fun _ _=>.inl (by simp)) harr⟩
 |goto l=>exact⟨_,a₁,w₁,hq,.pass (x:=.inLoop c) rfl (fun _ _=>.inl (by simp)) harr⟩
 |ret=>exact⟨_,a₁,w₁,hq,.pass (x:=.inLoop c) rfl (fun _ _=>.inl (by simp)) harr⟩
 |panic ch=>exact⟨_,a₁,w₁,hq,.pass (x:=.inLoop c) rfl (fun _ _=>.inl (by simp)) harr⟩
 |outgrown=>exact⟨_,a₁,w₁,hq,.pass (x:=.inLoop c) rfl (fun _ _=>.inl (by simp)) harr⟩
theorem wpIn_loop_at {F:Fence}{n:Nat}{P:Program}{c:Code}{Q:Exit→Act→World→Prop}{a:Act}{w:World}(h:LoopAt F n P c Q a w):(Code.loop c).wpIn F n P Q a w:=fun b k cs hro hb hr =>
 let ⟨e,a',w',hq,harr⟩:=h b k cs hro hb hr
 ⟨e,a',w',hq,.of_steps (.one (fenced_calm hb hr rfl) stepR_loop) harr⟩
section
variable {X:Ctx} {G G':Gh} {s s':St} {W W':World} {P:Program} {E:Env} {T:CallT}
/-! ### objects that hold no cells -/
theorem new_other (hI:Inv X G s W){k:Nat}(hk:k<s.nx)(hn:s.get k=none){ob:Ob}(o:Obj)
  (hrel:Ext G s W (G.set k W.heap.size 0) (s.put k ob) (W.alloc o)→relOb X (G.set k W.heap.size 0) (s.put k ob) (W.alloc o) k ob) :
  Inv X (G.set k W.heap.size 0) (s.put k ob) (W.alloc o)∧Ext G s W (G.set k W.heap.size 0) (s.put k ob) (W.alloc o):=by
 have hoth:=Gh.set_oth G k W.heap.size 0
 have hext:Ext G s W (G.set k W.heap.size 0) (s.put k ob) (W.alloc o) :=
  Ext.upd (fun b o hi=>⟨hi,cell_alloc_old W _ o (hI.immlt b o hi)⟩) (fun j h=>hoth j h) (.inl hn)
 exact ⟨hI.upd (b0 := W.heap.size) hk (fun _ => (Gh.set_same G k _ 0).1) (fun j h => hoth j h) ((Below.refl _ W).alloc hI.bsz _) (fun b hb hlt => Below.heap_alloc W _ b hlt)
  (fun j oj hj hl _=>Nat.ne_of_lt (hI.blk_lt hj hl)) (fun b o h=>.inl h) hext (hrel hext),hext⟩
/-! ### what is free stays free -/
theorem fresh_trans {s1 s2 s3:St}(h:s1.nx≤s2.nx∧Fresh s1 s2)(k:s2.nx≤s3.nx∧Fresh s2 s3):s1.nx≤s3.nx∧Fresh s1 s3 :=
 ⟨Nat.le_trans h.1 k.1,fun j hj hn=>k.2 j (Nat.lt_of_lt_of_le hj h.1) (h.2 j hj hn)⟩
theorem fresh_of_but {key:Nat}{s0 s s':St}(h0:s0.nx≤s.nx∧Fresh s0 s)(hkey:s0.nx≤key)(h:FreeBut key s s'):s0.nx≤s'.nx∧Fresh s0 s' :=
 ⟨Nat.le_trans h0.1 h.1,fun k hk hn=>h.2 k (Nat.lt_of_lt_of_le hk h0.1) (by omega) (h0.2 k hk hn)⟩
theorem fresh_more (n:Nat):s.nx≤({ s with nx:=s.nx+n }:St).nx∧Fresh s { s with nx:=s.nx+n }:=⟨Nat.le_add_right _ _,fun _ _ h=>h⟩
theorem fresh_putt {k0:Nat}{o:Ob}(h:(s.get k0).isSome=true):s.nx≤(s.put k0 o).nx∧Fresh s (s.put k0 o):=⟨Nat.le_refl _,fresh_put h⟩
theorem runOps_free (hT:CallsFree T){ops:Array Oper}{base:Nat}{s0:St}(hb:s0.nx≤base):∀ {l:List Nat} {e e':List D} {s s':St},s0.nx≤s.nx∧Fresh s0 s→runOps E T ops base l e s=some (e',s')→s0.nx≤s'.nx∧Fresh s0 s'
 |[],e,e',s,s',h0,h=>by simp only[runOps] at h;cases h;exact h0
 |i::l,e,e',s,s',h0,h=>by
  simp only[runOps] at h
  split at h
  ·cases h
  ·rename_i e1 s1 hst
   exact runOps_free hT hb (fresh_of_but h0 (by omega) (step_free hT hst)) h
theorem runOpsD_free (hT:CallsFree T){ops:Array Oper}{base:Nat}{s0:St}(hb:s0.nx≤base):∀ {l:List Nat} {e e':List D} {s s':St} {t:List Tr},s0.nx≤s.nx∧Fresh s0 s→runOpsD E T ops base l e s=some (e',s',t)→s0.nx≤s'.nx∧Fresh s0 s'
 |[],e,e',s,s',t,h0,h=>by simp only[runOpsD] at h;cases h;exact h0
 |i::l,e,e',s,s',t,h0,h=>by
  simp only[runOpsD] at h
  split at h
  ·cases h
  ·rename_i e1 s1 hst
   split at h
   ·cases h
   ·rename_i e2 s2 t2 hr
    cases h;exact runOpsD_free hT hb (fresh_of_but h0 (by omega) (step_free hT hst)) hr
theorem iterL_free {f:Fr→Option (Ex×Fr)}{s0:St}(hf:∀ x ex y,f x=some (ex,y)→x.s.nx≤y.s.nx∧Fresh x.s y.s):∀ {n:Nat} {x:Fr} {ex:Ex} {y:Fr},iterL f n x=some (ex,y)→x.s.nx≤y.s.nx∧Fresh x.s y.s
 |0,x,ex,y,h=>by simp[iterL] at h
 |n+1,x,ex,y,h=>by
  simp only[iterL] at h
  split at h
  ·cases h
  ·rename_i z hz;exact fresh_trans (hf _ _ _ hz) (iterL_free hf (s0:=s0) h)
  ·rename_i i z hz;cases h;exact hf _ _ _ hz
  ·rename_i z hz;cases h;exact hf _ _ _ hz
theorem endLoopD_free {l:Nat}{p:Option Code}(h:endLoopD s l=some (p,s')):s.nx≤s'.nx∧Fresh s s':=by
 unfold endLoopD at h
 split at h
 ·rename_i r hg
  split at h
  ·cases h
  ·cases h;exact fresh_putt (by rw[hg];rfl)
 ·cases h
theorem leaveD_s {pend:Option Code}{y z:Fr}{ex:Ex}(h:leaveD pend y=some (ex,z)):z=y∧((pend=none∧ex=.normal)∨(pend=some .ret∧ex=.ret)∨∃ i,pend=some (.exit i)∧ex=.exit i):=by
 unfold leaveD at h
 split at h
 ·cases h;exact⟨rfl,.inl ⟨rfl,rfl⟩⟩
 ·cases h;exact⟨rfl,.inr (.inl ⟨rfl,rfl⟩)⟩
 ·rename_i i;cases h;exact⟨rfl,.inr (.inr ⟨i,rfl,rfl⟩)⟩
 ·cases h
theorem enterD_free {ro:Option Nat}{ds:List Nat}(h:enterD s ro=some (ds,s')):s.nx≤s'.nx∧Fresh s s':=by
 unfold enterD at h
 split at h
 ·cases h
  refine⟨Nat.le_add_right _ _,fun k hk hn=>?_⟩
  rw[St.get_put,if_neg (by omega)];exact hn
 ·split at h
  ·cases h;exact fresh_more 2
  ·cases h
theorem evalC_free (hT:CallsFree T){n:Nat}{ro:Option Nat}:∀ {c:Code} {x:Fr} {ex:Ex} {y:Fr},evalC E T n ro c x=some (ex,y)→x.s.nx≤y.s.nx∧Fresh x.s y.s:=by
 intro c
 induction c with
 |skip=>intro x ex y h;simp only[evalC] at h;cases h;exact⟨Nat.le_refl _,Fresh.refl _⟩
 |label l=>intro x ex y h;simp only[evalC] at h;cases h;exact⟨Nat.le_refl _,Fresh.refl _⟩
 |exit id=>intro x ex y h;simp only[evalC] at h;cases h;exact⟨Nat.le_refl _,Fresh.refl _⟩
 |ret=>intro x ex y h;simp only[evalC] at h;cases h;exact⟨Nat.le_refl _,Fresh.refl _⟩
 |region id ops d =>
  intro x ex y h;simp only[evalC] at h
  split at h
  ·split at h
   ·cases h
   ·rename_i e s1 t hr
    split at h
    ·cases h;exact runOpsD_free hT (Nat.le_refl _) (fresh_more _) hr
    ·cases h
  ·split at h
   ·cases h
   ·rename_i e s1 hr
    cases h;exact runOps_free hT (Nat.le_refl _) (fresh_more _) hr
 |seq a b iha ihb =>
  intro x ex y h;simp only[evalC] at h
  split at h
  ·rename_i z hz;exact fresh_trans (iha hz) (ihb h)
  ·exact iha h
 |cond c a b iha ihb =>
  intro x ex y h;simp only[evalC] at h
  split at h
  ·exact iha h
  ·exact ihb h
  ·cases h
 |block id c ih =>
  intro x ex y h;simp only[evalC] at h
  split at h
  ·rename_i i z hz
   split at h<;>cases h<;>exact ih hz
  ·exact ih h
 |loop c ih =>
  intro x ex y h;simp only[evalC] at h;exact iterL_free (s0:=x.s) (fun x ex y h=>ih h) h
 |rangeFunc f ps assign body _ _ =>
  intro x ex y h;simp only[evalC] at h
  split at h
  ·cases h
  ·split at h
   ·cases h
   ·rename_i g cap hg ds s1 hen
    split at h
    ·cases h
    ·rename_i d s3 hcall
     split at h
     ·cases h
     ·rename_i pend s4 hend
      obtain⟨rfl,_⟩:=leaveD_s h
      have h0:=enterD_free hen
      have hx:x.s.nx<s1.nx:=by
       unfold enterD at hen
       split at hen
       ·cases hen;simp[St.put]
       ·split at hen
        ·cases hen;simp
        ·cases hen
      have h1:x.s.nx≤(s1.put x.s.nx (.loop { st:=.ready,pend:=none,e:=x.e,ps:=ps.toList,assign:=assign,body:=body })).nx∧Fresh x.s (s1.put x.s.nx (.loop { st:=.ready,pend:=none,e:=x.e,ps:=ps.toList,assign:=assign,body:=body })) :=
       ⟨h0.1,fun k hk hn=>by rw[St.get_put,if_neg (by omega)];exact h0.2 k hk hn⟩
      exact fresh_trans (fresh_trans h1 (hT.free _ _ _ _ _ hcall)) (endLoopD_free hend)
 |_=>intro x ex y h;simp[evalC] at h
end
end Go.Proofs.YtedcnhbblgmdnaaGreat.Ab
/- An evaluator of the model's code with slices as pure lists: code is the machine's: the walk. -/
namespace Go.Proofs.YtedcnhbblgmdnaaGreat.Ab
open Go.RowKit
section
variable {X:Ctx} {G G':Gh} {s s':St} {W W':World} {P:Program} {E:Env} {T:CallT}
def exOf:Ex→Exit
 |.normal=>.normal
 |.exit i=>.exit i
 |.ret=>.ret
structure FrRel (X:Ctx) (G:Gh) (x:Fr) (a:Act) (W:World):Prop where
 inv:Inv X G x.s W
 tmps:relDL G x.s W x.e a.tmps.toList
 defers:a.defers=x.ds.map fun k=>{ target:=.collected (G.blk k),args:=#[] }
 nofr:∀ k∈x.ds,x.s.nofr k
def RoOK (G:Gh)(s:St)(r ro:Option Nat):Prop:=(ro=none∧r=none)∨∃ k,ro=some k∧r=some (G.blk k)∧s.nofr k
theorem RoOK.ext {r ro:Option Nat}(h:RoOK G s r ro)(e:Ext G s W G' s' W'):RoOK G' s' r ro:=by
 rcases h with h|⟨k,h1,h2,h3⟩
 ·exact .inl h
 ·exact .inr ⟨k,h1,by rw[(e.bl k h3).2];exact h2,e.nofr h3⟩
theorem defers_ext {ds:List Nat}(e:Ext G s W G' s' W')(h:∀ k∈ds,s.nofr k):(ds.map fun k=>({ target:=.collected (G.blk k),args:=#[] }:Deferred))=ds.map fun k=>{ target:=.collected (G'.blk k),args:=#[] } :=
 List.map_congr_left fun k hk=>by rw[(e.bl k (h k hk)).2]
theorem target_rel {d:D}{v:Value}{g:Nat}{cap:List V}(h:targetOf d=some (g,cap))(hr:relD G s W d v):∃ lb:Array Value,v=.func (.func g) #[] lb∧relVL G s W cap lb.toList:=by
 unfold targetOf at h
 split at h
 ·cases h;simp only[relD,relV,relC,relPd] at hr
  exact⟨#[],hr,rfl⟩
 ·cases h;simp only[relD,relV,relC] at hr
  obtain⟨f',vf,vc,rfl,h1,h2,h3⟩:=hr
  simp only[relFn] at h1;simp only[relCL] at h2
  refine⟨vc,?_,relCL_VL h3⟩
  rw[h1]
  congr
  exact Array.ext' h2
 ·cases h
theorem loop_ok {F:Fence}{n:Nat}{c:Code}{Q:Exit→Act→World→Prop}{f:Fr→Option (Ex×Fr)}{r ro:Option Nat}
  (step : ∀ {G : Gh} {W : World} {x y : Fr} {ex : Ex} {a : Act} (Q : Exit → Act → World → Prop), f x = some (ex, y) → FrRel X G x a W → RoOK G x.s r ro →
   (∀ a' W' G',FrRel X G' y a' W'→Ext G x.s W G' y.s W'→Q (exOf ex) a' W')→c.wpIn F n P Q a W):∀ {m:Nat} {G:Gh} {W:World} {x y:Fr} {ex:Ex} {a:Act},iterL f m x=some (ex,y)→FrRel X G x a W→RoOK G x.s r ro →
   (∀ a' W' G',FrRel X G' y a' W'→Ext G x.s W G' y.s W'→Q (exOf ex) a' W')→LoopAt F n P c Q a W
 |0,G,W,x,y,ex,a,h,_,_,_=>by simp[iterL] at h
 |m+1,G,W,x,y,ex,a,h,hx,hro,hQ=>by
  simp only[iterL] at h
  split at h
  ·cases h
  ·rename_i z hz
   exact LoopAt.of_body (step _ hz hx hro fun a1 W1 G1 h1 h2=>loop_ok step h h1 (hro.ext h2) fun a2 W2 G2 k1 k2=>hQ a2 W2 G2 k1 (h2.trans k2))
  ·rename_i i z hz
   cases h;exact LoopAt.of_body (step _ hz hx hro fun a1 W1 G1 h1 h2=>hQ a1 W1 G1 h1 h2)
  ·rename_i z hz
   cases h;exact LoopAt.of_body (step _ hz hx hro fun a1 W1 G1 h1 h2=>hQ a1 W1 G1 h1 h2)
theorem new_loop (hI:Inv X G s W){k:Nat}(hk:k<s.nx)(hn:s.get k=none){e:List D}{tmps:Array Value}(he:relDL G s W e tmps.toList){ps:Array Nat}{assign body:Code}(ha:codeOK assign=true)(hb:codeOK body=true)(fn dfs:Nat) :
  ∃ G',G'.blk k=W.heap.size∧Inv X G' (s.put k (.loop { st:=.ready,pend:=none,e:=e,ps:=ps.toList,assign:=assign,body:=body })) (W.alloc (.loop { state:=.ready,pending:=none,fn,tmps,params:=ps,assign,body,defers:=dfs })) ∧
   Ext G s W G' (s.put k (.loop { st:=.ready,pend:=none,e:=e,ps:=ps.toList,assign:=assign,body:=body })) (W.alloc (.loop { state:=.ready,pending:=none,fn,tmps,params:=ps,assign,body,defers:=dfs })):=by
 have hb0:=(Gh.set_same G k W.heap.size 0).1
 obtain⟨h1,h2⟩:=new_other hI hk hn (ob:=.loop { st:=.ready,pend:=none,e:=e,ps:=ps.toList,assign:=assign,body:=body }) (.loop { state:=.ready,pending:=none,fn,tmps,params:=ps,assign,body,defers:=dfs })
  (fun hext=>⟨by rw[hb0];exact hI.bsz,_,by rw[hb0];exact heap_alloc_new W _,rfl,rfl,relDL_ext hext he,rfl,rfl,rfl,ha,hb⟩)
 exact⟨_,hb0,h1,h2⟩
theorem endLoop_ok (hI:Inv X G s W){k:Nat}{pend:Option Code}(h:endLoopD s k=some (pend,s')):∃ W',(Instr.endLoop (G.blk k)).run P W=.ok pend W'∧Inv X G s' W'∧Ext G s W G s' W':=by
 unfold endLoopD at h
 split at h
 ·rename_i r hg
  split at h
  ·cases h
  ·rename_i hst
   cases h
   obtain⟨h1,L,h2,h3,h4,h5,h6⟩:=hI.ob k _ hg
   have hrun:=run_endLoop (P:=P) h2 (by rw[h3];exact hst)
   obtain⟨k1,k2⟩:=put_other hI hg (ob:=.loop { r with st:=.exhausted }) trivial rfl rfl h2 h1 rfl rfl (o':=.loop { L with state:=.exhausted })
    (fun hext=>⟨h1,_,World.putObj_heap_same (Array.getElem?_eq_some_iff.1 h2).1,rfl,h4,relDL_ext hext h5,h6⟩)
   exact⟨_,by rw[← h4];exact hrun,k1,k2⟩
 ·cases h
theorem evalC_ok (hE:EnvTy P E)(hTc:CallsOK P E T)(hT:CallsPlain T E)(hTf:CallsFree T)(hm:P.follows .mixedOrders=true){n:Nat}{r ro:Option Nat}:∀ {c:Code} {G:Gh} {W:World} {x y:Fr} {ex:Ex} {a:Act} (Q:Exit→Act→World→Prop),
  codeOK c=true→evalC E T n ro c x=some (ex,y)→FrRel X G x a W→RoOK G x.s r ro →
  (∀ a' W' G',FrRel X G' y a' W'→Ext G x.s W G' y.s W'→Q (exOf ex) a' W')→c.wpIn (FW r) 0 P Q a W:=by
 intro c
 induction c with
 |skip=>intro G W x y ex a Q hc h hx hro hQ;simp only[evalC] at h;cases h;exact wpIn_skip (hQ _ _ G hx (Ext.refl _ _ _))
 |label l=>intro G W x y ex a Q hc h hx hro hQ;simp only[evalC] at h;cases h;exact wpIn_label (hQ _ _ G hx (Ext.refl _ _ _))
 |exit id=>intro G W x y ex a Q hc h hx hro hQ;simp only[evalC] at h;cases h;exact wpIn_exit (hQ _ _ G hx (Ext.refl _ _ _))
 |ret=>intro G W x y ex a Q hc h hx hro hQ;simp only[evalC] at h;cases h;exact wpIn_ret (hQ _ _ G hx (Ext.refl _ _ _))
 |region id ops d =>
  intro G W x y ex a Q hc h hx hro hQ;simp only[evalC] at h
  have hfr:∀ i∈List.range ops.size,x.s.nx+i<({ x.s with nx:=x.s.nx+ops.size }:St).nx∧({ x.s with nx:=x.s.nx+ops.size }:St).get (x.s.nx+i)=none:=fun i hi=>by
   have hi':i<ops.size:=by simpa using hi
   refine⟨by simp;omega,?_⟩
   cases hg:x.s.get (x.s.nx+i) with
   |none=>exact hg
   |some o=>have:=hx.inv.lt _ _ hg;omega
  cases d with
  |true =>
   simp only[if_true] at h
   split at h
   ·cases h
   ·rename_i e s1 t hr
    split at h
    ·rename_i htr
     cases h
     have hst:statOK ops=true:=by simpa[codeOK] using hc
     refine wpIn_region_any hm ?_
     obtain⟨h1,h2⟩:=hx.inv.drew.more ops.size
     have hrem:remOf ops.size (Array.replicate ops.size false)=List.range ops.size:=by
      unfold remOf;refine List.filter_eq_self.2 fun i hi=>?_
      have hi':i<ops.size:=by simpa using hi
      simp[Array.getD,hi']
     have h0:Ext G x.s W G { x.s with nx:=x.s.nx+ops.size } W.drew:=(Ext.drew _ _ _).trans h2
     refine any_ok hE hTc hT hTf hst ops.size (by simp) (by rw[hrem];simp) h1 (relDL_ext h0 hx.tmps) (by rw[hrem];exact hfr) (fun i o ho hk=>by have hi:=(Array.getElem?_eq_some_iff.1 ho).1;simp[Array.getD,hi] at hk) (by rw[hrem];exact hr) htr fun a' W' G' k1 k2 k3 k4=>?_
     have k:=h0.trans k2
     exact hQ a' W' G' ⟨k1,k3,by rw[k4,hx.defers];exact defers_ext k hx.nofr,fun q hq=>k.nofr (hx.nofr q hq)⟩ k
    ·cases h
  |false =>
   simp only[Bool.false_eq_true,if_false] at h
   split at h
   ·cases h
   ·rename_i e s1 hr
    cases h
    obtain⟨h1,h2⟩:=hx.inv.more ops.size
    refine wpIn_region (runOps_ok hE hTc hTf List.nodup_range hfr h1 (relDL_ext h2 hx.tmps) hr fun a' W' G' k1 k2 k3 k4=>?_)
    have k:=h2.trans k2
    exact hQ a' W' G' ⟨k1,k3,by rw[k4,hx.defers];exact defers_ext k hx.nofr,fun q hq=>k.nofr (hx.nofr q hq)⟩ k
 |seq c1 c2 ih1 ih2 =>
  intro G W x y ex a Q hc h hx hro hQ;simp only[codeOK,Bool.and_eq_true] at hc;simp only[evalC] at h
  split at h
  ·rename_i z hz
   exact wpIn_seq (ih1 _ hc.1 hz hx hro fun a1 W1 G1 h1 h2=>ih2 _ hc.2 h h1 (hro.ext h2) fun a2 W2 G2 k1 k2=>hQ a2 W2 G2 k1 (h2.trans k2))
  ·rename_i hne
   refine wpIn_seq (ih1 _ hc.1 h hx hro fun a1 W1 G1 h1 h2=>?_)
   have:=hQ a1 W1 G1 h1 h2
   cases ex with
   |normal=>exact absurd h (hne y)
   |exit i=>exact this
   |ret=>exact this
 |cond c c1 c2 ih1 ih2 =>
  intro G W x y ex a Q hc h hx hro hQ;simp only[codeOK,Bool.and_eq_true] at hc;simp only[evalC] at h
  split at h
  ·rename_i hb;exact wpIn_cond_true (boolq hb (opd_rel hx.tmps c)) (ih1 _ hc.1 h hx hro hQ)
  ·rename_i hb;exact wpIn_cond_false (boolq hb (opd_rel hx.tmps c)) (ih2 _ hc.2 h hx hro hQ)
  ·cases h
 |block id c ih =>
  intro G W x y ex a Q hc h hx hro hQ;simp only[codeOK] at hc;simp only[evalC] at h;refine wpIn_block ?_
  split at h
  ·rename_i i z hz
   refine ih _ hc hz hx hro fun a1 W1 G1 h1 h2=>?_;simp only[exOf,Exit.inBlock]
   split at h
   ·rename_i hi;cases h;rw[if_pos hi];exact hQ a1 W1 G1 h1 h2
   ·rename_i hi;cases h;rw[if_neg hi];exact hQ a1 W1 G1 h1 h2
  ·rename_i hne
   refine ih _ hc h hx hro fun a1 W1 G1 h1 h2=>?_
   have:=hQ a1 W1 G1 h1 h2
   cases ex with
   |normal=>exact this
   |exit i=>exact absurd h (hne i y)
   |ret=>exact this
 |loop c ih =>
  intro G W x y ex a Q hc h hx hro hQ;simp only[codeOK] at hc;simp only[evalC] at h;exact wpIn_loop_at (loop_ok (fun Q hz hx hro hQ=>ih Q hc hz hx hro hQ) h hx hro hQ)
 |rangeFunc f ps assign body _ _ =>
  intro G W x y ex a Q hc h hx hro hQ;simp only[codeOK,Bool.and_eq_true] at hc;simp only[evalC] at h
  split at h
  ·cases h
  ·rename_i g cap hg
   split at h
   ·cases h
   ·rename_i ds s1 hen
    split at h
    ·cases h
    ·rename_i d s3 hcall
     split at h
     ·cases h
     ·rename_i pend s4 hend
      obtain⟨rfl,hpe⟩:=leaveD_s h
      obtain⟨lb,hv,hcap⟩:=target_rel hg (opd_rel hx.tmps f)
      have free:∀ k,x.s.nx≤k→x.s.get k=none:=fun k hk=>by
       cases hq:x.s.get k with
       |none=>rfl
       |some o=>have:=hx.inv.lt _ _ hq;omega
      refine wpIn_rangeFunc fun fn _=>?_
      obtain⟨l,mark,W1,G1,he,hbl,hI1,hext1,hmark,hds⟩:∃ l mark W1 G1,(Instr.enterLoop fn a.tmps ps assign body (FW r).round).run P W=.ok (l,mark) W1∧G1.blk x.s.nx=l ∧
        Inv X G1 (s1.put x.s.nx (.loop { st:=.ready,pend:=none,e:=x.e,ps:=ps.toList,assign:=assign,body:=body })) W1∧Ext G x.s W G1 (s1.put x.s.nx (.loop { st:=.ready,pend:=none,e:=x.e,ps:=ps.toList,assign:=assign,body:=body })) W1 ∧
        mark=(ds.map fun k=>{ target:=.collected (G1.blk k),args:=#[] })∧∀ k∈ds,(s1.put x.s.nx (.loop { st:=.ready,pend:=none,e:=x.e,ps:=ps.toList,assign:=assign,body:=body })).nofr k:=by
       have hFr:(FW r).round=r:=rfl
       rw[hFr]
       rcases hro with ⟨rfl,rfl⟩|⟨k0,rfl,rfl,hk0⟩
       ·simp only[enterD] at hen;cases hen
        obtain⟨m1,m2⟩:=hx.inv.more 2
        have hb0:=(Gh.set_same G (x.s.nx+1) W.heap.size 0).1
        obtain⟨p1,p2⟩:=new_other m1 (k:=x.s.nx+1) (by simp) (free _ (by omega)) (ob:=.defr) (.deferred (some [])) (fun _=>⟨by rw[hb0];exact hx.inv.bsz,by rw[hb0];exact heap_alloc_new W _⟩)
        have e1:=m2.trans p2
        obtain⟨G1,q0,q1,q2⟩:=new_loop p1 (k:=x.s.nx) (by simp[St.put]) (by rw[St.get_put,if_neg (by omega)];exact free _ (Nat.le_refl _)) (relDL_ext e1 hx.tmps) (ps:=ps) hc.1 hc.2 fn W.heap.size
        have hnf:(({ x.s with nx:=x.s.nx+2 }:St).put (x.s.nx+1) .defr).nofr (x.s.nx+1):=⟨_,St.get_put_same _ _ _,rfl⟩
        refine⟨_,_,_,G1,run_enterLoop_outer fn a.tmps ps assign body,by rw[q0];simp,q1,e1.trans q2,?_,fun k hk=>?_⟩
        ·simp only[List.map_cons,List.map_nil]
         rw[(q2.bl _ hnf).2,hb0]
        ·simp at hk;subst hk;exact q2.nofr hnf
       ·simp only[enterD] at hen
        split at hen
        ·rename_i r0 hr0
         cases hen
         obtain⟨_,L,hL,_⟩:=hx.inv.ob _ _ hr0
         obtain⟨m1,m2⟩:=hx.inv.more 2
         obtain⟨G1,q0,q1,q2⟩:=new_loop m1 (k:=x.s.nx) (by simp) (free _ (Nat.le_refl _)) (relDL_ext m2 hx.tmps) (ps:=ps) hc.1 hc.2 fn L.defers
         exact⟨_,_,_,G1,run_enterLoop_inner hL fn a.tmps ps assign body,q0,q1,m2.trans q2,rfl,fun k hk=>by cases hk⟩
        ·cases hen
      have hargs:relVL G1 (s1.put x.s.nx (.loop { st:=.ready,pend:=none,e:=x.e,ps:=ps.toList,assign:=assign,body:=body })) W1 (.c (.fn (.yield x.s.nx) [] [])::cap) ((#[.func (.yield l) #[] #[]]++lb:Array Value)).toList:=by
       rw[Array.toList_append]
       refine⟨.func (.yield l) #[] #[],lb.toList,rfl,?_,relVL_ext hext1 hcap⟩
       exact⟨_,#[],#[],rfl,⟨⟨_,St.get_put_same _ _ _,rfl⟩,by rw[hbl]⟩,rfl,rfl⟩
      obtain⟨hin,hcalls⟩:=hTc.calls _ _ _ _ _ X G1 W1 (#[.func (.yield l) #[] #[]]++lb) hI1 hargs (.inr hcall)
      refine⟨l,mark,W1,{ target:=.fn (.func g) lb,args:=#[.func (.yield l) #[] #[]] },W1,g,#[.func (.yield l) #[] #[]]++lb,W1,he,?_,fun _ _=>trivial,?_,fun hh=>by simp[FW,Fence.wide] at hh,?_⟩
      ·simp only[resolve,hv]
       simp[go_sem]
      ·simp[invoke,go_sem,hin]
      ·refine(callsIn_FW hcalls).mono fun e W3 hp=>?_
       obtain⟨v,G3,rfl,hI3,hext3,_⟩:=hp
       obtain⟨W4,hrun,hI4,hext4⟩:=endLoop_ok (P:=P) hI3 hend
       have hb3:G3.blk x.s.nx=l:=by rw[(hext3.bl _ ⟨_,St.get_put_same _ _ _,rfl⟩).2];exact hbl
       rw[hb3] at hrun
       have ext:=hext1.trans (hext3.trans hext4)
       have hfin:FrRel X G3 { e:=x.e,ds:=ds++x.ds,s:=s4 } { a with defers:=mark++a.defers } W4:=by
        refine⟨hI4,relDL_ext ext hx.tmps,?_,fun k hk=>?_⟩
        ·simp only[List.map_append]
         rw[hmark,hx.defers,defers_ext ext hx.nofr,defers_ext (hext3.trans hext4) hds]
        ·rcases List.mem_append.1 hk with hk|hk
         ·exact(hext3.trans hext4).nofr (hds k hk)
         ·exact ext.nofr (hx.nofr k hk)
       refine⟨pend,W4,hrun,?_⟩
       rcases hpe with ⟨rfl,rfl⟩|⟨rfl,rfl⟩|⟨i,rfl,rfl⟩
       ·exact hQ _ _ G3 hfin ext
       ·exact wpIn_ret (hQ _ _ G3 hfin ext)
       ·exact wpIn_exit (hQ _ _ G3 hfin ext)
 |_=>intro G W x y ex a Q hc h hx hro hQ;simp[evalC] at h
end
end Go.Proofs.YtedcnhbblgmdnaaGreat.Ab
/- An evaluator of the model's code with slices as pure lists: its calls are the machine's. -/
namespace Go.Proofs.YtedcnhbblgmdnaaGreat.Ab
open Go.RowKit
section
variable {X:Ctx} {G G':Gh} {s s':St} {W W':World} {P:Program} {E:Env} {T:CallT}
structure XtOK (P:Program) (g:Nat) (h:List V→St→Option (D×St)):Prop where
 free:∀ args s d s',h args s=some (d,s')→s.nx≤s'.nx∧Fresh s s'
 calls:∀ args s d s' X G W (vargs:Array Value) (_:Inv X G s W) (_:relVL G s W args vargs.toList),h args s=some (d,s') →
  (∀ W,(callFunc g vargs).run P W=.ok (.enter g vargs) W)∧CallsIn (FW none) 0 P g vargs W (PostT X G s W d s')
structure EnvOK (P:Program) (E:Env):Prop extends EnvTy P E where
 fn : ∀ g f, E.fn g = some f → P.funcs[g]? = some f ∧ (f.name == "runtime.NumGoroutine") = false
 code:∀ g f c,E.fn g=some f→f.body=some c→codeOK c=true
 mixed:P.follows .mixedOrders=true
 xt:∀ g h,E.xt g=some h→XtOK P g h
/-! ### leaving -/
theorem kill_ok {fn:Func}{R:Ending→World→Prop}{F:Fence}{n:Nat}{tmps:Array Value}:∀ {ds:List Nat} {s s':St} {W:World},Inv X G s W→killAll ds s=some s' →
  (∀ W',Inv X G s' W'→Ext G s W G s' W'→LeavesInM F n P fn tmps R [] .returning W')→LeavesInM F n P fn tmps R (ds.map fun k=>{ target:=.collected (G.blk k),args:=#[] }) .returning W
 |[],s,s',W,hI,h,hR=>by simp only[killAll] at h;cases h;exact hR W hI (Ext.refl _ _ _)
 |k::ds,s,s',W,hI,h,hR=>by
  simp only[killAll] at h
  split at h
  ·rename_i hg
   obtain⟨hB,hW⟩:=hI.ob _ _ hg
   obtain⟨k1,k2⟩:=put_other hI hg (ob:=.dead) trivial rfl rfl hW hB rfl rfl (o':=.deferred none) (fun _=>trivial)
   simp only[List.map_cons]
   refine⟨by simp,.inl ⟨_,_,rfl,run_takeDeferred hW,kill_ok k1 h fun W' h1 h2=>hR W' h1 (k2.trans h2)⟩⟩
  ·cases h
theorem killAll_free:∀ {ds:List Nat}{s s':St},killAll ds s=some s'→s.nx≤s'.nx∧Fresh s s'
 |[],s,s',h=>by simp only[killAll] at h;cases h;exact⟨Nat.le_refl _,Fresh.refl _⟩
 |k::ds,s,s',h=>by
  simp only[killAll] at h
  split at h
  ·rename_i hg
   exact fresh_trans (fresh_putt (by rw[hg];rfl)) (killAll_free h)
  ·cases h
theorem pack_rel {vs:List V}{us:Array Value}(h:relVL G s W vs us.toList):relD G s W (packD vs) (if h:us.size=1 then us[0] else .tuple us):=by
 have hl:=relVL_length h
 have hl':us.size=vs.length:=by simpa using hl
 match vs,h,hl' with
 |[],h,hl' =>
  have:¬ us.size=1:=by simp at hl';simp[hl']
  rw[dif_neg this]
  exact⟨us,rfl,h⟩
 |[v],h,hl' =>
  have h1:us.size=1:=hl'
  rw[dif_pos h1]
  obtain⟨u,t,hu,hr,ht⟩:=h
  have:us[0]=u:=by
   have h0:us.toList[0]? = some u:=by rw[hu];rfl
   simp at h0
   exact(Array.getElem?_eq_some_iff.1 h0).2
  rw[this]
  exact hr
 |v::w::r,h,hl' =>
  have:¬ us.size=1:=by simp at hl';omega
  rw[dif_neg this]
  exact⟨us,rfl,h⟩
theorem getD_list (a:Array Value)(i:Nat)(v:Value):a.getD i v=a.toList.getD i v:=by simp[Array.getD_eq_getD_getElem?,List.getD]
theorem run_asAddr (a:Addr):(asAddr (.pointer (some a))).run P W=.ok a W:=rfl
def resF (tmps:Array Value):ResultVar→Sem Value
 |.tmp t=>pure (tmps.getD t undef)
 |.cell a t=>do loadVar t (← asAddr (tmps.getD a undef))
theorem list_results (hE:EnvTy P E)(hI:Inv X G s W){e:List D}{tmps:Array Value}(he:relDL G s W e tmps.toList):∀ {l:List ResultVar} {vs:List V},resultsD E e s l=some vs →
  ∃ us:List Value,(l.mapM (resF tmps)).run P W=.ok us W∧relVL G s W vs us
 |[],vs,h=>by simp only[resultsD] at h;cases h;exact⟨[],rfl,rfl⟩
 |.tmp t::r,vs,h=>by
  simp only[resultsD] at h
  split at h
  ·rename_i v vs' hv hvs
   cases h
   obtain⟨us,h1,h2⟩:=list_results hE hI he hvs
   have hd:=vq hv (relDL_getD he t)
   refine⟨tmps.getD t undef::us,?_,_,_,rfl,?_,h2⟩
   ·simp only[List.mapM_cons,resF,Sem.run_bind,Sem.run_pure,h1,Result.andThen]
   ·rw[getD_list];exact hd
  ·cases h
 |.cell a t::r,vs,h=>by
  simp only[resultsD] at h
  split at h
  ·rename_i i cs hti hcs
   split at h
   ·rename_i v vs' hv hvs
    cases h
    obtain⟨us,h1,h2⟩:=list_results hE hI he hvs
    obtain⟨inf,dd,ht⟩:=hE.tok hti
    obtain⟨b,o,hp,hc⟩:=cellsAt_rel hI hcs (relDL_getD he a)
    obtain⟨u,hu,hr⟩:=loadVar_ok ht hv hc
    have hp':tmps.getD a undef=.pointer (some ⟨b,o,none⟩):=by rw[getD_list];exact hp
    refine⟨u::us,?_,_,_,rfl,hr,h2⟩
    simp only[List.mapM_cons,resF,Sem.run_bind,hp',run_asAddr,Sem.run_pure,h1,Result.andThen,hu]
   ·cases h
  ·cases h
theorem results_ok (hE:EnvTy P E)(hI:Inv X G s W){e:List D}{tmps:Array Value}(he:relDL G s W e tmps.toList){fn:Func}{vs:List V}(h:resultsD E e s fn.results.toList=some vs) :
  ∃ v,(results fn tmps).run P W=.ok v W∧relD G s W (packD vs) v:=by
 obtain⟨us,h1,h2⟩:=list_results hE hI he h
 refine⟨_,?_,pack_rel (us:=us.toArray) (by simpa using h2)⟩
 have e : results fn tmps = (do
   let vs ← fn.results.mapM (resF tmps)
   pure (if h:vs.size=1 then vs[0] else .tuple vs)):=by
  unfold results resF
  rfl
 rw[e,Array.mapM_eq_mapM_toList,map_eq_pure_bind]
 simp only[Sem.run_bind,h1,Result.andThen,Sem.run_pure]
theorem enter_of_fn (hE:EnvOK P E){g:Nat}{f:Func}{c:Code}(hf:E.fn g=some f)(hb:f.body=some c)(vargs:Array Value)(W:World):(callFunc g vargs).run P W=.ok (.enter g vargs) W:=by
 obtain⟨h1,h2⟩:=hE.fn g f hf
 have h2' : ¬ f.name = "runtime.NumGoroutine" := by simpa using h2
 simp[callFunc,go_sem,h1,h2',hb]
theorem args_rel {args:List V}{vargs:Array Value}(h:relVL G s W args vargs.toList)(m:Nat):relDL G s W (args.map .v++List.replicate (m-args.length) (.tup [])) (vargs++Array.replicate (m-vargs.size) undef).toList:=by
 have hl:=relVL_length h
 have hl':vargs.size=args.length:=by simpa using hl
 rw[Array.toList_append,Array.toList_replicate,hl']
 exact relDL_append (relVL_DL h) (relDL_undef _)
theorem bodyD_free (hT:CallsFree T){n g:Nat}{args:List V}{d:D}(h:bodyD E T n g args s=some (d,s')):s.nx≤s'.nx∧Fresh s s':=by
 unfold bodyD at h
 split at h
 ·cases h
 ·split at h
  ·cases h
  ·rename_i fn hfn _ c hc
   have fin : ∀ {y : Fr}, s.nx ≤ y.s.nx ∧ Fresh s y.s → (match killAll y.ds y.s with
    |none=>none
    |some s'=>match resultsD E y.e s' fn.results.toList with
     |none=>none
     |some vs=>some (packD vs,s'))=some (d,s')→s.nx≤s'.nx∧Fresh s s':=fun {y} hy h=>by
    split at h
    ·cases h
    ·rename_i s2 hk
     split at h
     ·cases h
     ·cases h;exact fresh_trans hy (killAll_free hk)
   split at h
   ·rename_i y hy;exact fin (evalC_free hT hy) h
   ·rename_i y hy;exact fin (evalC_free hT hy) h
   ·cases h
theorem bodyD_ok (hE:EnvOK P E)(hTc:CallsOK P E T)(hT:CallsPlain T E)(hTf:CallsFree T){n g:Nat}{args:List V}{vargs:Array Value}{d:D}(hI:Inv X G s W)(ha:relVL G s W args vargs.toList)(h:bodyD E T n g args s=some (d,s')) :
  (∀ W,(callFunc g vargs).run P W=.ok (.enter g vargs) W)∧CallsIn (FW none) 0 P g vargs W (PostT X G s W d s'):=by
 unfold bodyD at h
 split at h
 ·cases h
 ·rename_i fn hfn
  split at h
  ·cases h
  ·rename_i c hc
   refine⟨enter_of_fn hE hfn hc vargs,callsIn_of_wp_marks (hE.fn g fn hfn).1 hc trivial ?_⟩
   have h0:FrRel X G { e:=args.map .v++List.replicate (fn.ntmps-args.length) (.tup []),ds:=[],s:=s } { tmps:=vargs++Array.replicate (fn.ntmps-vargs.size) undef,defers:=[] } W :=
    ⟨hI,args_rel ha fn.ntmps,rfl,fun k hk=>by cases hk⟩
   have fin : ∀ {y : Fr} {a' : Act} {W' : World} {G' : Gh}, FrRel X G' y a' W' → Ext G s W G' y.s W' → (match killAll y.ds y.s with
    |none=>none
    |some s'=>match resultsD E y.e s' fn.results.toList with
     |none=>none
     |some vs=>some (packD vs,s'))=some (d,s')→LeavesInM (FW none) 0 P fn a'.tmps (PostT X G s W d s') a'.defers .returning W':=fun {y a' W' G'} hy he h=>by
    split at h
    ·cases h
    ·rename_i s2 hk
     split at h
     ·cases h
     ·rename_i vs hvs
      cases h
      rw[hy.defers]
      refine kill_ok hy.inv hk fun W2 h1 h2=>?_
      obtain⟨v,hv,hr⟩:=results_ok hE.toEnvTy h1 (relDL_ext h2 hy.tmps) hvs
      exact⟨v,hv,v,G',rfl,h1,he.trans h2,hr⟩
   split at h
   ·rename_i y hy
    exact evalC_ok hE.toEnvTy hTc hT hTf hE.mixed _ (hE.code g fn c hfn hc) hy h0 (.inl ⟨rfl,rfl⟩) fun a' W' G' h1 h2=>fin h1 h2 h
   ·rename_i y hy
    exact evalC_ok hE.toEnvTy hTc hT hTf hE.mixed _ (hE.code g fn c hfn hc) hy h0 (.inl ⟨rfl,rfl⟩) fun a' W' G' h1 h2=>fin h1 h2 h
   ·cases h
/-! ### a round -/
theorem setAll_rel:∀ {l:List (Nat×V)}{us:List (Nat×Value)}{e:List D}{tmps:Array Value},relDL G s W e tmps.toList→l.map (·.1)=us.map (·.1)→relVL G s W (l.map (·.2)) (us.map (·.2)) →
  relDL G s W (setAll e l) (us.foldl (fun t (p,v)=>t.setIfInBounds p v) tmps).toList
 |[],us,e,tmps,he,h1,h2=>by
  cases us with
  |nil=>exact he
  |cons _ _=>simp at h1
 |(t,v)::l,us,e,tmps,he,h1,h2=>by
  cases us with
  |nil=>simp at h1
  |cons p us =>
   obtain⟨i,u⟩:=p
   simp only[List.map_cons,List.cons.injEq] at h1
   obtain⟨rfl,h1⟩:=h1
   obtain⟨u',us',hu,hr,hrs⟩:=h2
   simp only[List.map_cons,List.cons.injEq] at hu
   obtain⟨rfl,rfl⟩:=hu
   simp only[setAll,List.foldl_cons];refine setAll_rel ?_ h1 hrs
   rw[Array.toList_setIfInBounds]
   exact relDL_set he _ hr
theorem map_fst_zip_eq {α β:Type}:∀ {a:List α} {b:List β},a.length=b.length→(a.zip b).map (·.1)=a∧(a.zip b).map (·.2)=b
 |[],[],_=>⟨rfl,rfl⟩
 |x::a,y::b,h=>by
  obtain⟨h1,h2⟩:=map_fst_zip_eq (a:=a) (b:=b) (by simpa using h)
  exact⟨by simp[h1],by simp[h2]⟩
 |[],_::_,h=>by simp at h
 |_::_,[],h=>by simp at h
theorem roundD_free (hT:CallsFree T){n l:Nat}{args:List V}{d:D}(h:roundD E T n l args s=some (d,s')):s.nx≤s'.nx∧Fresh s s':=by
 unfold roundD at h
 split at h
 ·rename_i r hg
  split at h
  ·cases h
  ·split at h
   ·rename_i y hy
    have f1:=evalC_free hT hy
    split at h
    ·rename_i r1 hg1
     split at h
     ·cases h
     ·split at h
      ·cases h
      ·rename_i x z hz
       have f2:=evalC_free hT hz
       split at h
       ·rename_i r2 hg2
        cases h;exact fresh_trans (fresh_trans (fresh_trans f1 (fresh_putt (by rw[hg1];rfl))) f2) (fresh_putt (by rw[hg2];rfl))
       ·cases h
    ·cases h
   ·cases h
 ·cases h
theorem iterL_ds {f:Fr→Option (Ex×Fr)}(hf:∀ x ex y,f x=some (ex,y)→y.ds=x.ds):∀ {n:Nat} {x:Fr} {ex:Ex} {y:Fr},iterL f n x=some (ex,y)→y.ds=x.ds
 |0,x,ex,y,h=>by simp[iterL] at h
 |n+1,x,ex,y,h=>by
  simp only[iterL] at h
  split at h
  ·cases h
  ·rename_i z hz;exact(iterL_ds hf h).trans (hf _ _ _ hz)
  ·rename_i i z hz;cases h;exact hf _ _ _ hz
  ·rename_i z hz;cases h;exact hf _ _ _ hz
theorem evalC_ds {n l:Nat}:∀ {c:Code} {x:Fr} {ex:Ex} {y:Fr},evalC E T n (some l) c x=some (ex,y)→y.ds=x.ds:=by
 intro c
 induction c with
 |skip=>intro x ex y h;simp only[evalC] at h;cases h;rfl
 |label l=>intro x ex y h;simp only[evalC] at h;cases h;rfl
 |exit id=>intro x ex y h;simp only[evalC] at h;cases h;rfl
 |ret=>intro x ex y h;simp only[evalC] at h;cases h;rfl
 |region id ops d =>
  intro x ex y h;simp only[evalC] at h
  repeat' split at h
  all_goals first
   |(cases h;done)
   |(cases h;rfl)
 |seq a b iha ihb =>
  intro x ex y h;simp only[evalC] at h
  split at h
  ·rename_i z hz;exact(ihb h).trans (iha hz)
  ·exact iha h
 |cond c a b iha ihb =>
  intro x ex y h;simp only[evalC] at h
  split at h
  ·exact iha h
  ·exact ihb h
  ·cases h
 |block id c ih =>
  intro x ex y h;simp only[evalC] at h
  split at h
  ·rename_i i z hz
   split at h<;>cases h<;>exact ih hz
  ·exact ih h
 |loop c ih =>
  intro x ex y h;simp only[evalC] at h;exact iterL_ds (fun x ex y h=>ih h) h
 |rangeFunc f ps assign body _ _ =>
  intro x ex y h;simp only[evalC] at h
  split at h
  ·cases h
  ·split at h
   ·cases h
   ·rename_i g cap hg ds s1 hen
    have hds:ds=[]:=by
     simp only[enterD] at hen
     split at hen<;>cases hen;rfl
    split at h
    ·cases h
    ·split at h
     ·cases h
     ·obtain⟨rfl,_⟩:=leaveD_s h
      rw[hds];rfl
 |_=>intro x ex y h;simp[evalC] at h
theorem roundD_ok (hE:EnvOK P E)(hTc:CallsOK P E T)(hT:CallsPlain T E)(hTf:CallsFree T){n l:Nat}{args:List V}{vargs:Array Value}{d:D}(hI:Inv X G s W)(ha:relVL G s W args vargs.toList)(h:roundD E T n l args s=some (d,s')) :
  ∃ f tmps assign body,(Instr.yield (G.blk l) vargs).run P W=.ok (.round (G.blk l) f tmps assign body) W∧RoundIn (FW none) 0 P (G.blk l) f tmps assign body W (PostT X G s W d s'):=by
 unfold roundD at h
 split at h
 ·rename_i r hg
  split at h
  ·cases h
  ·rename_i hlen
   obtain⟨hB,L,hL,l1,l2,l3,l4,l5,l6,l7,l8⟩:=hI.ob _ _ hg
   have hal:vargs.toList.length=args.length:=relVL_length ha
   have hsz:vargs.size=L.params.size:=by
    have:L.params.toList.length=r.ps.length:=by rw[l4]
    simp at this hal;omega
   refine⟨_,_,_,_,run_yield (P:=P) hL hsz,roundIn_of_wpIn (F:=FW none) trivial ?_⟩
   split at h
   ·rename_i y hy
    rw[FW_in]
    have hnf:s.nofr l:=⟨_,hg,rfl⟩
    have h0:FrRel X G { e:=setAll r.e (r.ps.zip args),ds:=[],s:=s } { tmps:=(L.params.zip vargs).foldl (fun tmps (t,a)=>tmps.setIfInBounds t a) L.tmps,defers:=[] } W:=by
     refine⟨hI,?_,rfl,fun k hk=>by cases hk⟩
     have hz1:=map_fst_zip_eq (a:=r.ps) (b:=args) (by omega)
     have hz2:=map_fst_zip_eq (a:=L.params.toList) (b:=vargs.toList) (by simpa using hsz.symm)
     have:=setAll_rel (G:=G) (s:=s) (W:=W) (l:=r.ps.zip args) (us:=L.params.toList.zip vargs.toList) l3 (by rw[hz1.1,hz2.1,l4]) (by rw[hz1.2,hz2.2];exact ha)
     rw[← Array.toList_zip,Array.foldl_toList] at this
     exact this
    rw[l5]
    refine evalC_ok (X:=X) (r:=some (G.blk l)) hE.toEnvTy hTc hT hTf hE.mixed _ l7 hy h0 (.inr ⟨l,rfl,rfl,hnf⟩) fun a1 W1 G1 h1 h2=>?_;simp only[exOf,Exit.then]
    split at h
    ·rename_i r1 hg1
     split at h
     ·cases h
     ·rename_i hready
      obtain⟨hB1,L1,hL1,m1,m2,m3,m4,m5,m6,m7,m8⟩:=h1.inv.ob _ _ hg1
      have hb1:G1.blk l=G.blk l:=(h2.bl l hnf).2
      have hready':L1.state=.ready:=by rw[m1];exact Classical.not_not.1 hready
      split at h
      ·cases h
      ·rename_i x z hz
       obtain⟨p1,p2⟩:=put_other h1.inv hg1 (ob:=.loop { r1 with st:=.busy }) trivial rfl rfl hL1 hB1 rfl rfl (o':=.loop { L1 with state:=.busy })
        (fun hext=>⟨hB1,_,World.putObj_heap_same (Array.getElem?_eq_some_iff.1 hL1).1,rfl,m2,relDL_ext hext m3,m4,m5,m6,m7,m8⟩)
       have hrun:=run_beginRound (P:=P) hL1 hready'
       rw[hb1] at hrun p1 p2
       refine⟨_,hrun,?_⟩
       rw[l6]
       have ext1:=h2.trans p2
       have hnf1:(y.s.put l (.loop { r1 with st:=.busy })).nofr l:=⟨_,St.get_put_same _ _ _,rfl⟩
       have hyds:y.ds=[]:=evalC_ds hy
       ·have h3:FrRel X G1 { e:=y.e,ds:=[],s:=y.s.put l (.loop { r1 with st:=.busy }) } a1 (W1.putObj (G.blk l) (.loop { L1 with state:=.busy })):=by
         refine⟨p1,relDL_ext p2 h1.tmps,by rw[h1.defers,hyds],fun k hk=>by cases hk⟩
        refine evalC_ok (X:=X) (r:=some (G.blk l)) hE.toEnvTy hTc hT hTf hE.mixed _ l8 (by exact hz) h3 (.inr ⟨l,rfl,by rw[hb1],hnf1⟩) fun a2 W2 G2 q1 q2=>?_
        split at h
        ·rename_i r2 hg2
         cases h
         obtain⟨hB2,L2,hL2,n1,n2,n3,n4,n5,n6,n7,n8⟩:=q1.inv.ob _ _ hg2
         have hb2:G2.blk l=G.blk l:=(q2.bl l hnf1).2.trans hb1
         have fin:∀ j:Option Code,∃ v w',(Instr.endRound (G.blk l) j).run P W2=.ok v w'∧PostT X G s W (P' (.bool j.isNone)) (z.s.put l (.loop { r2 with st:=if j.isNone then .ready else .done,pend:=j })) (.returned v) w':=fun j=>by
          obtain⟨t1,t2⟩:=put_other q1.inv hg2 (ob:=.loop { r2 with st:=if j.isNone then .ready else .done,pend:=j }) trivial rfl rfl hL2 hB2 rfl rfl (o':=.loop { L2 with state:=if j.isNone then .ready else .done,pending:=j })
           (fun hext=>⟨hB2,_,World.putObj_heap_same (Array.getElem?_eq_some_iff.1 hL2).1,rfl,rfl,relDL_ext hext n3,n4,n5,n6,n7,n8⟩)
          have hrun:=run_endRound (P:=P) j hL2
          rw[hb2] at hrun t1 t2
          exact⟨_,_,hrun,_,G2,rfl,t1,ext1.trans (q2.trans t2),P'_mk rfl⟩
         cases x with
         |normal=>exact fin none
         |ret=>exact fin (some .ret)
         |exit i=>exact fin (some (.exit i))
        ·cases h
    ·cases h
   ·cases h
 ·cases h
end
end Go.Proofs.YtedcnhbblgmdnaaGreat.Ab
