/- A part of the proof: an evaluator of the code, its contracts, the law. No condition. -/
import Derived.Test.YtedcnhbblgmdnaaGreatT18
import Derived.Test.YtedcnhbblgmdnaaGreatT19
namespace Go.Proofs.YtedcnhbblgmdnaaGreat.Ab
set_option maxHeartbeats 8000000
set_option maxRecDepth 10000
set_option linter.unusedSimpArgs false
set_option linter.unusedVariables false
/-- 115: a getter -/
theorem pf157 (b : Bkt) : Pf E0 157 [.agg (b.pd.map .p)] (P' (pI (IntKind.i64.wrap (b.st + 1)))) := by
  refine Pf.body (fn := Tryz.f157) (by kernel_rfl) rfl ?_; simp only [List.map_cons, List.map_nil, List.cons_append, List.nil_append, List.length_cons, List.length_nil, Tryz.ntmps157, List.replicate, Nat.reduceSub, Nat.reduceAdd]
  refine Wc.seq ?_
  refine Wc.reg fun K hK => ?_; simp only [go_sem, ti3, ti4, ti9, ti22, ti94, ti96, ti32, ti29, ti31, ti41, ti158, ti212, ti155]; refine hK _ _ ?_; clear hK K
  refine Wc.seq ?_
  refine Wc.reg fun K hK => ?_; simp only [go_sem, ti3, ti4, ti9, ti22, ti94, ti96, ti32, ti29, ti31, ti41, ti158, ti212, ti155]; refine hK _ _ ?_; clear hK K
  exact Wc.ret (Pf.ret [.tmp 2] [.c (.p (pI (IntKind.i64.wrap (b.st + 1))))] rfl rfl (by simp only [resultsD, go_sem, ti3, ti4, ti9, ti22, ti94, ti96, ti32, ti29, ti31, ti41, ti158, ti212, ti155]) rfl)
/-- 117: a getter -/
theorem pf159 (b : Bkt) : Pf E0 159 [.agg (b.pd.map .p)] (P' (pI b.c)) := by
  refine Pf.body (fn := Tryz.f159) (by kernel_rfl) rfl ?_; simp only [List.map_cons, List.map_nil, List.cons_append, List.nil_append, List.length_cons, List.length_nil, Tryz.ntmps159, List.replicate, Nat.reduceSub, Nat.reduceAdd]
  refine Wc.seq ?_
  refine Wc.reg fun K hK => ?_; simp only [go_sem, ti3, ti4, ti9, ti22, ti94, ti96, ti32, ti29, ti31, ti41, ti158, ti212, ti155]; refine hK _ _ ?_; clear hK K
  refine Wc.seq ?_
  refine Wc.reg fun K hK => ?_; simp only [go_sem, ti3, ti4, ti9, ti22, ti94, ti96, ti32, ti29, ti31, ti41, ti158, ti212, ti155]; refine hK _ _ ?_; clear hK K
  exact Wc.ret (Pf.ret [.tmp 2] [.c (.p (pI b.c))] rfl rfl (by simp only [resultsD, go_sem, ti3, ti4, ti9, ti22, ti94, ti96, ti32, ti29, ti31, ti41, ti158, ti212, ti155]) rfl)
/-- 119: a getter -/
theorem pf161 (b : Bkt) : Pf E0 161 [.agg (b.pd.map .p)] (P' (pI b.s)) := by
  refine Pf.body (fn := Tryz.f161) (by kernel_rfl) rfl ?_; simp only [List.map_cons, List.map_nil, List.cons_append, List.nil_append, List.length_cons, List.length_nil, Tryz.ntmps161, List.replicate, Nat.reduceSub, Nat.reduceAdd]
  refine Wc.seq ?_
  refine Wc.reg fun K hK => ?_; simp only [go_sem, ti3, ti4, ti9, ti22, ti94, ti96, ti32, ti29, ti31, ti41, ti158, ti212, ti155]; refine hK _ _ ?_; clear hK K
  refine Wc.seq ?_
  refine Wc.reg fun K hK => ?_; simp only [go_sem, ti3, ti4, ti9, ti22, ti94, ti96, ti32, ti29, ti31, ti41, ti158, ti212, ti155]; refine hK _ _ ?_; clear hK K
  exact Wc.ret (Pf.ret [.tmp 2] [.c (.p (pI b.s))] rfl rfl (by simp only [resultsD, go_sem, ti3, ti4, ti9, ti22, ti94, ti96, ti32, ti29, ti31, ti41, ti158, ti212, ti155]) rfl)
/-- 121: a getter -/
theorem pf163 (b : Bkt) : Pf E0 163 [.agg (b.pd.map .p)] (P' (pI b.mn)) := by
  refine Pf.body (fn := Tryz.f163) (by kernel_rfl) rfl ?_; simp only [List.map_cons, List.map_nil, List.cons_append, List.nil_append, List.length_cons, List.length_nil, Tryz.ntmps163, List.replicate, Nat.reduceSub, Nat.reduceAdd]
  refine Wc.seq ?_
  refine Wc.reg fun K hK => ?_; simp only [go_sem, ti3, ti4, ti9, ti22, ti94, ti96, ti32, ti29, ti31, ti41, ti158, ti212, ti155]; refine hK _ _ ?_; clear hK K
  refine Wc.seq ?_
  refine Wc.reg fun K hK => ?_; simp only [go_sem, ti3, ti4, ti9, ti22, ti94, ti96, ti32, ti29, ti31, ti41, ti158, ti212, ti155]; refine hK _ _ ?_; clear hK K
  exact Wc.ret (Pf.ret [.tmp 2] [.c (.p (pI b.mn))] rfl rfl (by simp only [resultsD, go_sem, ti3, ti4, ti9, ti22, ti94, ti96, ti32, ti29, ti31, ti41, ti158, ti212, ti155]) rfl)
/-- 123: a getter -/
theorem pf165 (b : Bkt) : Pf E0 165 [.agg (b.pd.map .p)] (P' (pI b.mx)) := by
  refine Pf.body (fn := Tryz.f165) (by kernel_rfl) rfl ?_; simp only [List.map_cons, List.map_nil, List.cons_append, List.nil_append, List.length_cons, List.length_nil, Tryz.ntmps165, List.replicate, Nat.reduceSub, Nat.reduceAdd]
  refine Wc.seq ?_
  refine Wc.reg fun K hK => ?_; simp only [go_sem, ti3, ti4, ti9, ti22, ti94, ti96, ti32, ti29, ti31, ti41, ti158, ti212, ti155]; refine hK _ _ ?_; clear hK K
  refine Wc.seq ?_
  refine Wc.reg fun K hK => ?_; simp only [go_sem, ti3, ti4, ti9, ti22, ti94, ti96, ti32, ti29, ti31, ti41, ti158, ti212, ti155]; refine hK _ _ ?_; clear hK K
  exact Wc.ret (Pf.ret [.tmp 2] [.c (.p (pI b.mx))] rfl rfl (by simp only [resultsD, go_sem, ti3, ti4, ti9, ti22, ti94, ti96, ti32, ti29, ti31, ti41, ti158, ti212, ti155]) rfl)
/-- 125: a getter -/
theorem pf167 (b : Bkt) : Pf E0 167 [.agg (b.pd.map .p)] (P' (pI b.f)) := by
  refine Pf.body (fn := Tryz.f167) (by kernel_rfl) rfl ?_; simp only [List.map_cons, List.map_nil, List.cons_append, List.nil_append, List.length_cons, List.length_nil, Tryz.ntmps167, List.replicate, Nat.reduceSub, Nat.reduceAdd]
  refine Wc.seq ?_
  refine Wc.reg fun K hK => ?_; simp only [go_sem, ti3, ti4, ti9, ti22, ti94, ti96, ti32, ti29, ti31, ti41, ti158, ti212, ti155]; refine hK _ _ ?_; clear hK K
  refine Wc.seq ?_
  refine Wc.reg fun K hK => ?_; simp only [go_sem, ti3, ti4, ti9, ti22, ti94, ti96, ti32, ti29, ti31, ti41, ti158, ti212, ti155]; refine hK _ _ ?_; clear hK K
  exact Wc.ret (Pf.ret [.tmp 2] [.c (.p (pI b.f))] rfl rfl (by simp only [resultsD, go_sem, ti3, ti4, ti9, ti22, ti94, ti96, ti32, ti29, ti31, ti41, ti158, ti212, ti155]) rfl)
/-- 127: a getter -/
theorem pf169 (b : Bkt) : Pf E0 169 [.agg (b.pd.map .p)] (P' (pI b.l)) := by
  refine Pf.body (fn := Tryz.f169) (by kernel_rfl) rfl ?_; simp only [List.map_cons, List.map_nil, List.cons_append, List.nil_append, List.length_cons, List.length_nil, Tryz.ntmps169, List.replicate, Nat.reduceSub, Nat.reduceAdd]
  refine Wc.seq ?_
  refine Wc.reg fun K hK => ?_; simp only [go_sem, ti3, ti4, ti9, ti22, ti94, ti96, ti32, ti29, ti31, ti41, ti158, ti212, ti155]; refine hK _ _ ?_; clear hK K
  refine Wc.seq ?_
  refine Wc.reg fun K hK => ?_; simp only [go_sem, ti3, ti4, ti9, ti22, ti94, ti96, ti32, ti29, ti31, ti41, ti158, ti212, ti155]; refine hK _ _ ?_; clear hK K
  exact Wc.ret (Pf.ret [.tmp 2] [.c (.p (pI b.l))] rfl rfl (by simp only [resultsD, go_sem, ti3, ti4, ti9, ti22, ti94, ti96, ti32, ti29, ti31, ti41, ti158, ti212, ti155]) rfl)
/-- 129: a getter -/
theorem pf171 (b : Bkt) : Pf E0 171 [.agg (b.pd.map .p)] (P' (pI b.ft)) := by
  refine Pf.body (fn := Tryz.f171) (by kernel_rfl) rfl ?_; simp only [List.map_cons, List.map_nil, List.cons_append, List.nil_append, List.length_cons, List.length_nil, Tryz.ntmps171, List.replicate, Nat.reduceSub, Nat.reduceAdd]
  refine Wc.seq ?_
  refine Wc.reg fun K hK => ?_; simp only [go_sem, ti3, ti4, ti9, ti22, ti94, ti96, ti32, ti29, ti31, ti41, ti158, ti212, ti155]; refine hK _ _ ?_; clear hK K
  refine Wc.seq ?_
  refine Wc.reg fun K hK => ?_; simp only [go_sem, ti3, ti4, ti9, ti22, ti94, ti96, ti32, ti29, ti31, ti41, ti158, ti212, ti155]; refine hK _ _ ?_; clear hK K
  exact Wc.ret (Pf.ret [.tmp 2] [.c (.p (pI b.ft))] rfl rfl (by simp only [resultsD, go_sem, ti3, ti4, ti9, ti22, ti94, ti96, ti32, ti29, ti31, ti41, ti158, ti212, ti155]) rfl)
/-- 131: a getter -/
theorem pf173 (b : Bkt) : Pf E0 173 [.agg (b.pd.map .p)] (P' (pI b.lt)) := by
  refine Pf.body (fn := Tryz.f173) (by kernel_rfl) rfl ?_; simp only [List.map_cons, List.map_nil, List.cons_append, List.nil_append, List.length_cons, List.length_nil, Tryz.ntmps173, List.replicate, Nat.reduceSub, Nat.reduceAdd]
  refine Wc.seq ?_
  refine Wc.reg fun K hK => ?_; simp only [go_sem, ti3, ti4, ti9, ti22, ti94, ti96, ti32, ti29, ti31, ti41, ti158, ti212, ti155]; refine hK _ _ ?_; clear hK K
  refine Wc.seq ?_
  refine Wc.reg fun K hK => ?_; simp only [go_sem, ti3, ti4, ti9, ti22, ti94, ti96, ti32, ti29, ti31, ti41, ti158, ti212, ti155]; refine hK _ _ ?_; clear hK K
  exact Wc.ret (Pf.ret [.tmp 2] [.c (.p (pI b.lt))] rfl rfl (by simp only [resultsD, go_sem, ti3, ti4, ti9, ti22, ti94, ti96, ti32, ti29, ti31, ti41, ti158, ti212, ti155]) rfl)
/-- 133: a getter -/
theorem pf175 (b : Bkt) : Pf E0 175 [.agg (b.pd.map .p)] (P' (pI b.inc)) := by
  refine Pf.body (fn := Tryz.f175) (by kernel_rfl) rfl ?_; simp only [List.map_cons, List.map_nil, List.cons_append, List.nil_append, List.length_cons, List.length_nil, Tryz.ntmps175, List.replicate, Nat.reduceSub, Nat.reduceAdd]
  refine Wc.seq ?_
  refine Wc.reg fun K hK => ?_; simp only [go_sem, ti3, ti4, ti9, ti22, ti94, ti96, ti32, ti29, ti31, ti41, ti158, ti212, ti155]; refine hK _ _ ?_; clear hK K
  refine Wc.seq ?_
  refine Wc.reg fun K hK => ?_; simp only [go_sem, ti3, ti4, ti9, ti22, ti94, ti96, ti32, ti29, ti31, ti41, ti158, ti212, ti155]; refine hK _ _ ?_; clear hK K
  exact Wc.ret (Pf.ret [.tmp 2] [.c (.p (pI b.inc))] rfl rfl (by simp only [resultsD, go_sem, ti3, ti4, ti9, ti22, ti94, ti96, ti32, ti29, ti31, ti41, ti158, ti212, ti155]) rfl)
def bktCols : List (Col Bkt) := [⟨0, 157, 158, fun b => IntKind.i64.wrap (b.st + 1)⟩, ⟨1, 159, 160, (·.c)⟩, ⟨1, 161, 162, (·.s)⟩, ⟨1, 163, 164, (·.mn)⟩, ⟨1, 165, 166, (·.mx)⟩, ⟨1, 167, 168, (·.f)⟩, ⟨1, 169, 170, (·.l)⟩, ⟨1, 171, 172, (·.ft)⟩, ⟨1, 173, 174, (·.lt)⟩, ⟨1, 175, 176, (·.inc)⟩]
/-- 48: the columns -/
theorem pf99 : Pf E0 99 [] (P' (.lst bktCols.length (bktCols.flatMap Col.pd))) := by
  refine Pf.body (fn := Tryz.f99) (by kernel_rfl) rfl ?_; simp only [List.map_cons, List.map_nil, List.cons_append, List.nil_append, List.length_cons, List.length_nil, Tryz.ntmps99, List.replicate, Nat.reduceSub, Nat.reduceAdd]
  refine Wc.seq ?_
  refine Wc.reg fun K hK => ?_; simp only [go_sem, ti3, ti4, ti9, ti22, ti94, ti96, ti32, ti29, ti31, ti41, ti158, ti212, ti155]; refine hK _ _ ?_; clear hK K
  refine Wc.seq ?_
  refine Wc.reg fun K hK => ?_; simp only [go_sem, ti3, ti4, ti9, ti22, ti94, ti96, ti32, ti29, ti31, ti41, ti158, ti212, ti155]; refine hK _ _ ?_; clear hK K
  exact Wc.ret (Pf.ret [.tmp 0] _ rfl rfl (by simp only [resultsD, go_sem, ti3, ti4, ti9, ti22, ti94, ti96, ti32, ti29, ti31, ti41, ti158, ti212, ti155]; rfl) rfl)
theorem bktCols_ok : ∀ c ∈ bktCols, (∀ a : Bkt, Pf E0 c.g [.agg (a.pd.map .p)] (P' (pI (c.get a)))) ∧ E0.xt c.g = none ∧ E0.opn c.g = false := by
  intro c hc
  simp only [bktCols, List.mem_cons, List.mem_nil_iff, or_false] at hc
  rcases hc with rfl | rfl | rfl | rfl | rfl | rfl | rfl | rfl | rfl | rfl
  · exact ⟨pf157, by kernel_rfl, by kernel_rfl⟩
  · exact ⟨pf159, by kernel_rfl, by kernel_rfl⟩
  · exact ⟨pf161, by kernel_rfl, by kernel_rfl⟩
  · exact ⟨pf163, by kernel_rfl, by kernel_rfl⟩
  · exact ⟨pf165, by kernel_rfl, by kernel_rfl⟩
  · exact ⟨pf167, by kernel_rfl, by kernel_rfl⟩
  · exact ⟨pf169, by kernel_rfl, by kernel_rfl⟩
  · exact ⟨pf171, by kernel_rfl, by kernel_rfl⟩
  · exact ⟨pf173, by kernel_rfl, by kernel_rfl⟩
  · exact ⟨pf175, by kernel_rfl, by kernel_rfl⟩
/-- A rollup. -/
structure Rlp where
  lb : List Lb
  k : Int
  w : Int
  bs : List Bkt
abbrev Rlp.pd (x : Rlp) : List Pd := [.lst x.lb.length (x.lb.flatMap lbP), pI x.k, pI x.w, .lst x.bs.length (x.bs.flatMap Bkt.pd)]
/-- The buckets, behind one that starts there. -/
def bksOK (k w : Int) : Int → List Bkt → Bool
  | _, [] => true
  | p, b :: r => !(decide (b.st ≤ p) || decide (1099511627776 ≤ b.st) || (b.st.tmod w != 0)) && (bkA k w b && bksOK k w b.st r)
def rlpOK (x : Rlp) : Bool := !((lckA x.lb != 0) || ((x.k != 1) && (x.k != 2))) && (!(decide (x.w < 1) || decide (1099511627776 < x.w) || ((x.bs.length : Int) == 0) || decide ((2000 : Int) < x.bs.length)) && bksOK x.k x.w (-1) x.bs)
def prevS (l : List Bkt) (i : Nat) : Int := if i = 0 then -1 else ((l[i - 1]?).map (·.st)).getD (-1)
theorem bksOK_step {k w : Int} {l : List Bkt} {i : Nat} {b : Bkt} (h : l[i]? = some b) : bksOK k w (prevS l i) (l.drop i) = (!(decide (b.st ≤ prevS l i) || decide (1099511627776 ≤ b.st) || (b.st.tmod w != 0)) && (bkA k w b && bksOK k w (prevS l (i + 1)) (l.drop (i + 1)))) := by
  have hi := (List.getElem?_eq_some_iff.1 h).1
  have hx := (List.getElem?_eq_some_iff.1 h).2
  have hp : prevS l (i + 1) = b.st := by simp [prevS, h]
  rw [List.drop_eq_getElem_cons hi, hx, hp]
  rfl
/-- 46: validRollup -/
theorem pf97 (x : Rlp) (hlb : x.lb.length < 2^40) (hls : ∀ y ∈ x.lb, y.1.length < 2^50 ∧ y.2.length < 2^50) : Pf E0 97 [.agg (x.pd.map .p)] (P' (.bool (rlpOK x))) := by
  have hfl : (x.bs.flatMap Bkt.pd).length = x.bs.length * 10 := flat_len (k := 10) (fun _ => rfl) _
  generalize hR : rlpOK x = R
  unfold rlpOK at hR
  refine Pf.body (fn := Tryz.f97) (by kernel_rfl) rfl ?_; simp only [List.map_cons, List.map_nil, List.cons_append, List.nil_append, List.length_cons, List.length_nil, Tryz.ntmps97, List.replicate, Nat.reduceSub, Nat.reduceAdd]
  refine Wc.seq ?_
  refine Wc.reg fun K hK => ?_; simp only [go_sem, ti3, ti4, ti9, ti22, ti94, ti96, ti32, ti29, ti31, ti41, ti158, ti212, ti155]; refine hK _ _ ?_; clear hK K
  refine Wc.seqR (fun y => ((lckA x.lb != 0) || ((x.k != 1) && (x.k != 2))) = false ∧ y.ds = [] ∧ Fs y.e 74 [(1, .v (.c (.ref 0 0)))] ∧ OA y.s.nx y.s [] [(0, .cells (x.pd.map .p) false)]) ?_ ?_
  · refine Wc.seq ?_
    have bad : ((lckA x.lb != 0) || ((x.k != 1) && (x.k != 2))) = true → false = R := fun h => by rw [← hR, h]; rfl
    cases z1 : (lckA x.lb != 0) with
    | true =>
      refine Wc.reg fun K hK => ?_; simp only [go_sem, ti3, ti4, ti9, ti22, ti94, ti96, ti32, ti29, ti31, ti41, ti158, ti212, ti155]
      refine wpCall.pf (pf134 x.lb hlb hls) (by kernel_rfl) (by kernel_rfl) rfl rfl ?_
      simp only [go_sem, ti3, ti4, ti9, ti22, ti94, ti96, ti32, ti29, ti31, ti41, ti158, ti212, ti155, z1]; refine hK _ _ ?_; clear hK K
      refine Wc.cond (t := true) (by simp only [go_sem, ti3, ti4, ti9, ti22, ti94, ti96, ti32, ti29, ti31, ti41, ti158, ti212, ti155, z1]) (fun _ => ?_) (fun hc => by cases hc)
      refine Wc.seq ?_
      refine Wc.reg fun K hK => ?_; simp only [go_sem, ti3, ti4, ti9, ti22, ti94, ti96, ti32, ti29, ti31, ti41, ti158, ti212, ti155]; refine hK _ _ ?_; clear hK K
      rw [← bad (by rw [z1]; rfl)]
      exact Wc.ret (Pf.ret [.tmp 2] [.c (.p (.bool false))] rfl rfl (by simp only [resultsD, go_sem, ti3, ti4, ti9, ti22, ti94, ti96, ti32, ti29, ti31, ti41, ti158, ti212, ti155]) rfl)
    | false =>
      cases z2 : (x.k != 1) with
      | false =>
        refine Wc.reg fun K hK => ?_; simp only [go_sem, ti3, ti4, ti9, ti22, ti94, ti96, ti32, ti29, ti31, ti41, ti158, ti212, ti155]
        refine wpCall.pf (pf134 x.lb hlb hls) (by kernel_rfl) (by kernel_rfl) rfl rfl ?_
        simp only [go_sem, ti3, ti4, ti9, ti22, ti94, ti96, ti32, ti29, ti31, ti41, ti158, ti212, ti155, z1, z2]; refine hK _ _ ?_; clear hK K
        refine Wc.cond (t := false) (by simp only [go_sem, ti3, ti4, ti9, ti22, ti94, ti96, ti32, ti29, ti31, ti41, ti158, ti212, ti155, z1, z2]) (fun hc => by cases hc) (fun _ => Wc.skip ?_)
        exact ⟨rfl, rfl, by simp only [Fs, Int.natCast_zero, go_sem, ti3, ti4, ti9, ti22, ti94, ti96, ti32, ti29, ti31, ti41, ti158, ti212, ti155], by (try simp only [St.nx_put, St.nx_adv]); repeat (first | exact OA.mono s00_oa (by omega) | refine OA.newB ?_ (by omega) rfl | refine OA.advB ?_)⟩
      | true =>
        refine Wc.reg fun K hK => ?_; simp only [go_sem, ti3, ti4, ti9, ti22, ti94, ti96, ti32, ti29, ti31, ti41, ti158, ti212, ti155]
        refine wpCall.pf (pf134 x.lb hlb hls) (by kernel_rfl) (by kernel_rfl) rfl rfl ?_
        simp only [go_sem, ti3, ti4, ti9, ti22, ti94, ti96, ti32, ti29, ti31, ti41, ti158, ti212, ti155, z1, z2]; refine hK _ _ ?_; clear hK K
        refine Wc.cond (t := (x.k != 2)) (by simp only [go_sem, ti3, ti4, ti9, ti22, ti94, ti96, ti32, ti29, ti31, ti41, ti158, ti212, ti155, z1, z2]) (fun hc => ?_) (fun hc => ?_)
        · refine Wc.seq ?_
          refine Wc.reg fun K hK => ?_; simp only [go_sem, ti3, ti4, ti9, ti22, ti94, ti96, ti32, ti29, ti31, ti41, ti158, ti212, ti155]; refine hK _ _ ?_; clear hK K
          rw [← bad (by rw [z1, z2, hc]; rfl)]
          exact Wc.ret (Pf.ret [.tmp 2] [.c (.p (.bool false))] rfl rfl (by simp only [resultsD, go_sem, ti3, ti4, ti9, ti22, ti94, ti96, ti32, ti29, ti31, ti41, ti158, ti212, ti155]) rfl)
        · exact Wc.skip ⟨by rw [hc]; rfl, rfl, by simp only [Fs, Int.natCast_zero, go_sem, ti3, ti4, ti9, ti22, ti94, ti96, ti32, ti29, ti31, ti41, ti158, ti212, ti155], by (try simp only [St.nx_put, St.nx_adv]); repeat (first | exact OA.mono s00_oa (by omega) | refine OA.newB ?_ (by omega) rfl | refine OA.advB ?_)⟩
  rintro ⟨e, ds, s1⟩ ⟨c1, rfl, hF, ho⟩
  simp only [Fs] at hF ho
  have g0 := ho.at_ (0, .cells (x.pd.map .p) false) (by simp)
  simp only [List.map_cons, List.map_nil] at g0
  rw [c1] at hR
  refine Wc.seqR (fun y => ((decide (x.w < 1) || decide (1099511627776 < x.w) || ((x.bs.length : Int) == 0) || decide ((2000 : Int) < x.bs.length)) = false ∧ (1 ≤ x.w ∧ x.w ≤ 1099511627776 ∧ x.bs.length ≤ 2000)) ∧ y.ds = [] ∧ Fs y.e 74 [(1, .v (.c (.ref 0 0)))] ∧ OA y.s.nx y.s [] [(0, .cells (x.pd.map .p) false)]) ?_ ?_
  · refine Wc.seq ?_
    have bad : (decide (x.w < 1) || decide (1099511627776 < x.w) || ((x.bs.length : Int) == 0) || decide ((2000 : Int) < x.bs.length)) = true → false = R := fun h => by rw [← hR, h]; rfl
    rcases Bool.eq_false_or_eq_true (decide (x.w < 1)) with z1 | z1
    · refine Wc.reg fun K hK => ?_; simp only [go_sem, ti3, ti4, ti9, ti22, ti94, ti96, ti32, ti29, ti31, ti41, ti158, ti212, ti155, hF, g0, z1]; refine hK _ _ ?_; clear hK K
      refine Wc.cond (t := true) (by simp only [go_sem, ti3, ti4, ti9, ti22, ti94, ti96, ti32, ti29, ti31, ti41, ti158, ti212, ti155, hF, g0, z1]) (fun _ => ?_) (fun hc => by cases hc)
      refine Wc.seq ?_
      refine Wc.reg fun K hK => ?_; simp only [go_sem, ti3, ti4, ti9, ti22, ti94, ti96, ti32, ti29, ti31, ti41, ti158, ti212, ti155, hF]; refine hK _ _ ?_; clear hK K
      rw [← bad (by simp only [z1]; rfl)]
      exact Wc.ret (Pf.ret [.tmp 2] [.c (.p (.bool false))] rfl rfl (by simp only [resultsD, go_sem, ti3, ti4, ti9, ti22, ti94, ti96, ti32, ti29, ti31, ti41, ti158, ti212, ti155, hF]) rfl)
    rcases Bool.eq_false_or_eq_true (decide (1099511627776 < x.w)) with z2 | z2
    · refine Wc.reg fun K hK => ?_; simp only [go_sem, ti3, ti4, ti9, ti22, ti94, ti96, ti32, ti29, ti31, ti41, ti158, ti212, ti155, hF, g0, z1, z2]; refine hK _ _ ?_; clear hK K
      refine Wc.cond (t := true) (by simp only [go_sem, ti3, ti4, ti9, ti22, ti94, ti96, ti32, ti29, ti31, ti41, ti158, ti212, ti155, hF, g0, z1, z2]) (fun _ => ?_) (fun hc => by cases hc)
      refine Wc.seq ?_
      refine Wc.reg fun K hK => ?_; simp only [go_sem, ti3, ti4, ti9, ti22, ti94, ti96, ti32, ti29, ti31, ti41, ti158, ti212, ti155, hF]; refine hK _ _ ?_; clear hK K
      rw [← bad (by simp only [z1, z2]; rfl)]
      exact Wc.ret (Pf.ret [.tmp 2] [.c (.p (.bool false))] rfl rfl (by simp only [resultsD, go_sem, ti3, ti4, ti9, ti22, ti94, ti96, ti32, ti29, ti31, ti41, ti158, ti212, ti155, hF]) rfl)
    rcases Bool.eq_false_or_eq_true ((x.bs.length : Int) == 0) with z3 | z3
    · refine Wc.reg fun K hK => ?_; simp only [go_sem, ti3, ti4, ti9, ti22, ti94, ti96, ti32, ti29, ti31, ti41, ti158, ti212, ti155, hF, g0, z1, z2, z3]; refine hK _ _ ?_; clear hK K
      refine Wc.cond (t := true) (by simp only [go_sem, ti3, ti4, ti9, ti22, ti94, ti96, ti32, ti29, ti31, ti41, ti158, ti212, ti155, hF, g0, z1, z2, z3]) (fun _ => ?_) (fun hc => by cases hc)
      refine Wc.seq ?_
      refine Wc.reg fun K hK => ?_; simp only [go_sem, ti3, ti4, ti9, ti22, ti94, ti96, ti32, ti29, ti31, ti41, ti158, ti212, ti155, hF]; refine hK _ _ ?_; clear hK K
      rw [← bad (by simp only [z1, z2, z3]; rfl)]
      exact Wc.ret (Pf.ret [.tmp 2] [.c (.p (.bool false))] rfl rfl (by simp only [resultsD, go_sem, ti3, ti4, ti9, ti22, ti94, ti96, ti32, ti29, ti31, ti41, ti158, ti212, ti155, hF]) rfl)
    rcases Bool.eq_false_or_eq_true (decide ((2000 : Int) < x.bs.length)) with z4 | z4
    · refine Wc.reg fun K hK => ?_; simp only [go_sem, ti3, ti4, ti9, ti22, ti94, ti96, ti32, ti29, ti31, ti41, ti158, ti212, ti155, hF, g0, z1, z2, z3, z4]; refine hK _ _ ?_; clear hK K
      refine Wc.cond (t := true) (by simp only [go_sem, ti3, ti4, ti9, ti22, ti94, ti96, ti32, ti29, ti31, ti41, ti158, ti212, ti155, hF, g0, z1, z2, z3, z4]) (fun _ => ?_) (fun hc => by cases hc)
      refine Wc.seq ?_
      refine Wc.reg fun K hK => ?_; simp only [go_sem, ti3, ti4, ti9, ti22, ti94, ti96, ti32, ti29, ti31, ti41, ti158, ti212, ti155, hF]; refine hK _ _ ?_; clear hK K
      rw [← bad (by simp only [z1, z2, z3, z4]; rfl)]
      exact Wc.ret (Pf.ret [.tmp 2] [.c (.p (.bool false))] rfl rfl (by simp only [resultsD, go_sem, ti3, ti4, ti9, ti22, ti94, ti96, ti32, ti29, ti31, ti41, ti158, ti212, ti155, hF]) rfl)
    refine Wc.reg fun K hK => ?_; simp only [go_sem, ti3, ti4, ti9, ti22, ti94, ti96, ti32, ti29, ti31, ti41, ti158, ti212, ti155, hF, g0, z1, z2, z3, z4]; refine hK _ _ ?_; clear hK K
    refine Wc.cond (t := false) (by simp only [go_sem, ti3, ti4, ti9, ti22, ti94, ti96, ti32, ti29, ti31, ti41, ti158, ti212, ti155, hF, g0, z1, z2, z3, z4]) (fun hc => by cases hc) (fun _ => Wc.skip ?_)
    exact ⟨⟨by simp only [z1, z2, z3, z4]; rfl, by have := of_decide_eq_false z1; omega, by have := of_decide_eq_false z2; omega, by have := of_decide_eq_false z4; omega⟩, rfl, by simp only [Fs, Int.natCast_zero, go_sem, ti3, ti4, ti9, ti22, ti94, ti96, ti32, ti29, ti31, ti41, ti158, ti212, ti155, hF], by (try simp only [St.nx_put, St.nx_adv]); repeat (first | exact OA.mono ho (by omega) | refine OA.newB ?_ (by omega) rfl | refine OA.advB ?_)⟩
  clear hF ho g0 e s1
  rintro ⟨e, ds, s1⟩ ⟨⟨c2, hw1, hw2, hbl⟩, rfl, hF, ho⟩
  simp only [Fs] at hF ho
  rw [c2] at hR
  have hR0 : bksOK x.k x.w (prevS x.bs 0) (x.bs.drop 0) = R := by rw [← hR]; rfl
  clear hR
  refine Wc.seq ?_
  refine Wc.reg fun K hK => ?_; simp only [go_sem, ti3, ti4, ti9, ti22, ti94, ti96, ti32, ti29, ti31, ti41, ti158, ti212, ti155, hF]; refine hK _ _ ?_; clear hK K
  refine Wc.seqR (fun y => R = true ∧ y.ds = [] ∧ Fs y.e 74 []) ?_ ?_
  · refine Wc.seq ?_
    have g0 := ho.at_ (0, .cells (x.pd.map .p) false) (by simp)
    simp only [List.map_cons, List.map_nil] at g0
    refine Wc.reg fun K hK => ?_; simp only [go_sem, ti3, ti4, ti9, ti22, ti94, ti96, ti32, ti29, ti31, ti41, ti158, ti212, ti155, hF, g0, Int.natCast_zero]; refine hK _ _ ?_; clear hK K
    refine Wc.block (Wc.loop (fun c y => ∃ i : Nat, c = x.bs.length - i ∧ i ≤ x.bs.length ∧ y.ds = [] ∧ Fs y.e 74 [(1, .v (.c (.ref 0 0))), (3, P' (pI (prevS x.bs i))), (41, P' (.lst x.bs.length (x.bs.flatMap Bkt.pd))), (42, P' (pI x.bs.length)), (43, P' (pI i))] ∧ OA y.s.nx y.s [] [(0, .cells (x.pd.map .p) false)] ∧ (-1 ≤ prevS x.bs i) ∧ bksOK x.k x.w (prevS x.bs i) (x.bs.drop i) = R) ?_ (k := x.bs.length) ?_)
    · clear hF ho g0 hR0 e s1
      rintro c ⟨e, ds, s1⟩ ⟨i, rfl, hi, rfl, hF, ho, hpm, hRi⟩
      simp only [Fs] at hF ho
      refine Wc.seq ?_
      refine Wc.reg fun K hK => ?_; simp only [go_sem, ti3, ti4, ti9, ti22, ti94, ti96, ti32, ti29, ti31, ti41, ti158, ti212, ti155, hF]; refine hK _ _ ?_; clear hK K
      refine Wc.seq (Wc.cond (t := decide ((i : Int) < x.bs.length)) (by simp only [go_sem, ti3, ti4, ti9, ti22, ti94, ti96, ti32, ti29, ti31, ti41, ti158, ti212, ti155, hF]) (fun hc => ?_) (fun hc => ?_))
      · have hil : i < x.bs.length := by have := of_decide_eq_true hc; omega
        obtain ⟨b, hb⟩ : ∃ b, x.bs[i]? = some b := ⟨x.bs[i], List.getElem?_eq_getElem hil⟩
        have hix := ixA ti29 rfl ti41 (j := i) (m := x.bs.length) (cs := x.bs.flatMap Bkt.pd) hil hfl (by decide)
        have hca := rpA (off := i * 10) (drop_flat (f := Bkt.pd) (k := 10) (fun _ => rfl) hb) (by rw [hfl]; omega)
        have hpn : prevS x.bs (i + 1) = b.st := by simp [prevS, hb]
        rw [bksOK_step hb, hpn] at hRi
        refine Wc.skip (Wc.seq (Wc.block (Wc.seqA (fun y => ∃ k5, y.ds = [] ∧ Fs y.e 74 [(1, .v (.c (.ref 0 0))), (3, P' (pI (prevS x.bs i))), (41, P' (.lst x.bs.length (x.bs.flatMap Bkt.pd))), (42, P' (pI x.bs.length)), (43, P' (pI i)), (5, .v (.c (.ref k5 0)))] ∧ OA y.s.nx y.s [] [(k5, .cells (b.pd.map .p) false), (0, .cells (x.pd.map .p) false)]) ?_ ?_)))
        · refine Wc.reg fun K hK => ?_; simp only [go_sem, ti3, ti4, ti9, ti22, ti94, ti96, ti32, ti29, ti31, ti41, ti158, ti212, ti155, hF, hix, hca]; refine hK _ _ ?_; clear hK K
          exact ⟨rfl, s1.nx + 3, rfl, by simp only [Fs, Int.natCast_zero, go_sem, ti3, ti4, ti9, ti22, ti94, ti96, ti32, ti29, ti31, ti41, ti158, ti212, ti155, hF], by (try simp only [St.nx_put, St.nx_adv]); repeat (first | exact OA.mono ho (by omega) | refine OA.newB ?_ (by omega) rfl | refine OA.advB ?_)⟩
        clear hF ho e s1
        rintro ⟨e, ds, s1⟩ ⟨k5, rfl, hF, ho⟩
        simp only [Fs] at hF ho
        have g5 := ho.at_ (k5, .cells (b.pd.map .p) false) (by simp)
        have g0 := ho.at_ (0, .cells (x.pd.map .p) false) (by simp)
        simp only [List.map_cons, List.map_nil] at g0 g5
        have hw0 : (x.w = 0) = False := by simp only [eq_iff_iff, iff_false]; omega
        refine Wc.seqR (fun y => ((decide (b.st ≤ prevS x.bs i) || decide (1099511627776 ≤ b.st) || (b.st.tmod x.w != 0)) = false ∧ 0 ≤ b.st ∧ b.st < 1099511627776) ∧ y.ds = [] ∧ Fs y.e 74 [(1, .v (.c (.ref 0 0))), (41, P' (.lst x.bs.length (x.bs.flatMap Bkt.pd))), (42, P' (pI x.bs.length)), (43, P' (pI i)), (5, .v (.c (.ref k5 0)))] ∧ OA y.s.nx y.s [] [(k5, .cells (b.pd.map .p) false), (0, .cells (x.pd.map .p) false)]) ?_ ?_
        · refine Wc.seq ?_
          have bad : (decide (b.st ≤ prevS x.bs i) || decide (1099511627776 ≤ b.st) || (b.st.tmod x.w != 0)) = true → false = R := fun h => by rw [← hRi, h]; rfl
          rcases Bool.eq_false_or_eq_true (decide (b.st ≤ prevS x.bs i)) with z1 | z1
          · refine Wc.reg fun K hK => ?_; simp only [go_sem, ti3, ti4, ti9, ti22, ti94, ti96, ti32, ti29, ti31, ti41, ti158, ti212, ti155, hF, g0, g5, hw0, z1]; refine hK _ _ ?_; clear hK K
            refine Wc.cond (t := true) (by simp only [go_sem, ti3, ti4, ti9, ti22, ti94, ti96, ti32, ti29, ti31, ti41, ti158, ti212, ti155, hF, g0, g5, hw0, z1]) (fun _ => ?_) (fun hc => by cases hc)
            refine Wc.seq ?_
            refine Wc.reg fun K hK => ?_; simp only [go_sem, ti3, ti4, ti9, ti22, ti94, ti96, ti32, ti29, ti31, ti41, ti158, ti212, ti155, hF]; refine hK _ _ ?_; clear hK K
            rw [← bad (by simp only [z1]; rfl)]
            exact Wc.ret (Pf.ret [.tmp 2] [.c (.p (.bool false))] rfl rfl (by simp only [resultsD, go_sem, ti3, ti4, ti9, ti22, ti94, ti96, ti32, ti29, ti31, ti41, ti158, ti212, ti155, hF]) rfl)
          rcases Bool.eq_false_or_eq_true (decide (1099511627776 ≤ b.st)) with z2 | z2
          · refine Wc.reg fun K hK => ?_; simp only [go_sem, ti3, ti4, ti9, ti22, ti94, ti96, ti32, ti29, ti31, ti41, ti158, ti212, ti155, hF, g0, g5, hw0, z1, z2]; refine hK _ _ ?_; clear hK K
            refine Wc.cond (t := true) (by simp only [go_sem, ti3, ti4, ti9, ti22, ti94, ti96, ti32, ti29, ti31, ti41, ti158, ti212, ti155, hF, g0, g5, hw0, z1, z2]) (fun _ => ?_) (fun hc => by cases hc)
            refine Wc.seq ?_
            refine Wc.reg fun K hK => ?_; simp only [go_sem, ti3, ti4, ti9, ti22, ti94, ti96, ti32, ti29, ti31, ti41, ti158, ti212, ti155, hF]; refine hK _ _ ?_; clear hK K
            rw [← bad (by simp only [z1, z2]; rfl)]
            exact Wc.ret (Pf.ret [.tmp 2] [.c (.p (.bool false))] rfl rfl (by simp only [resultsD, go_sem, ti3, ti4, ti9, ti22, ti94, ti96, ti32, ti29, ti31, ti41, ti158, ti212, ti155, hF]) rfl)
          rcases Bool.eq_false_or_eq_true (b.st.tmod x.w != 0) with z3 | z3
          · refine Wc.reg fun K hK => ?_; simp only [go_sem, ti3, ti4, ti9, ti22, ti94, ti96, ti32, ti29, ti31, ti41, ti158, ti212, ti155, hF, g0, g5, hw0, z1, z2, z3]; refine hK _ _ ?_; clear hK K
            refine Wc.cond (t := true) (by simp only [go_sem, ti3, ti4, ti9, ti22, ti94, ti96, ti32, ti29, ti31, ti41, ti158, ti212, ti155, hF, g0, g5, hw0, z1, z2, z3]) (fun _ => ?_) (fun hc => by cases hc)
            refine Wc.seq ?_
            refine Wc.reg fun K hK => ?_; simp only [go_sem, ti3, ti4, ti9, ti22, ti94, ti96, ti32, ti29, ti31, ti41, ti158, ti212, ti155, hF]; refine hK _ _ ?_; clear hK K
            rw [← bad (by simp only [z1, z2, z3]; rfl)]
            exact Wc.ret (Pf.ret [.tmp 2] [.c (.p (.bool false))] rfl rfl (by simp only [resultsD, go_sem, ti3, ti4, ti9, ti22, ti94, ti96, ti32, ti29, ti31, ti41, ti158, ti212, ti155, hF]) rfl)
          refine Wc.reg fun K hK => ?_; simp only [go_sem, ti3, ti4, ti9, ti22, ti94, ti96, ti32, ti29, ti31, ti41, ti158, ti212, ti155, hF, g0, g5, hw0, z1, z2, z3]; refine hK _ _ ?_; clear hK K
          refine Wc.cond (t := false) (by simp only [go_sem, ti3, ti4, ti9, ti22, ti94, ti96, ti32, ti29, ti31, ti41, ti158, ti212, ti155, hF, g0, g5, hw0, z1, z2, z3]) (fun hc => by cases hc) (fun _ => Wc.skip ?_)
          exact ⟨⟨by simp only [z1, z2, z3]; rfl, by have := of_decide_eq_false z1; omega, by have := of_decide_eq_false z2; omega⟩, rfl, by simp only [Fs, Int.natCast_zero, go_sem, ti3, ti4, ti9, ti22, ti94, ti96, ti32, ti29, ti31, ti41, ti158, ti212, ti155, hF], by (try simp only [St.nx_put, St.nx_adv]); repeat (first | exact OA.mono ho (by omega) | refine OA.newB ?_ (by omega) rfl | refine OA.advB ?_)⟩
        clear hF ho g0 g5 e s1
        rintro ⟨e, ds, s1⟩ ⟨⟨c3, hb0, hb1⟩, rfl, hF, ho⟩
        simp only [Fs] at hF ho
        have g5 := ho.at_ (k5, .cells (b.pd.map .p) false) (by simp)
        have g0 := ho.at_ (0, .cells (x.pd.map .p) false) (by simp)
        simp only [List.map_cons, List.map_nil] at g0 g5
        rw [c3] at hRi
        refine Wc.seq (Wc.seq ?_)
        refine Wc.reg fun K hK => ?_; simp only [go_sem, ti3, ti4, ti9, ti22, ti94, ti96, ti32, ti29, ti31, ti41, ti158, ti212, ti155, hF, g0, g5]
        refine wpCall.pf (pf155 b x.k x.w ⟨hb0, hb1⟩ ⟨hw1, hw2⟩) (by kernel_rfl) (by kernel_rfl) rfl rfl ?_
        simp only [go_sem, ti3, ti4, ti9, ti22, ti94, ti96, ti32, ti29, ti31, ti41, ti158, ti212, ti155, hF, g0, g5]; refine hK _ _ ?_; clear hK K
        refine Wc.cond (t := !(bkA x.k x.w b)) (by simp only [go_sem, ti3, ti4, ti9, ti22, ti94, ti96, ti32, ti29, ti31, ti41, ti158, ti212, ti155, hF]) (fun hc => ?_) (fun hc => ?_)
        · have hbk : bkA x.k x.w b = false := by simpa using hc
          refine Wc.seq ?_
          refine Wc.reg fun K hK => ?_; simp only [go_sem, ti3, ti4, ti9, ti22, ti94, ti96, ti32, ti29, ti31, ti41, ti158, ti212, ti155, hF]; refine hK _ _ ?_; clear hK K
          rw [← hRi, hbk]
          exact Wc.ret (Pf.ret [.tmp 2] [.c (.p (.bool false))] rfl rfl (by simp only [resultsD, go_sem, ti3, ti4, ti9, ti22, ti94, ti96, ti32, ti29, ti31, ti41, ti158, ti212, ti155, hF]) rfl)
        · have hbk : bkA x.k x.w b = true := by simpa using hc
          rw [hbk] at hRi
          refine Wc.skip ?_
          refine Wc.reg fun K hK => ?_; simp only [go_sem, ti3, ti4, ti9, ti22, ti94, ti96, ti32, ti29, ti31, ti41, ti158, ti212, ti155, hF, g5]; refine hK _ _ ?_; clear hK K
          refine Wc.reg fun K hK => ?_; simp only [go_sem, ti3, ti4, ti9, ti22, ti94, ti96, ti32, ti29, ti31, ti41, ti158, ti212, ti155, hF, i64n i (by omega)]; refine hK _ _ ?_; clear hK K
          refine ⟨x.bs.length - (i + 1), by omega, i + 1, rfl, by omega, rfl, by rw [hpn]; exact by simp only [Fs, Int.natCast_zero, go_sem, ti3, ti4, ti9, ti22, ti94, ti96, ti32, ti29, ti31, ti41, ti158, ti212, ti155, hF], by (try simp only [St.nx_put, St.nx_adv]); repeat (first | exact OA.mono (ho.sub (List.Sublist.refl _) (List.sublist_cons_self _ _)) (by omega) | refine OA.newB ?_ (by omega) rfl | refine OA.advB ?_), by rw [hpn]; omega, by rw [hpn]; exact hRi⟩
      · have hil : i = x.bs.length := by have := of_decide_eq_false hc; omega
        subst hil
        rw [List.drop_length] at hRi
        exact Wc.exit ⟨hRi.symm, rfl, by simp only [Fs, Int.natCast_zero, go_sem, ti3, ti4, ti9, ti22, ti94, ti96, ti32, ti29, ti31, ti41, ti158, ti212, ti155, hF]⟩
    · exact ⟨0, rfl, by omega, rfl, by rw [show prevS x.bs 0 = -1 from rfl]; exact by simp only [Fs, Int.natCast_zero, go_sem, ti3, ti4, ti9, ti22, ti94, ti96, ti32, ti29, ti31, ti41, ti158, ti212, ti155, hF], by (try simp only [St.nx_put, St.nx_adv]); repeat (first | exact OA.mono ho (by omega) | refine OA.newB ?_ (by omega) rfl | refine OA.advB ?_), by simp [prevS], hR0⟩
  clear hF ho e s1
  rintro ⟨e, ds, s1⟩ ⟨hRt, rfl, hF⟩
  simp only [Fs] at hF
  subst hRt
  refine Wc.seq ?_
  refine Wc.reg fun K hK => ?_; simp only [go_sem, ti3, ti4, ti9, ti22, ti94, ti96, ti32, ti29, ti31, ti41, ti158, ti212, ti155, hF]; refine hK _ _ ?_; clear hK K
  exact Wc.ret (Pf.ret [.tmp 2] [.c (.p (.bool true))] rfl rfl (by simp only [resultsD, go_sem, ti3, ti4, ti9, ti22, ti94, ti96, ti32, ti29, ti31, ti41, ti158, ti212, ti155, hF]) rfl)
end Go.Proofs.YtedcnhbblgmdnaaGreat.Ab
