/- A part of the proof: an evaluator of the code, its contracts, the law. No condition. -/
import Derived.Test.YtedcnhbblgmdnaaGreatT27
import Derived.Test.YtedcnhbblgmdnaaGreatT10
namespace Go.Proofs.YtedcnhbblgmdnaaGreat.Ab
set_option maxHeartbeats 8000000
set_option maxRecDepth 10000
set_option linter.unusedSimpArgs false
set_option linter.unusedVariables false
theorem less_irr : ∀ s : List UInt8, Op.bytesLess s s = false
  | [] => rfl
  | a :: r => by
    simp only [Op.bytesLess, less_irr r, Bool.and_false, Bool.or_false, decide_eq_false_iff_not]
    exact UInt8.lt_irrefl a
theorem o154 : E0.opn 154 = false := by kernel_rfl
theorem x154 : E0.xt 154 = none := by kernel_rfl
/-- 115: Text, of equal texts -/
theorem pf154 (s : List UInt8) : Pf E0 154 [.c (.p (.str s)), .c (.p (.str s))] (P' (pI 0)) := by
  have h := less_irr s
  refine Pf.body (fn := Tryz.f154) (by kernel_rfl) rfl ?_; simp only [List.map_cons, List.map_nil, List.cons_append, List.nil_append, List.length_cons, List.length_nil, Tryz.ntmps154, List.replicate, Nat.reduceSub, Nat.reduceAdd]
  refine Wc.seq ?_
  refine Wc.reg fun K hK => ?_; simp only [go_sem, ti3, ti9, ti4, ti32, ti22, ti23, ti24, ti26, ti94, ti96, ti39, ti148, ti150, ti152, ti117]; refine hK _ _ ?_; clear hK K
  refine Wc.seq (Wc.seq ?_)
  refine Wc.reg fun K hK => ?_; simp only [go_sem, ti3, ti9, ti4, ti32, ti22, ti23, ti24, ti26, ti94, ti96, ti39, ti148, ti150, ti152, ti117, h]; refine hK _ _ ?_; clear hK K
  refine Wc.cond (t := false) (by simp only [go_sem, ti3, ti9, ti4, ti32, ti22, ti23, ti24, ti26, ti94, ti96, ti39, ti148, ti150, ti152, ti117, h]) (fun hc => by cases hc) (fun _ => Wc.skip ?_)
  refine Wc.seq (Wc.seq ?_)
  refine Wc.reg fun K hK => ?_; simp only [go_sem, ti3, ti9, ti4, ti32, ti22, ti23, ti24, ti26, ti94, ti96, ti39, ti148, ti150, ti152, ti117, h]; refine hK _ _ ?_; clear hK K
  refine Wc.cond (t := false) (by simp only [go_sem, ti3, ti9, ti4, ti32, ti22, ti23, ti24, ti26, ti94, ti96, ti39, ti148, ti150, ti152, ti117, h, Bool.or_true]) (fun hc => by cases hc) (fun _ => Wc.skip ?_)
  refine Wc.seq ?_
  refine Wc.reg fun K hK => ?_; simp only [go_sem, ti3, ti9, ti4, ti32, ti22, ti23, ti24, ti26, ti94, ti96, ti39, ti148, ti150, ti152, ti117]; refine hK _ _ ?_; clear hK K
  exact Wc.ret (Pf.ret [.tmp 4] [.c (.p (pI 0))] rfl rfl (by simp only [resultsD, go_sem, ti3, ti9, ti4, ti32, ti22, ti23, ti24, ti26, ti94, ti96, ti39, ti148, ti150, ti152, ti117]) rfl)
/-- 77: Compare, of equal labels -/
theorem pf96 (l : List Lb) (hl : l.length < 2^60) : Pf E0 96 [.c (.p (.lst l.length (l.flatMap lbP))), .c (.p (.lst l.length (l.flatMap lbP)))] (P' (pI 0)) := by
  have hfl : (l.flatMap lbP).length = l.length * 2 := flat_len (k := 2) (fun _ => rfl) l
  refine Pf.body (fn := Tryz.f96) (by kernel_rfl) rfl ?_; simp only [List.map_cons, List.map_nil, List.cons_append, List.nil_append, List.length_cons, List.length_nil, Tryz.ntmps96, List.replicate, Nat.reduceSub, Nat.reduceAdd]
  refine Wc.seq ?_
  refine Wc.reg fun K hK => ?_; simp only [go_sem, ti3, ti9, ti4, ti32, ti22, ti23, ti24, ti26, ti94, ti96, ti39, ti148, ti150, ti152, ti117]; refine hK _ _ ?_; clear hK K
  refine Wc.seqA (fun y => y.ds = [] ∧ y.e.length = 58 ∧ y.e.getD 0 .junk = P' (.lst l.length (l.flatMap lbP)) ∧ y.e.getD 1 .junk = P' (.lst l.length (l.flatMap lbP))) ?_ ?_
  · refine Wc.seq ?_
    refine Wc.reg fun K hK => ?_; simp only [go_sem, ti3, ti9, ti4, ti32, ti22, ti23, ti24, ti26, ti94, ti96, ti39, ti148, ti150, ti152, ti117, Int.natCast_zero]; refine hK _ _ ?_; clear hK K
    refine Wc.block (Wc.loop (fun k y => ∃ i : Nat, k = l.length - i ∧ i ≤ l.length ∧ y.ds = [] ∧ y.e.length = 58 ∧ y.e.getD 0 .junk = P' (.lst l.length (l.flatMap lbP)) ∧ y.e.getD 1 .junk = P' (.lst l.length (l.flatMap lbP)) ∧ y.e.getD 5 .junk = P' (pI i)) ?_ (k := l.length) ?_)
    · rintro k ⟨e, ds, s1⟩ ⟨i, rfl, hi, rfl, hlen, h0, h1, h5⟩
      simp only at hlen h0 h1 h5
      refine Wc.seq (Wc.seq ?_)
      by_cases hil : i < l.length
      · have hd : ((i : Int) < (l.length : Int)) = True := by simp only [eq_iff_iff, iff_true]; omega
        obtain ⟨x, hx⟩ : ∃ x, l[i]? = some x := ⟨l[i], List.getElem?_eq_getElem hil⟩
        have hix := ixA ti22 rfl ti117 (j := i) (m := l.length) (cs := l.flatMap lbP) hil hfl (by decide)
        have hca := rpA (off := i * 2) (drop_flat (f := lbP) (k := 2) (fun _ => rfl) hx) (by rw [hfl]; omega)
        have hcc := rpA (off := i * 2 + 1) (cs := l.flatMap lbP) (pre := [.str x.2]) (rest := (l.drop (i + 1)).flatMap lbP) (by rw [← List.drop_drop, drop_flat (f := lbP) (k := 2) (fun _ => rfl) hx]; rfl) (by rw [hfl]; omega)
        refine Wc.reg fun K hK => ?_; simp only [go_sem, ti3, ti9, ti4, ti32, ti22, ti23, ti24, ti26, ti94, ti96, ti39, ti148, ti150, ti152, ti117, hlen, h0, h1, h5, hd]; refine hK _ _ ?_; clear hK K
        refine Wc.cond (t := true) (by simp only [go_sem, ti3, ti9, ti4, ti32, ti22, ti23, ti24, ti26, ti94, ti96, ti39, ti148, ti150, ti152, ti117, hlen, hd]) (fun _ => ?_) (fun hc => by cases hc)
        refine Wc.skip (Wc.seq (Wc.block (Wc.seq (Wc.seq ?_))))
        refine Wc.regD fun K hK => ?_; simp only [go_sem, ti3, ti9, ti4, ti32, ti22, ti23, ti24, ti26, ti94, ti96, ti39, ti148, ti150, ti152, ti117, hlen, h0, h1, h5, hix, hca]
        refine ⟨by simp [o154, x154, plainD, plainV, plainC], ?_⟩
        refine wpCall.pf (pf154 x.1) (by kernel_rfl) (by kernel_rfl) rfl rfl ?_
        simp only [go_sem, ti3, ti9, ti4, ti32, ti22, ti23, ti24, ti26, ti94, ti96, ti39, ti148, ti150, ti152, ti117, hlen, h0, h1, h5, hix, hca]; refine hK _ _ ?_; clear hK K
        refine Wc.seq ?_
        refine Wc.reg fun K hK => ?_; simp only [go_sem, ti3, ti9, ti4, ti32, ti22, ti23, ti24, ti26, ti94, ti96, ti39, ti148, ti150, ti152, ti117, hlen, h0, h1, h5]; refine hK _ _ ?_; clear hK K
        refine Wc.cond (t := false) (by simp only [go_sem, ti3, ti9, ti4, ti32, ti22, ti23, ti24, ti26, ti94, ti96, ti39, ti148, ti150, ti152, ti117, hlen]; rfl) (fun hc => by cases hc) (fun _ => Wc.skip ?_)
        refine Wc.seq ?_
        refine Wc.regD fun K hK => ?_; simp only [go_sem, ti3, ti9, ti4, ti32, ti22, ti23, ti24, ti26, ti94, ti96, ti39, ti148, ti150, ti152, ti117, hlen, h0, h1, h5, hix, hcc]
        refine ⟨by simp [o154, x154, plainD, plainV, plainC], ?_⟩
        refine wpCall.pf (pf154 x.2) (by kernel_rfl) (by kernel_rfl) rfl rfl ?_
        simp only [go_sem, ti3, ti9, ti4, ti32, ti22, ti23, ti24, ti26, ti94, ti96, ti39, ti148, ti150, ti152, ti117, hlen, h0, h1, h5, hix, hcc]; refine hK _ _ ?_; clear hK K
        refine Wc.seq ?_
        refine Wc.reg fun K hK => ?_; simp only [go_sem, ti3, ti9, ti4, ti32, ti22, ti23, ti24, ti26, ti94, ti96, ti39, ti148, ti150, ti152, ti117, hlen, h0, h1, h5]; refine hK _ _ ?_; clear hK K
        refine Wc.cond (t := false) (by simp only [go_sem, ti3, ti9, ti4, ti32, ti22, ti23, ti24, ti26, ti94, ti96, ti39, ti148, ti150, ti152, ti117, hlen]; rfl) (fun hc => by cases hc) (fun _ => Wc.skip ?_)
        refine Wc.reg fun K hK => ?_; simp only [go_sem, ti3, ti9, ti4, ti32, ti22, ti23, ti24, ti26, ti94, ti96, ti39, ti148, ti150, ti152, ti117, hlen, h0, h1, h5, i64n i (by omega)]; refine hK _ _ ?_; clear hK K
        exact ⟨l.length - (i + 1), by omega, i + 1, rfl, by omega, rfl, by simp only [go_sem, ti3, ti9, ti4, ti32, ti22, ti23, ti24, ti26, ti94, ti96, ti39, ti148, ti150, ti152, ti117, hlen], by simp only [go_sem, ti3, ti9, ti4, ti32, ti22, ti23, ti24, ti26, ti94, ti96, ti39, ti148, ti150, ti152, ti117, hlen, h0], by simp only [go_sem, ti3, ti9, ti4, ti32, ti22, ti23, ti24, ti26, ti94, ti96, ti39, ti148, ti150, ti152, ti117, hlen, h1], by simp only [go_sem, ti3, ti9, ti4, ti32, ti22, ti23, ti24, ti26, ti94, ti96, ti39, ti148, ti150, ti152, ti117, hlen]⟩
      · have hd : ((i : Int) < (l.length : Int)) = False := by simp only [eq_iff_iff, iff_false]; omega
        refine Wc.reg fun K hK => ?_; simp only [go_sem, ti3, ti9, ti4, ti32, ti22, ti23, ti24, ti26, ti94, ti96, ti39, ti148, ti150, ti152, ti117, hlen, h0, h1, h5, hd]; refine hK _ _ ?_; clear hK K
        refine Wc.cond (t := false) (by simp only [go_sem, ti3, ti9, ti4, ti32, ti22, ti23, ti24, ti26, ti94, ti96, ti39, ti148, ti150, ti152, ti117, hlen, hd]) (fun hc => by cases hc) (fun _ => ?_)
        exact Wc.exit ⟨rfl, rfl, by simp only [go_sem, ti3, ti9, ti4, ti32, ti22, ti23, ti24, ti26, ti94, ti96, ti39, ti148, ti150, ti152, ti117, hlen], by simp only [go_sem, ti3, ti9, ti4, ti32, ti22, ti23, ti24, ti26, ti94, ti96, ti39, ti148, ti150, ti152, ti117, hlen, h0], by simp only [go_sem, ti3, ti9, ti4, ti32, ti22, ti23, ti24, ti26, ti94, ti96, ti39, ti148, ti150, ti152, ti117, hlen, h1]⟩
    · exact ⟨0, rfl, by omega, rfl, rfl, rfl, rfl, rfl⟩
  rintro ⟨e, ds, s1⟩ ⟨rfl, hlen, h0, h1⟩
  simp only at hlen h0 h1
  have hd : ((l.length : Int) < (l.length : Int)) = False := by simp
  refine Wc.seq (Wc.seq ?_)
  refine Wc.reg fun K hK => ?_; simp only [go_sem, ti3, ti9, ti4, ti32, ti22, ti23, ti24, ti26, ti94, ti96, ti39, ti148, ti150, ti152, ti117, hlen, h0, h1, hd]; refine hK _ _ ?_; clear hK K
  refine Wc.cond (t := false) (by simp only [go_sem, ti3, ti9, ti4, ti32, ti22, ti23, ti24, ti26, ti94, ti96, ti39, ti148, ti150, ti152, ti117, hlen, hd]) (fun hc => by cases hc) (fun _ => Wc.skip ?_)
  refine Wc.seq (Wc.seq ?_)
  refine Wc.reg fun K hK => ?_; simp only [go_sem, ti3, ti9, ti4, ti32, ti22, ti23, ti24, ti26, ti94, ti96, ti39, ti148, ti150, ti152, ti117, hlen, h0, h1, hd]; refine hK _ _ ?_; clear hK K
  refine Wc.cond (t := false) (by simp only [go_sem, ti3, ti9, ti4, ti32, ti22, ti23, ti24, ti26, ti94, ti96, ti39, ti148, ti150, ti152, ti117, hlen, hd]) (fun hc => by cases hc) (fun _ => Wc.skip ?_)
  refine Wc.seq ?_
  refine Wc.reg fun K hK => ?_; simp only [go_sem, ti3, ti9, ti4, ti32, ti22, ti23, ti24, ti26, ti94, ti96, ti39, ti148, ti150, ti152, ti117, hlen]; refine hK _ _ ?_; clear hK K
  exact Wc.ret (Pf.ret [.tmp 4] [.c (.p (pI 0))] rfl rfl (by simp only [resultsD, go_sem, ti3, ti9, ti4, ti32, ti22, ti23, ti24, ti26, ti94, ti96, ti39, ti148, ti150, ti152, ti117, hlen]) rfl)
/-- 36: Same, of equal labels -/
theorem pf50 (l : List Lb) (hl : l.length < 2^60) : Pf E0 50 [.c (.p (.lst l.length (l.flatMap lbP))), .c (.p (.lst l.length (l.flatMap lbP)))] (P' (.bool true)) := by
  refine Pf.body (fn := Tryz.f50) (by kernel_rfl) rfl ?_; simp only [List.map_cons, List.map_nil, List.cons_append, List.nil_append, List.length_cons, List.length_nil, Tryz.ntmps50, List.replicate, Nat.reduceSub, Nat.reduceAdd]
  refine Wc.seq ?_
  refine Wc.reg fun K hK => ?_; simp only [go_sem, ti3, ti9, ti4, ti32, ti22, ti23, ti24, ti26, ti94, ti96, ti39, ti148, ti150, ti152, ti117]; refine hK _ _ ?_; clear hK K
  refine Wc.seq ?_
  refine Wc.reg fun K hK => ?_; simp only [go_sem, ti3, ti9, ti4, ti32, ti22, ti23, ti24, ti26, ti94, ti96, ti39, ti148, ti150, ti152, ti117]
  refine wpCall.pf (pf96 l hl) (by kernel_rfl) (by kernel_rfl) rfl rfl ?_
  simp only [go_sem, ti3, ti9, ti4, ti32, ti22, ti23, ti24, ti26, ti94, ti96, ti39, ti148, ti150, ti152, ti117]; refine hK _ _ ?_; clear hK K
  exact Wc.ret (Pf.ret [.tmp 4] [.c (.p (.bool true))] rfl rfl (by simp only [resultsD, go_sem, ti3, ti9, ti4, ti32, ti22, ti23, ti24, ti26, ti94, ti96, ti39, ti148, ti150, ti152, ti117]; try rfl) rfl)
def lbG (x : Lb) : Bool := decide (61 < x.1.length) || decide (201 < x.2.length)
def lbsG (l : List Lb) : Bool := l.any lbG || decide (17 < l.length)
/-- 19: Great, of labels -/
theorem pf39 (l : List Lb) (hl : l.length < 2^60) : Pf E0 39 [.c (.p (.lst l.length (l.flatMap lbP)))] (P' (.bool (lbsG l))) := by
  have hfl : (l.flatMap lbP).length = l.length * 2 := flat_len (k := 2) (fun _ => rfl) l
  refine Pf.body (fn := Tryz.f39) (by kernel_rfl) rfl ?_; simp only [List.map_cons, List.map_nil, List.cons_append, List.nil_append, List.length_cons, List.length_nil, Tryz.ntmps39, List.replicate, Nat.reduceSub, Nat.reduceAdd]
  refine Wc.seq ?_
  refine Wc.reg fun K hK => ?_; simp only [go_sem, ti3, ti9, ti4, ti32, ti22, ti23, ti24, ti26, ti94, ti96, ti39, ti148, ti150, ti152, ti117]; refine hK _ _ ?_; clear hK K
  refine Wc.seqR (fun y => l.any lbG = false ∧ y.ds = [] ∧ y.e.length = 29 ∧ y.e.getD 0 .junk = P' (.lst l.length (l.flatMap lbP))) ?_ ?_
  · refine Wc.seq ?_
    refine Wc.reg fun K hK => ?_; simp only [go_sem, ti3, ti9, ti4, ti32, ti22, ti23, ti24, ti26, ti94, ti96, ti39, ti148, ti150, ti152, ti117, Int.natCast_zero]; refine hK _ _ ?_; clear hK K
    refine Wc.block (Wc.loop (fun k y => ∃ i : Nat, k = l.length - i ∧ i ≤ l.length ∧ y.ds = [] ∧ y.e.length = 29 ∧ y.e.getD 0 .junk = P' (.lst l.length (l.flatMap lbP)) ∧ y.e.getD 3 .junk = P' (pI i) ∧ (l.take i).any lbG = false) ?_ (k := l.length) ?_)
    · rintro k ⟨e, ds, s1⟩ ⟨i, rfl, hi, rfl, hlen, h0, h3, hn⟩
      simp only at hlen h0 h3
      refine Wc.seq (Wc.seq ?_)
      refine Wc.reg fun K hK => ?_; simp only [go_sem, ti3, ti9, ti4, ti32, ti22, ti23, ti24, ti26, ti94, ti96, ti39, ti148, ti150, ti152, ti117, hlen, h0, h3]; refine hK _ _ ?_; clear hK K
      refine Wc.cond (t := decide ((i : Int) < l.length)) (by simp only [go_sem, ti3, ti9, ti4, ti32, ti22, ti23, ti24, ti26, ti94, ti96, ti39, ti148, ti150, ti152, ti117, hlen]) (fun hc => ?_) (fun hc => ?_)
      · have hil : i < l.length := by have h9 : (i : Int) < l.length := (by simpa using hc); omega
        obtain ⟨x, hx⟩ : ∃ x, l[i]? = some x := ⟨l[i], List.getElem?_eq_getElem hil⟩
        have hix := ixA ti22 rfl ti117 (j := i) (m := l.length) (cs := l.flatMap lbP) hil hfl (by decide)
        have hca := rpA (off := i * 2) (drop_flat (f := lbP) (k := 2) (fun _ => rfl) hx) (by rw [hfl]; omega)
        have hcc := rpA (off := i * 2 + 1) (cs := l.flatMap lbP) (pre := [.str x.2]) (rest := (l.drop (i + 1)).flatMap lbP) (by rw [← List.drop_drop, drop_flat (f := lbP) (k := 2) (fun _ => rfl) hx]; rfl) (by rw [hfl]; omega)
        have bad : lbG x = true → lbsG l = true := fun h => by
          unfold lbsG
          rw [List.any_eq_true.2 ⟨x, List.mem_of_getElem? hx, h⟩, Bool.true_or]
        refine Wc.skip (Wc.seq (Wc.block (Wc.seq ?_)))
        by_cases z1 : 61 < x.1.length
        · have f1 : ((61 : Int) < (x.1.length : Int)) = True := by simp only [eq_iff_iff, iff_true]; omega
          refine Wc.reg fun K hK => ?_; simp only [go_sem, ti3, ti9, ti4, ti32, ti22, ti23, ti24, ti26, ti94, ti96, ti39, ti148, ti150, ti152, ti117, hlen, h0, h3, hix, hca, f1]; refine hK _ _ ?_; clear hK K
          refine Wc.cond (t := true) (by simp only [go_sem, ti3, ti9, ti4, ti32, ti22, ti23, ti24, ti26, ti94, ti96, ti39, ti148, ti150, ti152, ti117, hlen]) (fun _ => ?_) (fun hc => by cases hc)
          refine Wc.seq ?_
          refine Wc.reg fun K hK => ?_; simp only [go_sem, ti3, ti9, ti4, ti32, ti22, ti23, ti24, ti26, ti94, ti96, ti39, ti148, ti150, ti152, ti117, hlen]; refine hK _ _ ?_; clear hK K
          rw [bad (by simp [lbG, z1])]
          exact Wc.ret (Pf.ret [.tmp 2] [.c (.p (.bool true))] rfl rfl (by simp only [resultsD, go_sem, ti3, ti9, ti4, ti32, ti22, ti23, ti24, ti26, ti94, ti96, ti39, ti148, ti150, ti152, ti117, hlen]) rfl)
        have f1 : ((61 : Int) < (x.1.length : Int)) = False := by simp only [eq_iff_iff, iff_false]; omega
        refine Wc.reg fun K hK => ?_; simp only [go_sem, ti3, ti9, ti4, ti32, ti22, ti23, ti24, ti26, ti94, ti96, ti39, ti148, ti150, ti152, ti117, hlen, h0, h3, hix, hca, hcc, f1]; refine hK _ _ ?_; clear hK K
        refine Wc.cond (t := decide ((201 : Int) < x.2.length)) (by simp only [go_sem, ti3, ti9, ti4, ti32, ti22, ti23, ti24, ti26, ti94, ti96, ti39, ti148, ti150, ti152, ti117, hlen]) (fun hc => ?_) (fun hc => ?_)
        · have z2 : (201 : Int) < x.2.length := of_decide_eq_true hc
          have z3 : 201 < x.2.length := by omega
          refine Wc.seq ?_
          refine Wc.reg fun K hK => ?_; simp only [go_sem, ti3, ti9, ti4, ti32, ti22, ti23, ti24, ti26, ti94, ti96, ti39, ti148, ti150, ti152, ti117, hlen]; refine hK _ _ ?_; clear hK K
          rw [bad (by simp [lbG, z3])]
          exact Wc.ret (Pf.ret [.tmp 2] [.c (.p (.bool true))] rfl rfl (by simp only [resultsD, go_sem, ti3, ti9, ti4, ti32, ti22, ti23, ti24, ti26, ti94, ti96, ti39, ti148, ti150, ti152, ti117, hlen]) rfl)
        · have z2 : ¬ (201 : Int) < x.2.length := of_decide_eq_false hc
          have z3 : ¬ 201 < x.2.length := by omega
          refine Wc.skip ?_
          refine Wc.reg fun K hK => ?_; simp only [go_sem, ti3, ti9, ti4, ti32, ti22, ti23, ti24, ti26, ti94, ti96, ti39, ti148, ti150, ti152, ti117, hlen, h0, h3, i64n i (by omega)]; refine hK _ _ ?_; clear hK K
          refine ⟨l.length - (i + 1), by omega, i + 1, rfl, by omega, rfl, by simp only [go_sem, ti3, ti9, ti4, ti32, ti22, ti23, ti24, ti26, ti94, ti96, ti39, ti148, ti150, ti152, ti117, hlen], by simp only [go_sem, ti3, ti9, ti4, ti32, ti22, ti23, ti24, ti26, ti94, ti96, ti39, ti148, ti150, ti152, ti117, hlen, h0], by simp only [go_sem, ti3, ti9, ti4, ti32, ti22, ti23, ti24, ti26, ti94, ti96, ti39, ti148, ti150, ti152, ti117, hlen], ?_⟩
          rw [take_snoc hx, List.any_append, hn]
          simp only [List.any_cons, List.any_nil, lbG, decide_eq_false z1, decide_eq_false z3, Bool.or_self]
      · have hil : i = l.length := by have h9 : ¬ (i : Int) < l.length := (by simpa using hc); omega
        subst hil
        rw [List.take_length] at hn
        exact Wc.exit ⟨hn, rfl, by simp only [go_sem, ti3, ti9, ti4, ti32, ti22, ti23, ti24, ti26, ti94, ti96, ti39, ti148, ti150, ti152, ti117, hlen], by simp only [go_sem, ti3, ti9, ti4, ti32, ti22, ti23, ti24, ti26, ti94, ti96, ti39, ti148, ti150, ti152, ti117, hlen, h0]⟩
    · exact ⟨0, rfl, by omega, rfl, rfl, rfl, rfl, rfl⟩
  rintro ⟨e, ds, s1⟩ ⟨hn, rfl, hlen, h0⟩
  simp only at hlen h0
  refine Wc.seq ?_
  refine Wc.reg fun K hK => ?_; simp only [go_sem, ti3, ti9, ti4, ti32, ti22, ti23, ti24, ti26, ti94, ti96, ti39, ti148, ti150, ti152, ti117, hlen, h0]; refine hK _ _ ?_; clear hK K
  have e1 : lbsG l = decide ((17 : Int) < l.length) := by unfold lbsG; rw [hn, Bool.false_or, decide_eq_decide]; omega
  rw [e1]
  exact Wc.ret (Pf.ret [.tmp 2] [.c (.p (.bool (decide ((17 : Int) < l.length))))] rfl rfl (by simp only [resultsD, go_sem, ti3, ti9, ti4, ti32, ti22, ti23, ti24, ti26, ti94, ti96, ti39, ti148, ti150, ti152, ti117, hlen]) rfl)
/-- 20: Great, of samples -/
theorem pf40 (l : List I2) : Pf E0 40 [.c (.p (.lst l.length (l.flatMap p2)))] (P' (.bool (decide (24 < l.length)))) := by
  refine Pf.body (fn := Tryz.f40) (by kernel_rfl) rfl ?_; simp only [List.map_cons, List.map_nil, List.cons_append, List.nil_append, List.length_cons, List.length_nil, Tryz.ntmps40, List.replicate, Nat.reduceSub, Nat.reduceAdd]
  refine Wc.seq ?_
  refine Wc.reg fun K hK => ?_; simp only [go_sem, ti3, ti9, ti4, ti32, ti22, ti23, ti24, ti26, ti94, ti96, ti39, ti148, ti150, ti152, ti117]; refine hK _ _ ?_; clear hK K
  refine Wc.seq ?_
  refine Wc.reg fun K hK => ?_; simp only [go_sem, ti3, ti9, ti4, ti32, ti22, ti23, ti24, ti26, ti94, ti96, ti39, ti148, ti150, ti152, ti117]; refine hK _ _ ?_; clear hK K
  rw [show decide (24 < l.length) = decide ((24 : Int) < l.length) by rw [decide_eq_decide]; omega]
  exact Wc.ret (Pf.ret [.tmp 2] [.c (.p (.bool (decide ((24 : Int) < l.length))))] rfl rfl (by simp only [resultsD, go_sem, ti3, ti9, ti4, ti32, ti22, ti23, ti24, ti26, ti94, ti96, ti39, ti148, ti150, ti152, ti117]) rfl)
def serG (x : Ser) : Bool := x.hs.any (fun y => decide (40 < y.h.bs.length)) || (lbsG x.lb || (decide (24 < x.sm.length) || decide (6 < x.hs.length)))
theorem thenD_ret {K : Fr → Prop} {Q : Ex → Fr → Prop} {y : Fr} (h : Q .ret y) : thenD K Q .ret y := h
end Go.Proofs.YtedcnhbblgmdnaaGreat.Ab
namespace Go.Proofs.YtedcnhbblgmdnaaGreat.Ab
set_option maxRecDepth 100000
/-- What the closed check comes to. -/
noncomputable def aw : Option Bool := match bodyD E0 (runF E0 100) 100 12 [] { ob := [], nx := 0 } with
  | some (.v (.c (.p (.bool b))), _) => some b
  | _ => none
theorem aw_true : aw = some true := by kernel_rfl
/-- 12: the example of the chapter -/
theorem pf12 : Pf E0 12 [] (P' (.bool true)) := by
  have h := aw_true
  unfold aw at h
  split at h
  · rename_i b s hb
    cases h
    exact ⟨100, _, _, _, hb, rfl⟩
  · cases h
end Go.Proofs.YtedcnhbblgmdnaaGreat.Ab
namespace Go.Proofs.YtedcnhbblgmdnaaGreat.Ab
set_option maxHeartbeats 8000000
set_option maxRecDepth 10000
set_option linter.unusedSimpArgs false
set_option linter.unusedVariables false
/-- 17: Same, of equal rollups -/
theorem pf17 (x : Rlp) (hl : x.lb.length < 2^60) (hn : x.bs.length < 2^60) : Pf E0 17 [.agg (x.pd.map .p), .agg (x.pd.map .p)] (P' (.bool true)) := by
  have hfl : (x.bs.flatMap Bkt.pd).length = x.bs.length * 10 := flat_len (k := 10) (fun _ => rfl) _
  refine Pf.body (fn := Tryz.f17) (by kernel_rfl) rfl ?_; simp only [List.map_cons, List.map_nil, List.cons_append, List.nil_append, List.length_cons, List.length_nil, Tryz.ntmps17, List.replicate, Nat.reduceSub, Nat.reduceAdd]
  refine Wc.seq ?_
  refine Wc.reg fun K hK => ?_; simp only [go_sem, ti3, ti4, ti32, ti39, ti41, ti31, ti96, ti87, ti29, ti22, ti26, ti23, ti24, Int.natCast_zero]; refine hK _ _ ?_; clear hK K
  refine Wc.seq (Wc.seq ?_)
  refine Wc.reg fun K hK => ?_; simp only [go_sem, ti3, ti4, ti32, ti39, ti41, ti31, ti96, ti87, ti29, ti22, ti26, ti23, ti24, Int.natCast_zero]
  refine wpCall.pf (pf50 x.lb hl) (by kernel_rfl) (by kernel_rfl) rfl rfl ?_
  simp only [go_sem, ti3, ti4, ti32, ti39, ti41, ti31, ti96, ti87, ti29, ti22, ti26, ti23, ti24, Int.natCast_zero, bne_self_eq_false]; refine hK _ _ ?_; clear hK K
  refine Wc.cond (t := false) (by simp only [go_sem, ti3, ti4, ti32, ti39, ti41, ti31, ti96, ti87, ti29, ti22, ti26, ti23, ti24, Int.natCast_zero]) (fun hc => by cases hc) (fun _ => Wc.skip ?_)
  refine Wc.seqR (fun y => y.ds = [] ∧ Fs y.e 53 []) ?_ ?_
  · refine Wc.seq ?_
    refine Wc.reg fun K hK => ?_; simp only [go_sem, ti3, ti4, ti32, ti39, ti41, ti31, ti96, ti87, ti29, ti22, ti26, ti23, ti24, Int.natCast_zero]; refine hK _ _ ?_; clear hK K
    refine Wc.block (Wc.loop (fun c y => ∃ i : Nat, c = x.bs.length - i ∧ i ≤ x.bs.length ∧ y.ds = [] ∧ Fs y.e 53 [(2, .v (.c (.ref 0 0))), (3, .v (.c (.ref 1 0))), (5, P' (pI i))] ∧ OA y.s.nx y.s [] [(1, .cells (x.pd.map .p) false), (0, .cells (x.pd.map .p) false)]) ?_ (k := x.bs.length) ⟨0, rfl, by omega, rfl, by simp only [Fs, Int.natCast_zero, go_sem, ti3, ti4, ti32, ti39, ti41, ti31, ti96, ti87, ti29, ti22, ti26, ti23, ti24, Int.natCast_zero], by (try simp only [St.put_adv, St.adv_adv, St.put_put, St.nx_put, St.nx_adv]); repeat (first | exact OA.mono s00_oa (by omega) | refine OA.newB ?_ (by omega) rfl | refine OA.putB ?_ (by omega) | refine OA.advB ?_)⟩)
    rintro c ⟨e, ds, s1⟩ ⟨i, rfl, hi, rfl, hF, ho⟩
    simp only [Fs] at hF ho
    have g0 := ho.at_ (0, .cells (x.pd.map .p) false) (by simp)
    have g1 := ho.at_ (1, .cells (x.pd.map .p) false) (by simp)
    simp only [List.map_cons, List.map_nil] at g0 g1
    refine Wc.seq (Wc.seq ?_)
    refine Wc.reg fun K hK => ?_; simp only [go_sem, ti3, ti4, ti32, ti39, ti41, ti31, ti96, ti87, ti29, ti22, ti26, ti23, ti24, Int.natCast_zero, hF, g0]; refine hK _ _ ?_; clear hK K
    refine Wc.cond (t := decide ((i : Int) < x.bs.length)) (by simp only [go_sem, ti3, ti4, ti32, ti39, ti41, ti31, ti96, ti87, ti29, ti22, ti26, ti23, ti24, Int.natCast_zero, hF]) (fun hc => ?_) (fun hc => ?_)
    · have hil : i < x.bs.length := by have := of_decide_eq_true hc; omega
      obtain ⟨b, hb⟩ : ∃ b, x.bs[i]? = some b := ⟨x.bs[i], List.getElem?_eq_getElem hil⟩
      have hix := ixA ti29 rfl ti41 (j := i) (m := x.bs.length) (cs := x.bs.flatMap Bkt.pd) hil hfl (by decide)
      have hca := rpA (off := i * 10) (drop_flat (f := Bkt.pd) (k := 10) (fun _ => rfl) hb) (by rw [hfl]; omega)
      refine Wc.skip (Wc.seq (Wc.block (Wc.seq ?_)))
      refine Wc.regD fun K hK => ?_; simp only [go_sem, ti3, ti4, ti32, ti39, ti41, ti31, ti96, ti87, ti29, ti22, ti26, ti23, ti24, Int.natCast_zero, hF, g0, g1, hix, hca, eqL, eqS]; refine hK _ _ ?_; clear hK K
      refine Wc.cond (t := false) (by simp only [go_sem, ti3, ti4, ti32, ti39, ti41, ti31, ti96, ti87, ti29, ti22, ti26, ti23, ti24, Int.natCast_zero, hF]) (fun hc => by cases hc) (fun _ => ?_)
      refine Wc.skip ?_
      refine Wc.reg fun K hK => ?_; simp only [go_sem, ti3, ti4, ti32, ti39, ti41, ti31, ti96, ti87, ti29, ti22, ti26, ti23, ti24, Int.natCast_zero, hF, i64n i (by omega)]; refine hK _ _ ?_; clear hK K
      exact ⟨x.bs.length - (i + 1), by omega, i + 1, rfl, by omega, rfl, by simp only [Fs, Int.natCast_zero, go_sem, ti3, ti4, ti32, ti39, ti41, ti31, ti96, ti87, ti29, ti22, ti26, ti23, ti24, Int.natCast_zero, hF], by (try simp only [St.put_adv, St.adv_adv, St.put_put, St.nx_put, St.nx_adv]); repeat (first | exact OA.mono ho (by omega) | refine OA.newB ?_ (by omega) rfl | refine OA.putB ?_ (by omega) | refine OA.advB ?_)⟩
    · exact Wc.exit ⟨rfl, by simp only [Fs, Int.natCast_zero, go_sem, ti3, ti4, ti32, ti39, ti41, ti31, ti96, ti87, ti29, ti22, ti26, ti23, ti24, Int.natCast_zero, hF]⟩
  rintro ⟨e, ds, s1⟩ ⟨rfl, hF⟩
  simp only [Fs] at hF
  refine Wc.seq ?_
  refine Wc.reg fun K hK => ?_; simp only [go_sem, ti3, ti4, ti32, ti39, ti41, ti31, ti96, ti87, ti29, ti22, ti26, ti23, ti24, Int.natCast_zero, hF]; refine hK _ _ ?_; clear hK K
  exact Wc.ret (Pf.ret [.tmp 4] [.c (.p (.bool true))] rfl rfl (by simp only [resultsD, go_sem, ti3, ti4, ti32, ti39, ti41, ti31, ti96, ti87, ti29, ti22, ti26, ti23, ti24, Int.natCast_zero, hF]) rfl)
def grS (x : Ser) : Bool := lbsG x.lb || (decide ((24 : Int) < x.sm.length) || decide ((2 : Int) < x.hs.length))
/-- 11: great -/
theorem pf11 (x : Ser) (hlb : x.lb.length < 2^60) : Pf E0 11 [.agg (x.pd.map .p)] (P' (.bool (grS x))) := by
  unfold grS
  refine Pf.body (fn := Tryz.f11) (by kernel_rfl) rfl ?_; simp only [List.map_cons, List.map_nil, List.cons_append, List.nil_append, List.length_cons, List.length_nil, Tryz.ntmps11, List.replicate, Nat.reduceSub, Nat.reduceAdd]
  refine Wc.seq ?_
  refine Wc.reg fun K hK => ?_; simp only [go_sem, ti3, ti4, ti32, ti39, ti41, ti31, ti96, ti87, ti29, ti22, ti26, ti23, ti24, Int.natCast_zero]; refine hK _ _ ?_; clear hK K
  refine Wc.seq ?_
  refine Wc.reg fun K hK => ?_; simp only [go_sem, ti3, ti4, ti32, ti39, ti41, ti31, ti96, ti87, ti29, ti22, ti26, ti23, ti24, Int.natCast_zero]
  refine wpCall.pf (pf39 x.lb hlb) (by kernel_rfl) (by kernel_rfl) rfl rfl ?_
  cases h1 : lbsG x.lb with
  | true =>
    simp only [go_sem, ti3, ti4, ti32, ti39, ti41, ti31, ti96, ti87, ti29, ti22, ti26, ti23, ti24, Int.natCast_zero]; refine hK _ _ ?_; clear hK K
    rw [h1]
    exact Wc.ret (Pf.ret [.tmp 2] [.c (.p (.bool true))] rfl rfl (by simp only [resultsD, go_sem, ti3, ti4, ti32, ti39, ti41, ti31, ti96, ti87, ti29, ti22, ti26, ti23, ti24, Int.natCast_zero]) rfl)
  | false =>
    simp only [go_sem, ti3, ti4, ti32, ti39, ti41, ti31, ti96, ti87, ti29, ti22, ti26, ti23, ti24, Int.natCast_zero]
    refine wpCall.pf (pf40 x.sm) (by kernel_rfl) (by kernel_rfl) rfl rfl ?_
    cases h2 : decide (24 < x.sm.length) with
    | true =>
      have h3 : decide ((24 : Int) < x.sm.length) = true := by simp at h2 ⊢; omega
      simp only [go_sem, ti3, ti4, ti32, ti39, ti41, ti31, ti96, ti87, ti29, ti22, ti26, ti23, ti24, Int.natCast_zero]; refine hK _ _ ?_; clear hK K
      rw [h1, h3]
      exact Wc.ret (Pf.ret [.tmp 2] [.c (.p (.bool true))] rfl rfl (by simp only [resultsD, go_sem, ti3, ti4, ti32, ti39, ti41, ti31, ti96, ti87, ti29, ti22, ti26, ti23, ti24, Int.natCast_zero]) rfl)
    | false =>
      have h3 : decide ((24 : Int) < x.sm.length) = false := by simp at h2 ⊢; omega
      simp only [go_sem, ti3, ti4, ti32, ti39, ti41, ti31, ti96, ti87, ti29, ti22, ti26, ti23, ti24, Int.natCast_zero]; refine hK _ _ ?_; clear hK K
      rw [h1, h3]
      exact Wc.ret (Pf.ret [.tmp 2] [.c (.p (.bool (decide ((2 : Int) < x.hs.length))))] rfl rfl (by simp only [resultsD, go_sem, ti3, ti4, ti32, ti39, ti41, ti31, ti96, ti87, ti29, ti22, ti26, ti23, ti24, Int.natCast_zero]) rfl)
def grR (x : Rlp) : Bool := lbsG x.lb || decide ((24 : Int) < x.bs.length)
theorem lbsG_sz {l : List Lb} (h : lbsG l = false) : l.length < 2^40 ∧ ∀ y ∈ l, y.1.length < 2^50 ∧ y.2.length < 2^50 := by
  simp only [lbsG, Bool.or_eq_false_iff, decide_eq_false_iff_not] at h
  obtain ⟨h2, h3⟩ := h
  rw [List.any_eq_false] at h2
  refine ⟨by omega, fun y hy => ?_⟩
  have := h2 y hy
  simp only [lbG, Bool.or_eq_true, decide_eq_true_eq] at this
  omega
theorem grS_sz {x : Ser} (h : grS x = false) (hb : ∀ y ∈ x.hs, y.h.bs.length < 2^60) : x.Sz := by
  simp only [grS, Bool.or_eq_false_iff, decide_eq_false_iff_not] at h
  obtain ⟨h1, h2, h3⟩ := h
  obtain ⟨a1, a2⟩ := lbsG_sz h1
  exact ⟨a1, a2, by omega, by omega, hb⟩
end Go.Proofs.YtedcnhbblgmdnaaGreat.Ab
namespace Go.Proofs.YtedcnhbblgmdnaaGreat.Ab
set_option maxHeartbeats 8000000
set_option maxRecDepth 10000
set_option linter.unusedSimpArgs false
set_option linter.unusedVariables false
/-- A rollup that is not too long. -/
structure Rz (x : Rlp) : Prop where
  lb : x.lb.length < 2^40
  ls : ∀ y ∈ x.lb, y.1.length < 2^50 ∧ y.2.length < 2^50
  bs : x.bs.length < 2^40
theorem Rz.same {x : Rlp} (z : Rz x) : Pf E0 17 [.agg (x.pd.map .p), .agg (x.pd.map .p)] (P' (.bool true)) := pf17 x (by have := z.lb; omega) (by have := z.bs; omega)
end Go.Proofs.YtedcnhbblgmdnaaGreat.Ab
namespace Go.Proofs.YtedcnhbblgmdnaaGreat.Ab
set_option maxHeartbeats 8000000
set_option maxRecDepth 10000
set_option linter.unusedSimpArgs false
set_option linter.unusedVariables false
/-- The rollup of a valid series. -/
def OF (x : Ser) (w : Int) : Rlp := ⟨x.lb, x.k, w, ofB x.k w x.sm⟩
theorem OF_of {x : Ser} {w : Int} (hok : serOK x = true) (hk : ¬ x.k = 3) (h1 : 1 ≤ w) (h2 : w ≤ 1099511627776) : ofC x w = 0 ∧ ofR x w = OF x w := by
  have e : ofC x w = 0 := by unfold ofC; rw [if_neg (by simp [hok]), if_neg hk, if_neg (by simp [btw]; omega)]
  exact ⟨e, by rw [ofR, if_pos e]; rfl⟩
theorem ofC_inv {x : Ser} {w : Int} (h : ofC x w = 0) : serOK x = true ∧ ¬ x.k = 3 ∧ 1 ≤ w ∧ w ≤ 1099511627776 := by
  unfold ofC at h
  split at h
  · cases h
  · rename_i h1
    split at h
    · cases h
    · rename_i h2
      split at h
      · cases h
      · rename_i h3
        simp only [btw, Bool.not_eq_false, Bool.and_eq_true, decide_eq_true_eq] at h3
        exact ⟨by simpa using h1, h2, h3.1, h3.2⟩
theorem OF_ok {x : Ser} (v : Sv x) {w : Int} (h1 : 1 ≤ w) (h2 : w ≤ 1099511627776) : rlpOK (OF x w) = true := of_valid v.lb v.k ⟨h1, h2⟩ v.ne v.len v.srt v.ok
end Go.Proofs.YtedcnhbblgmdnaaGreat.Ab
namespace Go.Proofs.YtedcnhbblgmdnaaGreat.Ab
set_option maxHeartbeats 8000000
set_option maxRecDepth 10000
set_option linter.unusedSimpArgs false
set_option linter.unusedVariables false
/-! ### labels are compared -/
def cmpS (a b : List UInt8) : Int := if Op.bytesLess a b then -1 else if a == b then 0 else 1
def cmpL : List Lb → List Lb → Int
  | [], [] => 0
  | [], _ :: _ => -1
  | _ :: _, [] => 1
  | x :: r, y :: t => if cmpS x.1 y.1 ≠ 0 then cmpS x.1 y.1 else if cmpS x.2 y.2 ≠ 0 then cmpS x.2 y.2 else cmpL r t
end Go.Proofs.YtedcnhbblgmdnaaGreat.Ab
namespace Go.Proofs.YtedcnhbblgmdnaaGreat.Ab
set_option maxHeartbeats 8000000
set_option maxRecDepth 10000
set_option linter.unusedSimpArgs false
set_option linter.unusedVariables false
def cmpLb (x y : Lb) : Int := if cmpS x.1 y.1 ≠ 0 then cmpS x.1 y.1 else cmpS x.2 y.2
end Go.Proofs.YtedcnhbblgmdnaaGreat.Ab
namespace Go.Proofs.YtedcnhbblgmdnaaGreat.Ab
set_option maxHeartbeats 8000000
set_option maxRecDepth 10000
set_option linter.unusedSimpArgs false
set_option linter.unusedVariables false
theorem fB (l : List Bkt) : (l.flatMap Bkt.pd).length = l.length * 10 := flat_len (k := 10) (fun _ => rfl) _
theorem rpB0 {l : List Bkt} {i : Nat} {c : Bkt} (h : l[i]? = some c) (s : St) : cellsAt s (.v (.c (.rp (l.flatMap Bkt.pd) (i * 10)))) = some ((c.pd ++ (l.drop (i + 1)).flatMap Bkt.pd).map .p) := by
  have hf := fB l
  have hi := (List.getElem?_eq_some_iff.1 h).1
  exact rpA (off := i * 10) (drop_flat (f := Bkt.pd) (k := 10) (fun _ => rfl) h) (by omega) s
/-- Appended to a slice that is an object of the state. -/
theorem GB.appG {b key id : Nat} {s : St} {L : List (Nat × D × Nat × List Pd)} {M : List (Nat × Ob)} {l m : List Bkt} {y : D} {K : D → St → Prop} (ho : OA b s L ((id, .grow 10 l.length (cB l) false) :: M)) (hn : l.length + m.length < 2^30) (hy : srcD E0 29 s y = some (m.length, m.flatMap Bkt.pd))
    (hk : ∀ s', OA b s' L ((id, .grow 10 (l ++ m).length (cB (l ++ m)) false) :: M) → s'.nx = s.nx → K (.v (.c (.gs (l ++ m).length id 0 (l ++ m).length 10))) s') : stepK (appendD E0 key [29, 29] (.v (.c (.gs l.length id 0 l.length 10))) y s) K := by
  have hfl : (m.flatMap Bkt.pd).length = m.length * 10 := flat_len (k := 10) (fun _ => rfl) m
  refine OA.appG (M1 := []) (M2 := M) (by_ := 80) (n := l.length) (m := m.length) (ys := m.flatMap Bkt.pd) (cs := cB l) (L := L) ho rfl ⟨_, ti29, rfl⟩ ti41 rfl rfl rfl (by decide) (by decide) hy hfl (by omega) fun s' hs hnx => ?_
  simp only [List.length_append, cB_app] at hk
  exact hk s' hs hnx
theorem drop_at {l : List Bkt} {i : Nat} {c : Bkt} (h : l[i]? = some c) : l.drop i = c :: l.drop (i + 1) := by
  obtain ⟨h1, h2⟩ := List.getElem?_eq_some_iff.1 h
  rw [List.drop_eq_getElem_cons h1, h2]
/-- What put answers. -/
def resP (R : Option (List Bkt)) (l : List Bkt) : D := match R with
  | some z => .tup [.c (.p (.lst z.length (z.flatMap Bkt.pd))), .c (.p (.bool true))]
  | none => .tup [.c (.p (.lst l.length (l.flatMap Bkt.pd))), .c (.p (.bool false))]
end Go.Proofs.YtedcnhbblgmdnaaGreat.Ab
namespace Go.Proofs.YtedcnhbblgmdnaaGreat.Ab
set_option maxHeartbeats 8000000
set_option maxRecDepth 10000
set_option linter.unusedSimpArgs false
set_option linter.unusedVariables false
def meP (x u : Rlp) (z : List Bkt) : Rlp := ⟨x.lb, x.k, x.w, z⟩
def meO (x u : Rlp) : Option (List Bkt) → Int
  | none => 16
  | some z => if limB (meP x u z) then 4 else 0
/-- Merged rollups: the answer's number, the rollup. -/
def meC (x u : Rlp) : Int := if rlpOK x = false ∨ rlpOK u = false then 1 else if cmpL x.lb u.lb ≠ 0 ∨ x.k ≠ u.k ∨ x.w ≠ u.w then 10 else meO x u (putsB x.k x.bs u.bs)
def meR (x u : Rlp) : Rlp := if meC x u = 0 then (match putsB x.k x.bs u.bs with
  | none => zR
  | some z => meP x u z) else zR
theorem b00 : ((0 : Int) != 0) = false := rfl
end Go.Proofs.YtedcnhbblgmdnaaGreat.Ab
namespace Go.Proofs.YtedcnhbblgmdnaaGreat.Ab
set_option maxHeartbeats 8000000
set_option maxRecDepth 10000
set_option linter.unusedSimpArgs false
set_option linter.unusedVariables false
end Go.Proofs.YtedcnhbblgmdnaaGreat.Ab
namespace Go.Proofs.YtedcnhbblgmdnaaGreat.Ab
set_option maxHeartbeats 8000000
set_option maxRecDepth 10000
set_option linter.unusedSimpArgs false
set_option linter.unusedVariables false
theorem x12 : E0.xt 12 = none := by kernel_rfl
end Go.Proofs.YtedcnhbblgmdnaaGreat.Ab
namespace Go.Proofs.YtedcnhbblgmdnaaGreat.Ab
set_option maxHeartbeats 8000000
set_option maxRecDepth 10000
set_option linter.unusedSimpArgs false
set_option linter.unusedVariables false
/-! ### slices of samples that are objects of the state -/
def cS (l : List I2) : List C := (l.flatMap p2).map .p
theorem fS (l : List I2) : (l.flatMap p2).length = l.length * 2 := flat_len (k := 2) (fun _ => rfl) _
theorem cS_len (l : List I2) : (cS l).length = l.length * 2 := by rw [cS, List.length_map]; exact fS l
theorem cS_app (l m : List I2) : cS (l ++ m) = cS l ++ cS m := by simp [cS]
theorem cS_drop {l : List I2} {i : Nat} {x : I2} (h : l[i]? = some x) : (cS l).drop (i * 2) = (p2 x).map .p ++ cS (l.drop (i + 1)) := by
  rw [cS, ← List.map_drop, drop_flat (f := p2) (k := 2) (fun _ => rfl) h, List.map_append, cS]
theorem cS_drop1 {l : List I2} {i : Nat} {x : I2} (h : l[i]? = some x) : (cS l).drop (i * 2 + 1) = .p (pI x.2) :: cS (l.drop (i + 1)) := by
  rw [← List.drop_drop, cS_drop h]; rfl
def GS (x : C) (l : List I2) (G : List (Nat × Ob)) : Prop := (x = .nils ∧ l = [] ∧ G = []) ∨ ∃ id, x = .gs l.length id 0 l.length 2 ∧ G = [(id, .grow 2 l.length (cS l) false)]
theorem GS.app {b key : Nat} {s : St} {L : List (Nat × D × Nat × List Pd)} {M G : List (Nat × Ob)} {x : C} {l m : List I2} {y : D} {K : D → St → Prop} (ho : OA b s L (G ++ M)) (hx : GS x l G) (hkey : b ≤ key) (hn : l.length + m.length < 2^30) (hy : srcD E0 23 s y = some (m.length, m.flatMap p2)) (hm : m ≠ [])
    (hk : ∀ x' G' s', OA (key + 1) s' L (G' ++ M) → s'.nx = s.nx → GS x' (l ++ m) G' → K (.v (.c x')) s') : stepK (appendD E0 key [23, 23] (.v (.c x)) y s) K := by
  have hfl := fS m
  have hm0 : 0 < m.length := List.length_pos_iff.2 hm
  rcases hx with ⟨rfl, rfl, rfl⟩ | ⟨id, rfl, rfl⟩
  · refine OA.appN (by_ := 16) (m := m.length) (ys := m.flatMap p2) (L := L) (M := M) ho hkey rfl ⟨_, ti23, rfl⟩ ti39 rfl rfl rfl (by decide) (by decide) hy hfl hm0 (by simp only [List.length_nil] at hn; omega) fun s' hs hnx => ?_
    exact hk _ [(key, .grow 2 m.length (cS m) false)] s' hs hnx (.inr ⟨key, by simp, by simp⟩)
  · refine OA.appG (M1 := []) (M2 := M) (by_ := 16) (n := l.length) (m := m.length) (ys := m.flatMap p2) (cs := cS l) (L := L) ho rfl ⟨_, ti23, rfl⟩ ti39 rfl rfl rfl (by decide) (by decide) hy hfl (by omega) fun s' hs hnx => ?_
    refine hk _ [(id, .grow 2 (l.length + m.length) (cS l ++ (m.flatMap p2).map .p) false)] s' (hs.mono (by omega)) hnx (.inr ⟨id, by rw [List.length_append], by rw [List.length_append, cS_app]; rfl⟩)
theorem GS.len {x : C} {l : List I2} {G : List (Nat × Ob)} (h : GS x l G) : lenD E0 23 (.v (.c x)) = some (.v (.c (.p (.int .i64 l.length)))) := by
  rcases h with ⟨rfl, rfl, _⟩ | ⟨id, rfl, _⟩
  · rw [lenD_nils, ti23]; rfl
  · rw [lenD_gs, ti23]; rfl
theorem GS.pur2 {b : Nat} {s : St} {L : List (Nat × D × Nat × List Pd)} {M G : List (Nat × Ob)} {x : C} {l : List I2} (ho : OA b s L (G ++ M)) (h : GS x l G) : ∃ s' G', purC s x = some (.lst l.length (l.flatMap p2), s') ∧ OA b s' L (G' ++ M) ∧ s'.nx = s.nx := by
  rcases h with ⟨rfl, rfl, rfl⟩ | ⟨id, rfl, rfl⟩
  · exact ⟨s, [], rfl, ho, rfl⟩
  · have g : s.get id = some (.grow 2 l.length (cS l) false) := ho.at_ (id, .grow 2 l.length (cS l) false) (by simp)
    have hf := fS l
    have hall : allM purS (cS l) = some (l.flatMap p2) := allM_p _
    refine ⟨s.put id (.grow 2 l.length ((l.flatMap p2).map .p) true), [(id, .grow 2 l.length ((l.flatMap p2).map .p) true)], ?_, OA.set (M1 := []) ho rfl, rfl⟩
    simp only [purC, g, hall, true_and, Nat.zero_add, hf, Nat.le_refl, if_true, List.drop_zero]
    rw [List.take_of_length_le (by omega)]
theorem rpS {l : List I2} {i : Nat} {x : I2} (h : l[i]? = some x) (s : St) : cellsAt s (.v (.c (.rp (l.flatMap p2) (i * 2 + 1)))) = some (([pI x.2] ++ (l.drop (i + 1)).flatMap p2).map .p) := by
  have hf := fS l
  have hi := (List.getElem?_eq_some_iff.1 h).1
  exact rpA (off := i * 2 + 1) (by rw [← List.drop_drop, drop_flat (f := p2) (k := 2) (fun _ => rfl) h]; rfl) (by omega) s
/-- 18: the statement's own increase -/
theorem pf18 (k : Int) (l : List I2) (hl : l.length ≤ 2000) (hb : k = 2 → ∀ x ∈ l, okS 2 x) : Pf E0 18 [.c (.p (pI k)), .c (.p (.lst l.length (l.flatMap p2)))] (P' (pI (if k = 2 then incV l else 0))) := by
  have hfl := fS l
  by_cases hk : k = 2
  case neg =>
    have hk2 : (k == 2) = false := by simpa using hk
    rw [if_neg hk]
    refine Pf.body (fn := Tryz.f18) (by kernel_rfl) rfl ?_; simp only [List.map_cons, List.map_nil, List.cons_append, List.nil_append, List.length_cons, List.length_nil, Tryz.ntmps18, List.replicate, Nat.reduceSub, Nat.reduceAdd]
    refine Wc.seq ?_
    refine Wc.reg fun K hK => ?_; simp only [go_sem, ti3, ti4, ti5, ti32, ti39, ti41, ti31, ti96, ti87, ti29, ti22, ti26, ti23, Int.natCast_zero]; refine hK _ _ ?_; clear hK K
    refine Wc.seq ?_
    refine Wc.reg fun K hK => ?_; simp only [go_sem, ti3, ti4, ti5, ti32, ti39, ti41, ti31, ti96, ti87, ti29, ti22, ti26, ti23, Int.natCast_zero]; refine hK _ _ ?_; clear hK K
    refine Wc.seqR (fun y => y.ds = [] ∧ Fs y.e 51 [(5, P' (pI 0))]) ?_ ?_
    · refine Wc.seq ?_
      refine Wc.reg fun K hK => ?_; simp only [go_sem, ti3, ti4, ti5, ti32, ti39, ti41, ti31, ti96, ti87, ti29, ti22, ti26, ti23, Int.natCast_zero]; refine hK _ _ ?_; clear hK K
      refine Wc.block (Wc.loop (fun c y => y.ds = [] ∧ Fs y.e 51 [(0, P' (pI k)), (1, P' (.lst l.length (l.flatMap p2))), (5, P' (pI 0)), (6, P' (pI 1))]) ?_ (k := 0) ⟨rfl, by simp only [Fs, Int.natCast_zero, go_sem, ti3, ti4, ti5, ti32, ti39, ti41, ti31, ti96, ti87, ti29, ti22, ti26, ti23, Int.natCast_zero]⟩)
      rintro c ⟨e, ds, s1⟩ ⟨rfl, hF⟩
      simp only [Fs] at hF
      refine Wc.seq (Wc.seq ?_)
      by_cases h1 : ((1 : Int) < (l.length : Int))
      · refine Wc.reg fun K hK => ?_; simp only [go_sem, ti3, ti4, ti5, ti32, ti39, ti41, ti31, ti96, ti87, ti29, ti22, ti26, ti23, Int.natCast_zero, hF, h1, hk2]; refine hK _ _ ?_; clear hK K
        refine Wc.cond (t := false) (by simp only [go_sem, ti3, ti4, ti5, ti32, ti39, ti41, ti31, ti96, ti87, ti29, ti22, ti26, ti23, Int.natCast_zero, hF]) (fun hc => by cases hc) (fun _ => ?_)
        exact Wc.exit ⟨rfl, by simp only [Fs, Int.natCast_zero, go_sem, ti3, ti4, ti5, ti32, ti39, ti41, ti31, ti96, ti87, ti29, ti22, ti26, ti23, Int.natCast_zero, hF]⟩
      · refine Wc.reg fun K hK => ?_; simp only [go_sem, ti3, ti4, ti5, ti32, ti39, ti41, ti31, ti96, ti87, ti29, ti22, ti26, ti23, Int.natCast_zero, hF, h1]; refine hK _ _ ?_; clear hK K
        refine Wc.cond (t := false) (by simp only [go_sem, ti3, ti4, ti5, ti32, ti39, ti41, ti31, ti96, ti87, ti29, ti22, ti26, ti23, Int.natCast_zero, hF]) (fun hc => by cases hc) (fun _ => ?_)
        exact Wc.exit ⟨rfl, by simp only [Fs, Int.natCast_zero, go_sem, ti3, ti4, ti5, ti32, ti39, ti41, ti31, ti96, ti87, ti29, ti22, ti26, ti23, Int.natCast_zero, hF]⟩
    rintro ⟨e, ds, s1⟩ ⟨rfl, hF⟩
    simp only [Fs] at hF
    refine Wc.seq ?_
    refine Wc.reg fun K hK => ?_; simp only [go_sem, ti3, ti4, ti5, ti32, ti39, ti41, ti31, ti96, ti87, ti29, ti22, ti26, ti23, Int.natCast_zero, hF]; refine hK _ _ ?_; clear hK K
    exact Wc.ret (Pf.ret [.tmp 4] [.c (.p (pI 0))] rfl rfl (by simp only [resultsD, go_sem, ti3, ti4, ti5, ti32, ti39, ti41, ti31, ti96, ti87, ti29, ti22, ti26, ti23, Int.natCast_zero, hF]) rfl)
  subst hk
  have hb := hb rfl
  rw [if_pos rfl]
  have e2 : ((2 : Int) == 2) = true := rfl
  refine Pf.body (fn := Tryz.f18) (by kernel_rfl) rfl ?_; simp only [List.map_cons, List.map_nil, List.cons_append, List.nil_append, List.length_cons, List.length_nil, Tryz.ntmps18, List.replicate, Nat.reduceSub, Nat.reduceAdd]
  refine Wc.seq ?_
  refine Wc.reg fun K hK => ?_; simp only [go_sem, ti3, ti4, ti5, ti32, ti39, ti41, ti31, ti96, ti87, ti29, ti22, ti26, ti23, Int.natCast_zero]; refine hK _ _ ?_; clear hK K
  refine Wc.seq ?_
  refine Wc.reg fun K hK => ?_; simp only [go_sem, ti3, ti4, ti5, ti32, ti39, ti41, ti31, ti96, ti87, ti29, ti22, ti26, ti23, Int.natCast_zero]; refine hK _ _ ?_; clear hK K
  refine Wc.seqR (fun y => y.ds = [] ∧ Fs y.e 51 [(5, P' (pI (incV l)))]) ?_ ?_
  · refine Wc.seq ?_
    refine Wc.reg fun K hK => ?_; simp only [go_sem, ti3, ti4, ti5, ti32, ti39, ti41, ti31, ti96, ti87, ti29, ti22, ti26, ti23, Int.natCast_zero]; refine hK _ _ ?_; clear hK K
    refine Wc.block (Wc.loop (fun c y => ∃ m : Nat, (c = l.length - m ∧ (m = 0 ∨ m + 1 ≤ l.length)) ∧ y.ds = [] ∧ Fs y.e 51 [(0, P' (pI 2)), (1, P' (.lst l.length (l.flatMap p2))), (5, P' (pI (incV (l.take (m + 1))))), (6, P' (pI ((m + 1 : Nat) : Int)))]) ?_ (k := l.length) ⟨0, ⟨by omega, .inl rfl⟩, rfl, ?_⟩)
    · rintro c ⟨e, ds, s1⟩ ⟨m, ⟨rfl, hm⟩, rfl, hF⟩
      simp only [Fs] at hF
      refine Wc.seq (Wc.seq ?_)
      by_cases h1 : m + 1 < l.length
      · have h1' : (((m + 1 : Nat) : Int) < (l.length : Int)) = True := by simp only [eq_iff_iff, iff_true]; omega
        obtain ⟨x, hx⟩ : ∃ x, l[m]? = some x := ⟨l[m], List.getElem?_eq_getElem (by omega)⟩
        obtain ⟨y, hy⟩ : ∃ x, l[m + 1]? = some x := ⟨l[m + 1], List.getElem?_eq_getElem h1⟩
        have hix := ixA ti23 rfl ti39 (j := m) (m := l.length) (cs := l.flatMap p2) (by omega) hfl (by decide)
        have hiy := ixA ti23 rfl ti39 (j := m + 1) (m := l.length) (cs := l.flatMap p2) h1 hfl (by decide)
        have hcx := rpS hx
        have hcy := rpS hy
        have ht := incV_take l m x y hx hy
        obtain ⟨_, x1, x2⟩ := hb x (List.mem_of_getElem? hx)
        obtain ⟨_, y1, y2⟩ := hb y (List.mem_of_getElem? hy)
        have x3 := x2 rfl
        have y3 := y2 rfl
        obtain ⟨b1, b2⟩ := incV_bnd (l.take (m + 1)) (fun z hz => hb z (List.mem_of_mem_take hz))
        have hl2 : (l.take (m + 1)).length ≤ 2000 := by simp; omega
        have em : IntKind.i64.wrap (((m + 1 : Nat) : Int) - 1) = (m : Int) := by rw [wi64]; omega
        generalize hV : incV (l.take (m + 1)) = V at *
        have e1 : IntKind.i64.wrap (V + y.2) = V + y.2 := by rw [wi64]; omega
        have e3 : IntKind.i64.wrap (y.2 - x.2) = y.2 - x.2 := by rw [wi64]; omega
        have e4 : IntKind.i64.wrap (V + (y.2 - x.2)) = V + (y.2 - x.2) := by rw [wi64]; omega
        refine Wc.reg fun K hK => ?_; simp only [go_sem, ti3, ti4, ti5, ti32, ti39, ti41, ti31, ti96, ti87, ti29, ti22, ti26, ti23, Int.natCast_zero, hF, h1', e2]; refine hK _ _ ?_; clear hK K
        refine Wc.cond (t := true) (by simp only [go_sem, ti3, ti4, ti5, ti32, ti39, ti41, ti31, ti96, ti87, ti29, ti22, ti26, ti23, Int.natCast_zero, hF]) (fun _ => ?_) (fun hc => by cases hc)
        refine Wc.skip (Wc.seq (Wc.block (Wc.seq ?_)))
        refine Wc.regD fun K hK => ?_; simp only [go_sem, ti3, ti4, ti5, ti32, ti39, ti41, ti31, ti96, ti87, ti29, ti22, ti26, ti23, Int.natCast_zero, hF, hix, hiy, hcx, hcy, em]; refine hK _ _ ?_; clear hK K
        refine Wc.cond (t := decide (y.2 < x.2)) (by simp only [go_sem, ti3, ti4, ti5, ti32, ti39, ti41, ti31, ti96, ti87, ti29, ti22, ti26, ti23, Int.natCast_zero, hF]) (fun hc => ?_) (fun hc => ?_)
        · have hlt := of_decide_eq_true hc
          refine Wc.reg fun K hK => ?_; simp only [go_sem, ti3, ti4, ti5, ti32, ti39, ti41, ti31, ti96, ti87, ti29, ti22, ti26, ti23, Int.natCast_zero, hF, hiy, hcy, e1]; refine hK _ _ ?_; clear hK K
          refine Wc.reg fun K hK => ?_; simp only [go_sem, ti3, ti4, ti5, ti32, ti39, ti41, ti31, ti96, ti87, ti29, ti22, ti26, ti23, Int.natCast_zero, hF, i64n (m + 1) (by omega)]; refine hK _ _ ?_; clear hK K
          refine ⟨l.length - (m + 1), by omega, m + 1, ⟨rfl, .inr (by omega)⟩, rfl, ?_⟩
          rw [ht, show stepV x.2 y.2 = y.2 from if_pos hlt]
          exact by simp only [Fs, Int.natCast_zero, go_sem, ti3, ti4, ti5, ti32, ti39, ti41, ti31, ti96, ti87, ti29, ti22, ti26, ti23, Int.natCast_zero, hF]
        · have hlt := of_decide_eq_false hc
          refine Wc.regD fun K hK => ?_; simp only [go_sem, ti3, ti4, ti5, ti32, ti39, ti41, ti31, ti96, ti87, ti29, ti22, ti26, ti23, Int.natCast_zero, hF, hix, hiy, hcx, hcy, em, e3, e4]; refine hK _ _ ?_; clear hK K
          refine Wc.reg fun K hK => ?_; simp only [go_sem, ti3, ti4, ti5, ti32, ti39, ti41, ti31, ti96, ti87, ti29, ti22, ti26, ti23, Int.natCast_zero, hF, i64n (m + 1) (by omega)]; refine hK _ _ ?_; clear hK K
          refine ⟨l.length - (m + 1), by omega, m + 1, ⟨rfl, .inr (by omega)⟩, rfl, ?_⟩
          rw [ht, show stepV x.2 y.2 = y.2 - x.2 from if_neg hlt]
          exact by simp only [Fs, Int.natCast_zero, go_sem, ti3, ti4, ti5, ti32, ti39, ti41, ti31, ti96, ti87, ti29, ti22, ti26, ti23, Int.natCast_zero, hF]
      · have h1' : (((m + 1 : Nat) : Int) < (l.length : Int)) = False := by simp only [eq_iff_iff, iff_false]; omega
        rw [List.take_of_length_le (by omega)] at hF
        refine Wc.reg fun K hK => ?_; simp only [go_sem, ti3, ti4, ti5, ti32, ti39, ti41, ti31, ti96, ti87, ti29, ti22, ti26, ti23, Int.natCast_zero, hF, h1']; refine hK _ _ ?_; clear hK K
        refine Wc.cond (t := false) (by simp only [go_sem, ti3, ti4, ti5, ti32, ti39, ti41, ti31, ti96, ti87, ti29, ti22, ti26, ti23, Int.natCast_zero, hF]) (fun hc => by cases hc) (fun _ => ?_)
        exact Wc.exit ⟨rfl, by simp only [Fs, Int.natCast_zero, go_sem, ti3, ti4, ti5, ti32, ti39, ti41, ti31, ti96, ti87, ti29, ti22, ti26, ti23, Int.natCast_zero, hF]⟩
    · have h0 : incV (l.take (0 + 1)) = 0 := by
        cases l with
        | nil => rfl
        | cons a r => rfl
      have h1n : ((1 : Nat) : Int) = 1 := rfl
      rw [h0]
      exact by simp only [Fs, Int.natCast_zero, go_sem, ti3, ti4, ti5, ti32, ti39, ti41, ti31, ti96, ti87, ti29, ti22, ti26, ti23, Int.natCast_zero, h1n, Nat.zero_add]
  rintro ⟨e, ds, s1⟩ ⟨rfl, hF⟩
  simp only [Fs] at hF
  refine Wc.seq ?_
  refine Wc.reg fun K hK => ?_; simp only [go_sem, ti3, ti4, ti5, ti32, ti39, ti41, ti31, ti96, ti87, ti29, ti22, ti26, ti23, Int.natCast_zero, hF]; refine hK _ _ ?_; clear hK K
  exact Wc.ret (Pf.ret [.tmp 4] [.c (.p (pI (incV l)))] rfl rfl (by simp only [resultsD, go_sem, ti3, ti4, ti5, ti32, ti39, ti41, ti31, ti96, ti87, ti29, ti22, ti26, ti23, Int.natCast_zero, hF]) rfl)
end Go.Proofs.YtedcnhbblgmdnaaGreat.Ab
