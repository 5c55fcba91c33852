/- A part of the proof: an evaluator of the code, its contracts, the law. No condition. -/
import Derived.Test.YtedcnhbblgmdnaaGreatT22
import Derived.Test.YtedcnhbblgmdnaaGreatT10
namespace Go.Proofs.YtedcnhbblgmdnaaGreat.Ab
set_option maxHeartbeats 8000000
set_option maxRecDepth 10000
set_option linter.unusedSimpArgs false
set_option linter.unusedVariables false
theorem less_irr : ∀ s : List UInt8, Op.bytesLess s s = false
  | [] => rfl
  | a :: r => by
    simp only [Op.bytesLess, less_irr r, Bool.and_false, Bool.or_false, decide_eq_false_iff_not]
    exact UInt8.lt_irrefl a
theorem o154 : E0.opn 154 = false := by kernel_rfl
theorem x154 : E0.xt 154 = none := by kernel_rfl
/-- 115: Text, of equal texts -/
theorem pf154 (s : List UInt8) : Pf E0 154 [.c (.p (.str s)), .c (.p (.str s))] (P' (pI 0)) := by
  have h := less_irr s
  refine Pf.body (fn := Tryz.f154) (by kernel_rfl) rfl ?_; simp only [List.map_cons, List.map_nil, List.cons_append, List.nil_append, List.length_cons, List.length_nil, Tryz.ntmps154, List.replicate, Nat.reduceSub, Nat.reduceAdd]
  refine Wc.seq ?_
  refine Wc.reg fun K hK => ?_; simp only [go_sem, ti3, ti9, ti4, ti32, ti22, ti23, ti24, ti26, ti94, ti96, ti39, ti148, ti150, ti152, ti117]; refine hK _ _ ?_; clear hK K
  refine Wc.seq (Wc.seq ?_)
  refine Wc.reg fun K hK => ?_; simp only [go_sem, ti3, ti9, ti4, ti32, ti22, ti23, ti24, ti26, ti94, ti96, ti39, ti148, ti150, ti152, ti117, h]; refine hK _ _ ?_; clear hK K
  refine Wc.cond (t := false) (by simp only [go_sem, ti3, ti9, ti4, ti32, ti22, ti23, ti24, ti26, ti94, ti96, ti39, ti148, ti150, ti152, ti117, h]) (fun hc => by cases hc) (fun _ => Wc.skip ?_)
  refine Wc.seq (Wc.seq ?_)
  refine Wc.reg fun K hK => ?_; simp only [go_sem, ti3, ti9, ti4, ti32, ti22, ti23, ti24, ti26, ti94, ti96, ti39, ti148, ti150, ti152, ti117, h]; refine hK _ _ ?_; clear hK K
  refine Wc.cond (t := false) (by simp only [go_sem, ti3, ti9, ti4, ti32, ti22, ti23, ti24, ti26, ti94, ti96, ti39, ti148, ti150, ti152, ti117, h, Bool.or_true]) (fun hc => by cases hc) (fun _ => Wc.skip ?_)
  refine Wc.seq ?_
  refine Wc.reg fun K hK => ?_; simp only [go_sem, ti3, ti9, ti4, ti32, ti22, ti23, ti24, ti26, ti94, ti96, ti39, ti148, ti150, ti152, ti117]; refine hK _ _ ?_; clear hK K
  exact Wc.ret (Pf.ret [.tmp 4] [.c (.p (pI 0))] rfl rfl (by simp only [resultsD, go_sem, ti3, ti9, ti4, ti32, ti22, ti23, ti24, ti26, ti94, ti96, ti39, ti148, ti150, ti152, ti117]) rfl)
/-- 77: Compare, of equal labels -/
theorem pf96 (l : List Lb) (hl : l.length < 2^60) : Pf E0 96 [.c (.p (.lst l.length (l.flatMap lbP))), .c (.p (.lst l.length (l.flatMap lbP)))] (P' (pI 0)) := by
  have hfl : (l.flatMap lbP).length = l.length * 2 := flat_len (k := 2) (fun _ => rfl) l
  refine Pf.body (fn := Tryz.f96) (by kernel_rfl) rfl ?_; simp only [List.map_cons, List.map_nil, List.cons_append, List.nil_append, List.length_cons, List.length_nil, Tryz.ntmps96, List.replicate, Nat.reduceSub, Nat.reduceAdd]
  refine Wc.seq ?_
  refine Wc.reg fun K hK => ?_; simp only [go_sem, ti3, ti9, ti4, ti32, ti22, ti23, ti24, ti26, ti94, ti96, ti39, ti148, ti150, ti152, ti117]; refine hK _ _ ?_; clear hK K
  refine Wc.seqA (fun y => y.ds = [] ∧ y.e.length = 58 ∧ y.e.getD 0 .junk = P' (.lst l.length (l.flatMap lbP)) ∧ y.e.getD 1 .junk = P' (.lst l.length (l.flatMap lbP))) ?_ ?_
  · refine Wc.seq ?_
    refine Wc.reg fun K hK => ?_; simp only [go_sem, ti3, ti9, ti4, ti32, ti22, ti23, ti24, ti26, ti94, ti96, ti39, ti148, ti150, ti152, ti117, Int.natCast_zero]; refine hK _ _ ?_; clear hK K
    refine Wc.block (Wc.loop (fun k y => ∃ i : Nat, k = l.length - i ∧ i ≤ l.length ∧ y.ds = [] ∧ y.e.length = 58 ∧ y.e.getD 0 .junk = P' (.lst l.length (l.flatMap lbP)) ∧ y.e.getD 1 .junk = P' (.lst l.length (l.flatMap lbP)) ∧ y.e.getD 5 .junk = P' (pI i)) ?_ (k := l.length) ?_)
    · rintro k ⟨e, ds, s1⟩ ⟨i, rfl, hi, rfl, hlen, h0, h1, h5⟩
      simp only at hlen h0 h1 h5
      refine Wc.seq (Wc.seq ?_)
      by_cases hil : i < l.length
      · have hd : ((i : Int) < (l.length : Int)) = True := by simp only [eq_iff_iff, iff_true]; omega
        obtain ⟨x, hx⟩ : ∃ x, l[i]? = some x := ⟨l[i], List.getElem?_eq_getElem hil⟩
        have hix := ixA ti22 rfl ti117 (j := i) (m := l.length) (cs := l.flatMap lbP) hil hfl (by decide)
        have hca := rpA (off := i * 2) (drop_flat (f := lbP) (k := 2) (fun _ => rfl) hx) (by rw [hfl]; omega)
        have hcc := rpA (off := i * 2 + 1) (cs := l.flatMap lbP) (pre := [.str x.2]) (rest := (l.drop (i + 1)).flatMap lbP) (by rw [← List.drop_drop, drop_flat (f := lbP) (k := 2) (fun _ => rfl) hx]; rfl) (by rw [hfl]; omega)
        refine Wc.reg fun K hK => ?_; simp only [go_sem, ti3, ti9, ti4, ti32, ti22, ti23, ti24, ti26, ti94, ti96, ti39, ti148, ti150, ti152, ti117, hlen, h0, h1, h5, hd]; refine hK _ _ ?_; clear hK K
        refine Wc.cond (t := true) (by simp only [go_sem, ti3, ti9, ti4, ti32, ti22, ti23, ti24, ti26, ti94, ti96, ti39, ti148, ti150, ti152, ti117, hlen, hd]) (fun _ => ?_) (fun hc => by cases hc)
        refine Wc.skip (Wc.seq (Wc.block (Wc.seq (Wc.seq ?_))))
        refine Wc.regD fun K hK => ?_; simp only [go_sem, ti3, ti9, ti4, ti32, ti22, ti23, ti24, ti26, ti94, ti96, ti39, ti148, ti150, ti152, ti117, hlen, h0, h1, h5, hix, hca]
        refine ⟨by simp [o154, x154, plainD, plainV, plainC], ?_⟩
        refine wpCall.pf (pf154 x.1) (by kernel_rfl) (by kernel_rfl) rfl rfl ?_
        simp only [go_sem, ti3, ti9, ti4, ti32, ti22, ti23, ti24, ti26, ti94, ti96, ti39, ti148, ti150, ti152, ti117, hlen, h0, h1, h5, hix, hca]; refine hK _ _ ?_; clear hK K
        refine Wc.seq ?_
        refine Wc.reg fun K hK => ?_; simp only [go_sem, ti3, ti9, ti4, ti32, ti22, ti23, ti24, ti26, ti94, ti96, ti39, ti148, ti150, ti152, ti117, hlen, h0, h1, h5]; refine hK _ _ ?_; clear hK K
        refine Wc.cond (t := false) (by simp only [go_sem, ti3, ti9, ti4, ti32, ti22, ti23, ti24, ti26, ti94, ti96, ti39, ti148, ti150, ti152, ti117, hlen]; rfl) (fun hc => by cases hc) (fun _ => Wc.skip ?_)
        refine Wc.seq ?_
        refine Wc.regD fun K hK => ?_; simp only [go_sem, ti3, ti9, ti4, ti32, ti22, ti23, ti24, ti26, ti94, ti96, ti39, ti148, ti150, ti152, ti117, hlen, h0, h1, h5, hix, hcc]
        refine ⟨by simp [o154, x154, plainD, plainV, plainC], ?_⟩
        refine wpCall.pf (pf154 x.2) (by kernel_rfl) (by kernel_rfl) rfl rfl ?_
        simp only [go_sem, ti3, ti9, ti4, ti32, ti22, ti23, ti24, ti26, ti94, ti96, ti39, ti148, ti150, ti152, ti117, hlen, h0, h1, h5, hix, hcc]; refine hK _ _ ?_; clear hK K
        refine Wc.seq ?_
        refine Wc.reg fun K hK => ?_; simp only [go_sem, ti3, ti9, ti4, ti32, ti22, ti23, ti24, ti26, ti94, ti96, ti39, ti148, ti150, ti152, ti117, hlen, h0, h1, h5]; refine hK _ _ ?_; clear hK K
        refine Wc.cond (t := false) (by simp only [go_sem, ti3, ti9, ti4, ti32, ti22, ti23, ti24, ti26, ti94, ti96, ti39, ti148, ti150, ti152, ti117, hlen]; rfl) (fun hc => by cases hc) (fun _ => Wc.skip ?_)
        refine Wc.reg fun K hK => ?_; simp only [go_sem, ti3, ti9, ti4, ti32, ti22, ti23, ti24, ti26, ti94, ti96, ti39, ti148, ti150, ti152, ti117, hlen, h0, h1, h5, i64n i (by omega)]; refine hK _ _ ?_; clear hK K
        exact ⟨l.length - (i + 1), by omega, i + 1, rfl, by omega, rfl, by simp only [go_sem, ti3, ti9, ti4, ti32, ti22, ti23, ti24, ti26, ti94, ti96, ti39, ti148, ti150, ti152, ti117, hlen], by simp only [go_sem, ti3, ti9, ti4, ti32, ti22, ti23, ti24, ti26, ti94, ti96, ti39, ti148, ti150, ti152, ti117, hlen, h0], by simp only [go_sem, ti3, ti9, ti4, ti32, ti22, ti23, ti24, ti26, ti94, ti96, ti39, ti148, ti150, ti152, ti117, hlen, h1], by simp only [go_sem, ti3, ti9, ti4, ti32, ti22, ti23, ti24, ti26, ti94, ti96, ti39, ti148, ti150, ti152, ti117, hlen]⟩
      · have hd : ((i : Int) < (l.length : Int)) = False := by simp only [eq_iff_iff, iff_false]; omega
        refine Wc.reg fun K hK => ?_; simp only [go_sem, ti3, ti9, ti4, ti32, ti22, ti23, ti24, ti26, ti94, ti96, ti39, ti148, ti150, ti152, ti117, hlen, h0, h1, h5, hd]; refine hK _ _ ?_; clear hK K
        refine Wc.cond (t := false) (by simp only [go_sem, ti3, ti9, ti4, ti32, ti22, ti23, ti24, ti26, ti94, ti96, ti39, ti148, ti150, ti152, ti117, hlen, hd]) (fun hc => by cases hc) (fun _ => ?_)
        exact Wc.exit ⟨rfl, rfl, by simp only [go_sem, ti3, ti9, ti4, ti32, ti22, ti23, ti24, ti26, ti94, ti96, ti39, ti148, ti150, ti152, ti117, hlen], by simp only [go_sem, ti3, ti9, ti4, ti32, ti22, ti23, ti24, ti26, ti94, ti96, ti39, ti148, ti150, ti152, ti117, hlen, h0], by simp only [go_sem, ti3, ti9, ti4, ti32, ti22, ti23, ti24, ti26, ti94, ti96, ti39, ti148, ti150, ti152, ti117, hlen, h1]⟩
    · exact ⟨0, rfl, by omega, rfl, rfl, rfl, rfl, rfl⟩
  rintro ⟨e, ds, s1⟩ ⟨rfl, hlen, h0, h1⟩
  simp only at hlen h0 h1
  have hd : ((l.length : Int) < (l.length : Int)) = False := by simp
  refine Wc.seq (Wc.seq ?_)
  refine Wc.reg fun K hK => ?_; simp only [go_sem, ti3, ti9, ti4, ti32, ti22, ti23, ti24, ti26, ti94, ti96, ti39, ti148, ti150, ti152, ti117, hlen, h0, h1, hd]; refine hK _ _ ?_; clear hK K
  refine Wc.cond (t := false) (by simp only [go_sem, ti3, ti9, ti4, ti32, ti22, ti23, ti24, ti26, ti94, ti96, ti39, ti148, ti150, ti152, ti117, hlen, hd]) (fun hc => by cases hc) (fun _ => Wc.skip ?_)
  refine Wc.seq (Wc.seq ?_)
  refine Wc.reg fun K hK => ?_; simp only [go_sem, ti3, ti9, ti4, ti32, ti22, ti23, ti24, ti26, ti94, ti96, ti39, ti148, ti150, ti152, ti117, hlen, h0, h1, hd]; refine hK _ _ ?_; clear hK K
  refine Wc.cond (t := false) (by simp only [go_sem, ti3, ti9, ti4, ti32, ti22, ti23, ti24, ti26, ti94, ti96, ti39, ti148, ti150, ti152, ti117, hlen, hd]) (fun hc => by cases hc) (fun _ => Wc.skip ?_)
  refine Wc.seq ?_
  refine Wc.reg fun K hK => ?_; simp only [go_sem, ti3, ti9, ti4, ti32, ti22, ti23, ti24, ti26, ti94, ti96, ti39, ti148, ti150, ti152, ti117, hlen]; refine hK _ _ ?_; clear hK K
  exact Wc.ret (Pf.ret [.tmp 4] [.c (.p (pI 0))] rfl rfl (by simp only [resultsD, go_sem, ti3, ti9, ti4, ti32, ti22, ti23, ti24, ti26, ti94, ti96, ti39, ti148, ti150, ti152, ti117, hlen]) rfl)
/-- 36: Same, of equal labels -/
theorem pf50 (l : List Lb) (hl : l.length < 2^60) : Pf E0 50 [.c (.p (.lst l.length (l.flatMap lbP))), .c (.p (.lst l.length (l.flatMap lbP)))] (P' (.bool true)) := by
  refine Pf.body (fn := Tryz.f50) (by kernel_rfl) rfl ?_; simp only [List.map_cons, List.map_nil, List.cons_append, List.nil_append, List.length_cons, List.length_nil, Tryz.ntmps50, List.replicate, Nat.reduceSub, Nat.reduceAdd]
  refine Wc.seq ?_
  refine Wc.reg fun K hK => ?_; simp only [go_sem, ti3, ti9, ti4, ti32, ti22, ti23, ti24, ti26, ti94, ti96, ti39, ti148, ti150, ti152, ti117]; refine hK _ _ ?_; clear hK K
  refine Wc.seq ?_
  refine Wc.reg fun K hK => ?_; simp only [go_sem, ti3, ti9, ti4, ti32, ti22, ti23, ti24, ti26, ti94, ti96, ti39, ti148, ti150, ti152, ti117]
  refine wpCall.pf (pf96 l hl) (by kernel_rfl) (by kernel_rfl) rfl rfl ?_
  simp only [go_sem, ti3, ti9, ti4, ti32, ti22, ti23, ti24, ti26, ti94, ti96, ti39, ti148, ti150, ti152, ti117]; refine hK _ _ ?_; clear hK K
  exact Wc.ret (Pf.ret [.tmp 4] [.c (.p (.bool true))] rfl rfl (by simp only [resultsD, go_sem, ti3, ti9, ti4, ti32, ti22, ti23, ti24, ti26, ti94, ti96, ti39, ti148, ti150, ti152, ti117]; try rfl) rfl)
def lbG (x : Lb) : Bool := decide (61 < x.1.length) || decide (201 < x.2.length)
def lbsG (l : List Lb) : Bool := l.any lbG || decide (17 < l.length)
/-- 19: Great, of labels -/
theorem pf39 (l : List Lb) (hl : l.length < 2^60) : Pf E0 39 [.c (.p (.lst l.length (l.flatMap lbP)))] (P' (.bool (lbsG l))) := by
  have hfl : (l.flatMap lbP).length = l.length * 2 := flat_len (k := 2) (fun _ => rfl) l
  refine Pf.body (fn := Tryz.f39) (by kernel_rfl) rfl ?_; simp only [List.map_cons, List.map_nil, List.cons_append, List.nil_append, List.length_cons, List.length_nil, Tryz.ntmps39, List.replicate, Nat.reduceSub, Nat.reduceAdd]
  refine Wc.seq ?_
  refine Wc.reg fun K hK => ?_; simp only [go_sem, ti3, ti9, ti4, ti32, ti22, ti23, ti24, ti26, ti94, ti96, ti39, ti148, ti150, ti152, ti117]; refine hK _ _ ?_; clear hK K
  refine Wc.seqR (fun y => l.any lbG = false ∧ y.ds = [] ∧ y.e.length = 29 ∧ y.e.getD 0 .junk = P' (.lst l.length (l.flatMap lbP))) ?_ ?_
  · refine Wc.seq ?_
    refine Wc.reg fun K hK => ?_; simp only [go_sem, ti3, ti9, ti4, ti32, ti22, ti23, ti24, ti26, ti94, ti96, ti39, ti148, ti150, ti152, ti117, Int.natCast_zero]; refine hK _ _ ?_; clear hK K
    refine Wc.block (Wc.loop (fun k y => ∃ i : Nat, k = l.length - i ∧ i ≤ l.length ∧ y.ds = [] ∧ y.e.length = 29 ∧ y.e.getD 0 .junk = P' (.lst l.length (l.flatMap lbP)) ∧ y.e.getD 3 .junk = P' (pI i) ∧ (l.take i).any lbG = false) ?_ (k := l.length) ?_)
    · rintro k ⟨e, ds, s1⟩ ⟨i, rfl, hi, rfl, hlen, h0, h3, hn⟩
      simp only at hlen h0 h3
      refine Wc.seq (Wc.seq ?_)
      refine Wc.reg fun K hK => ?_; simp only [go_sem, ti3, ti9, ti4, ti32, ti22, ti23, ti24, ti26, ti94, ti96, ti39, ti148, ti150, ti152, ti117, hlen, h0, h3]; refine hK _ _ ?_; clear hK K
      refine Wc.cond (t := decide ((i : Int) < l.length)) (by simp only [go_sem, ti3, ti9, ti4, ti32, ti22, ti23, ti24, ti26, ti94, ti96, ti39, ti148, ti150, ti152, ti117, hlen]) (fun hc => ?_) (fun hc => ?_)
      · have hil : i < l.length := by have h9 : (i : Int) < l.length := (by simpa using hc); omega
        obtain ⟨x, hx⟩ : ∃ x, l[i]? = some x := ⟨l[i], List.getElem?_eq_getElem hil⟩
        have hix := ixA ti22 rfl ti117 (j := i) (m := l.length) (cs := l.flatMap lbP) hil hfl (by decide)
        have hca := rpA (off := i * 2) (drop_flat (f := lbP) (k := 2) (fun _ => rfl) hx) (by rw [hfl]; omega)
        have hcc := rpA (off := i * 2 + 1) (cs := l.flatMap lbP) (pre := [.str x.2]) (rest := (l.drop (i + 1)).flatMap lbP) (by rw [← List.drop_drop, drop_flat (f := lbP) (k := 2) (fun _ => rfl) hx]; rfl) (by rw [hfl]; omega)
        have bad : lbG x = true → lbsG l = true := fun h => by
          unfold lbsG
          rw [List.any_eq_true.2 ⟨x, List.mem_of_getElem? hx, h⟩, Bool.true_or]
        refine Wc.skip (Wc.seq (Wc.block (Wc.seq ?_)))
        by_cases z1 : 61 < x.1.length
        · have f1 : ((61 : Int) < (x.1.length : Int)) = True := by simp only [eq_iff_iff, iff_true]; omega
          refine Wc.reg fun K hK => ?_; simp only [go_sem, ti3, ti9, ti4, ti32, ti22, ti23, ti24, ti26, ti94, ti96, ti39, ti148, ti150, ti152, ti117, hlen, h0, h3, hix, hca, f1]; refine hK _ _ ?_; clear hK K
          refine Wc.cond (t := true) (by simp only [go_sem, ti3, ti9, ti4, ti32, ti22, ti23, ti24, ti26, ti94, ti96, ti39, ti148, ti150, ti152, ti117, hlen]) (fun _ => ?_) (fun hc => by cases hc)
          refine Wc.seq ?_
          refine Wc.reg fun K hK => ?_; simp only [go_sem, ti3, ti9, ti4, ti32, ti22, ti23, ti24, ti26, ti94, ti96, ti39, ti148, ti150, ti152, ti117, hlen]; refine hK _ _ ?_; clear hK K
          rw [bad (by simp [lbG, z1])]
          exact Wc.ret (Pf.ret [.tmp 2] [.c (.p (.bool true))] rfl rfl (by simp only [resultsD, go_sem, ti3, ti9, ti4, ti32, ti22, ti23, ti24, ti26, ti94, ti96, ti39, ti148, ti150, ti152, ti117, hlen]) rfl)
        have f1 : ((61 : Int) < (x.1.length : Int)) = False := by simp only [eq_iff_iff, iff_false]; omega
        refine Wc.reg fun K hK => ?_; simp only [go_sem, ti3, ti9, ti4, ti32, ti22, ti23, ti24, ti26, ti94, ti96, ti39, ti148, ti150, ti152, ti117, hlen, h0, h3, hix, hca, hcc, f1]; refine hK _ _ ?_; clear hK K
        refine Wc.cond (t := decide ((201 : Int) < x.2.length)) (by simp only [go_sem, ti3, ti9, ti4, ti32, ti22, ti23, ti24, ti26, ti94, ti96, ti39, ti148, ti150, ti152, ti117, hlen]) (fun hc => ?_) (fun hc => ?_)
        · have z2 : (201 : Int) < x.2.length := of_decide_eq_true hc
          have z3 : 201 < x.2.length := by omega
          refine Wc.seq ?_
          refine Wc.reg fun K hK => ?_; simp only [go_sem, ti3, ti9, ti4, ti32, ti22, ti23, ti24, ti26, ti94, ti96, ti39, ti148, ti150, ti152, ti117, hlen]; refine hK _ _ ?_; clear hK K
          rw [bad (by simp [lbG, z3])]
          exact Wc.ret (Pf.ret [.tmp 2] [.c (.p (.bool true))] rfl rfl (by simp only [resultsD, go_sem, ti3, ti9, ti4, ti32, ti22, ti23, ti24, ti26, ti94, ti96, ti39, ti148, ti150, ti152, ti117, hlen]) rfl)
        · have z2 : ¬ (201 : Int) < x.2.length := of_decide_eq_false hc
          have z3 : ¬ 201 < x.2.length := by omega
          refine Wc.skip ?_
          refine Wc.reg fun K hK => ?_; simp only [go_sem, ti3, ti9, ti4, ti32, ti22, ti23, ti24, ti26, ti94, ti96, ti39, ti148, ti150, ti152, ti117, hlen, h0, h3, i64n i (by omega)]; refine hK _ _ ?_; clear hK K
          refine ⟨l.length - (i + 1), by omega, i + 1, rfl, by omega, rfl, by simp only [go_sem, ti3, ti9, ti4, ti32, ti22, ti23, ti24, ti26, ti94, ti96, ti39, ti148, ti150, ti152, ti117, hlen], by simp only [go_sem, ti3, ti9, ti4, ti32, ti22, ti23, ti24, ti26, ti94, ti96, ti39, ti148, ti150, ti152, ti117, hlen, h0], by simp only [go_sem, ti3, ti9, ti4, ti32, ti22, ti23, ti24, ti26, ti94, ti96, ti39, ti148, ti150, ti152, ti117, hlen], ?_⟩
          rw [take_snoc hx, List.any_append, hn]
          simp only [List.any_cons, List.any_nil, lbG, decide_eq_false z1, decide_eq_false z3, Bool.or_self]
      · have hil : i = l.length := by have h9 : ¬ (i : Int) < l.length := (by simpa using hc); omega
        subst hil
        rw [List.take_length] at hn
        exact Wc.exit ⟨hn, rfl, by simp only [go_sem, ti3, ti9, ti4, ti32, ti22, ti23, ti24, ti26, ti94, ti96, ti39, ti148, ti150, ti152, ti117, hlen], by simp only [go_sem, ti3, ti9, ti4, ti32, ti22, ti23, ti24, ti26, ti94, ti96, ti39, ti148, ti150, ti152, ti117, hlen, h0]⟩
    · exact ⟨0, rfl, by omega, rfl, rfl, rfl, rfl, rfl⟩
  rintro ⟨e, ds, s1⟩ ⟨hn, rfl, hlen, h0⟩
  simp only at hlen h0
  refine Wc.seq ?_
  refine Wc.reg fun K hK => ?_; simp only [go_sem, ti3, ti9, ti4, ti32, ti22, ti23, ti24, ti26, ti94, ti96, ti39, ti148, ti150, ti152, ti117, hlen, h0]; refine hK _ _ ?_; clear hK K
  have e1 : lbsG l = decide ((17 : Int) < l.length) := by unfold lbsG; rw [hn, Bool.false_or, decide_eq_decide]; omega
  rw [e1]
  exact Wc.ret (Pf.ret [.tmp 2] [.c (.p (.bool (decide ((17 : Int) < l.length))))] rfl rfl (by simp only [resultsD, go_sem, ti3, ti9, ti4, ti32, ti22, ti23, ti24, ti26, ti94, ti96, ti39, ti148, ti150, ti152, ti117, hlen]) rfl)
def serG (x : Ser) : Bool := x.hs.any (fun y => decide (40 < y.h.bs.length)) || (lbsG x.lb || (decide (24 < x.sm.length) || decide (6 < x.hs.length)))
theorem thenD_ret {K : Fr → Prop} {Q : Ex → Fr → Prop} {y : Fr} (h : Q .ret y) : thenD K Q .ret y := h
end Go.Proofs.YtedcnhbblgmdnaaGreat.Ab
namespace Go.Proofs.YtedcnhbblgmdnaaGreat.Ab
set_option maxRecDepth 100000
/-- What the closed check comes to. -/
noncomputable def aw : Option Bool := match bodyD E0 (runF E0 100) 100 12 [] { ob := [], nx := 0 } with
  | some (.v (.c (.p (.bool b))), _) => some b
  | _ => none
theorem aw_true : aw = some true := by kernel_rfl
/-- 12: the example of the chapter -/
theorem pf12 : Pf E0 12 [] (P' (.bool true)) := by
  have h := aw_true
  unfold aw at h
  split at h
  · rename_i b s hb
    cases h
    exact ⟨100, _, _, _, hb, rfl⟩
  · cases h
end Go.Proofs.YtedcnhbblgmdnaaGreat.Ab
namespace Go.Proofs.YtedcnhbblgmdnaaGreat.Ab
set_option maxHeartbeats 8000000
set_option maxRecDepth 10000
set_option linter.unusedSimpArgs false
set_option linter.unusedVariables false
/-- 17: Same, of equal rollups -/
theorem pf17 (x : Rlp) (hl : x.lb.length < 2^60) (hn : x.bs.length < 2^60) : Pf E0 17 [.agg (x.pd.map .p), .agg (x.pd.map .p)] (P' (.bool true)) := by
  have hfl : (x.bs.flatMap Bkt.pd).length = x.bs.length * 10 := flat_len (k := 10) (fun _ => rfl) _
  refine Pf.body (fn := Tryz.f17) (by kernel_rfl) rfl ?_; simp only [List.map_cons, List.map_nil, List.cons_append, List.nil_append, List.length_cons, List.length_nil, Tryz.ntmps17, List.replicate, Nat.reduceSub, Nat.reduceAdd]
  refine Wc.seq ?_
  refine Wc.reg fun K hK => ?_; simp only [go_sem, ti3, ti4, ti32, ti39, ti41, ti31, ti96, ti87, ti29, ti22, ti26, ti23, ti24, Int.natCast_zero]; refine hK _ _ ?_; clear hK K
  refine Wc.seq (Wc.seq ?_)
  refine Wc.reg fun K hK => ?_; simp only [go_sem, ti3, ti4, ti32, ti39, ti41, ti31, ti96, ti87, ti29, ti22, ti26, ti23, ti24, Int.natCast_zero]
  refine wpCall.pf (pf50 x.lb hl) (by kernel_rfl) (by kernel_rfl) rfl rfl ?_
  simp only [go_sem, ti3, ti4, ti32, ti39, ti41, ti31, ti96, ti87, ti29, ti22, ti26, ti23, ti24, Int.natCast_zero, bne_self_eq_false]; refine hK _ _ ?_; clear hK K
  refine Wc.cond (t := false) (by simp only [go_sem, ti3, ti4, ti32, ti39, ti41, ti31, ti96, ti87, ti29, ti22, ti26, ti23, ti24, Int.natCast_zero]) (fun hc => by cases hc) (fun _ => Wc.skip ?_)
  refine Wc.seqR (fun y => y.ds = [] ∧ Fs y.e 53 []) ?_ ?_
  · refine Wc.seq ?_
    refine Wc.reg fun K hK => ?_; simp only [go_sem, ti3, ti4, ti32, ti39, ti41, ti31, ti96, ti87, ti29, ti22, ti26, ti23, ti24, Int.natCast_zero]; refine hK _ _ ?_; clear hK K
    refine Wc.block (Wc.loop (fun c y => ∃ i : Nat, c = x.bs.length - i ∧ i ≤ x.bs.length ∧ y.ds = [] ∧ Fs y.e 53 [(2, .v (.c (.ref 0 0))), (3, .v (.c (.ref 1 0))), (5, P' (pI i))] ∧ OA y.s.nx y.s [] [(1, .cells (x.pd.map .p) false), (0, .cells (x.pd.map .p) false)]) ?_ (k := x.bs.length) ⟨0, rfl, by omega, rfl, by simp only [Fs, Int.natCast_zero, go_sem, ti3, ti4, ti32, ti39, ti41, ti31, ti96, ti87, ti29, ti22, ti26, ti23, ti24, Int.natCast_zero], by (try simp only [St.put_adv, St.adv_adv, St.put_put, St.nx_put, St.nx_adv]); repeat (first | exact OA.mono s00_oa (by omega) | refine OA.newB ?_ (by omega) rfl | refine OA.putB ?_ (by omega) | refine OA.advB ?_)⟩)
    rintro c ⟨e, ds, s1⟩ ⟨i, rfl, hi, rfl, hF, ho⟩
    simp only [Fs] at hF ho
    have g0 := ho.at_ (0, .cells (x.pd.map .p) false) (by simp)
    have g1 := ho.at_ (1, .cells (x.pd.map .p) false) (by simp)
    simp only [List.map_cons, List.map_nil] at g0 g1
    refine Wc.seq (Wc.seq ?_)
    refine Wc.reg fun K hK => ?_; simp only [go_sem, ti3, ti4, ti32, ti39, ti41, ti31, ti96, ti87, ti29, ti22, ti26, ti23, ti24, Int.natCast_zero, hF, g0]; refine hK _ _ ?_; clear hK K
    refine Wc.cond (t := decide ((i : Int) < x.bs.length)) (by simp only [go_sem, ti3, ti4, ti32, ti39, ti41, ti31, ti96, ti87, ti29, ti22, ti26, ti23, ti24, Int.natCast_zero, hF]) (fun hc => ?_) (fun hc => ?_)
    · have hil : i < x.bs.length := by have := of_decide_eq_true hc; omega
      obtain ⟨b, hb⟩ : ∃ b, x.bs[i]? = some b := ⟨x.bs[i], List.getElem?_eq_getElem hil⟩
      have hix := ixA ti29 rfl ti41 (j := i) (m := x.bs.length) (cs := x.bs.flatMap Bkt.pd) hil hfl (by decide)
      have hca := rpA (off := i * 10) (drop_flat (f := Bkt.pd) (k := 10) (fun _ => rfl) hb) (by rw [hfl]; omega)
      refine Wc.skip (Wc.seq (Wc.block (Wc.seq ?_)))
      refine Wc.regD fun K hK => ?_; simp only [go_sem, ti3, ti4, ti32, ti39, ti41, ti31, ti96, ti87, ti29, ti22, ti26, ti23, ti24, Int.natCast_zero, hF, g0, g1, hix, hca, eqL, eqS]; refine hK _ _ ?_; clear hK K
      refine Wc.cond (t := false) (by simp only [go_sem, ti3, ti4, ti32, ti39, ti41, ti31, ti96, ti87, ti29, ti22, ti26, ti23, ti24, Int.natCast_zero, hF]) (fun hc => by cases hc) (fun _ => ?_)
      refine Wc.skip ?_
      refine Wc.reg fun K hK => ?_; simp only [go_sem, ti3, ti4, ti32, ti39, ti41, ti31, ti96, ti87, ti29, ti22, ti26, ti23, ti24, Int.natCast_zero, hF, i64n i (by omega)]; refine hK _ _ ?_; clear hK K
      exact ⟨x.bs.length - (i + 1), by omega, i + 1, rfl, by omega, rfl, by simp only [Fs, Int.natCast_zero, go_sem, ti3, ti4, ti32, ti39, ti41, ti31, ti96, ti87, ti29, ti22, ti26, ti23, ti24, Int.natCast_zero, hF], by (try simp only [St.put_adv, St.adv_adv, St.put_put, St.nx_put, St.nx_adv]); repeat (first | exact OA.mono ho (by omega) | refine OA.newB ?_ (by omega) rfl | refine OA.putB ?_ (by omega) | refine OA.advB ?_)⟩
    · exact Wc.exit ⟨rfl, by simp only [Fs, Int.natCast_zero, go_sem, ti3, ti4, ti32, ti39, ti41, ti31, ti96, ti87, ti29, ti22, ti26, ti23, ti24, Int.natCast_zero, hF]⟩
  rintro ⟨e, ds, s1⟩ ⟨rfl, hF⟩
  simp only [Fs] at hF
  refine Wc.seq ?_
  refine Wc.reg fun K hK => ?_; simp only [go_sem, ti3, ti4, ti32, ti39, ti41, ti31, ti96, ti87, ti29, ti22, ti26, ti23, ti24, Int.natCast_zero, hF]; refine hK _ _ ?_; clear hK K
  exact Wc.ret (Pf.ret [.tmp 4] [.c (.p (.bool true))] rfl rfl (by simp only [resultsD, go_sem, ti3, ti4, ti32, ti39, ti41, ti31, ti96, ti87, ti29, ti22, ti26, ti23, ti24, Int.natCast_zero, hF]) rfl)
def grS (x : Ser) : Bool := lbsG x.lb || (decide ((24 : Int) < x.sm.length) || decide ((2 : Int) < x.hs.length))
def grR (x : Rlp) : Bool := lbsG x.lb || decide ((24 : Int) < x.bs.length)
/-- 20: Great -/
theorem pf20 (x : Rlp) (hlb : x.lb.length < 2^60) : Pf E0 20 [.agg (x.pd.map .p)] (P' (.bool (grR x))) := by
  unfold grR
  refine Pf.body (fn := Tryz.f20) (by kernel_rfl) rfl ?_; simp only [List.map_cons, List.map_nil, List.cons_append, List.nil_append, List.length_cons, List.length_nil, Tryz.ntmps20, List.replicate, Nat.reduceSub, Nat.reduceAdd]
  refine Wc.seq ?_
  refine Wc.reg fun K hK => ?_; simp only [go_sem, ti3, ti4, ti32, ti39, ti41, ti31, ti96, ti87, ti29, ti22, ti26, ti23, ti24, Int.natCast_zero]; refine hK _ _ ?_; clear hK K
  refine Wc.seq ?_
  refine Wc.reg fun K hK => ?_; simp only [go_sem, ti3, ti4, ti32, ti39, ti41, ti31, ti96, ti87, ti29, ti22, ti26, ti23, ti24, Int.natCast_zero]
  refine wpCall.pf (pf39 x.lb hlb) (by kernel_rfl) (by kernel_rfl) rfl rfl ?_
  cases h1 : lbsG x.lb with
  | true =>
    simp only [go_sem, ti3, ti4, ti32, ti39, ti41, ti31, ti96, ti87, ti29, ti22, ti26, ti23, ti24, Int.natCast_zero]; refine hK _ _ ?_; clear hK K
    rw [h1]
    exact Wc.ret (Pf.ret [.tmp 2] [.c (.p (.bool true))] rfl rfl (by simp only [resultsD, go_sem, ti3, ti4, ti32, ti39, ti41, ti31, ti96, ti87, ti29, ti22, ti26, ti23, ti24, Int.natCast_zero]) rfl)
  | false =>
    simp only [go_sem, ti3, ti4, ti32, ti39, ti41, ti31, ti96, ti87, ti29, ti22, ti26, ti23, ti24, Int.natCast_zero]; refine hK _ _ ?_; clear hK K
    rw [h1]
    exact Wc.ret (Pf.ret [.tmp 2] [.c (.p (.bool (decide ((24 : Int) < x.bs.length))))] rfl rfl (by simp only [resultsD, go_sem, ti3, ti4, ti32, ti39, ti41, ti31, ti96, ti87, ti29, ti22, ti26, ti23, ti24, Int.natCast_zero]) rfl)
theorem lbsG_sz {l : List Lb} (h : lbsG l = false) : l.length < 2^40 ∧ ∀ y ∈ l, y.1.length < 2^50 ∧ y.2.length < 2^50 := by
  simp only [lbsG, Bool.or_eq_false_iff, decide_eq_false_iff_not] at h
  obtain ⟨h2, h3⟩ := h
  rw [List.any_eq_false] at h2
  refine ⟨by omega, fun y hy => ?_⟩
  have := h2 y hy
  simp only [lbG, Bool.or_eq_true, decide_eq_true_eq] at this
  omega
end Go.Proofs.YtedcnhbblgmdnaaGreat.Ab
namespace Go.Proofs.YtedcnhbblgmdnaaGreat.Ab
set_option maxHeartbeats 8000000
set_option maxRecDepth 10000
set_option linter.unusedSimpArgs false
set_option linter.unusedVariables false
/-- A rollup that is not too long. -/
structure Rz (x : Rlp) : Prop where
  lb : x.lb.length < 2^40
  ls : ∀ y ∈ x.lb, y.1.length < 2^50 ∧ y.2.length < 2^50
  bs : x.bs.length < 2^40
theorem Rz.same {x : Rlp} (z : Rz x) : Pf E0 17 [.agg (x.pd.map .p), .agg (x.pd.map .p)] (P' (.bool true)) := pf17 x (by have := z.lb; omega) (by have := z.bs; omega)
end Go.Proofs.YtedcnhbblgmdnaaGreat.Ab
namespace Go.Proofs.YtedcnhbblgmdnaaGreat.Ab
set_option maxHeartbeats 8000000
set_option maxRecDepth 10000
set_option linter.unusedSimpArgs false
set_option linter.unusedVariables false
/-- The rollup of a valid series. -/
def OF (x : Ser) (w : Int) : Rlp := ⟨x.lb, x.k, w, ofB x.k w x.sm⟩
end Go.Proofs.YtedcnhbblgmdnaaGreat.Ab
namespace Go.Proofs.YtedcnhbblgmdnaaGreat.Ab
set_option maxHeartbeats 8000000
set_option maxRecDepth 10000
set_option linter.unusedSimpArgs false
set_option linter.unusedVariables false
/-! ### labels are compared -/
def cmpS (a b : List UInt8) : Int := if Op.bytesLess a b then -1 else if a == b then 0 else 1
def cmpL : List Lb → List Lb → Int
  | [], [] => 0
  | [], _ :: _ => -1
  | _ :: _, [] => 1
  | x :: r, y :: t => if cmpS x.1 y.1 ≠ 0 then cmpS x.1 y.1 else if cmpS x.2 y.2 ≠ 0 then cmpS x.2 y.2 else cmpL r t
theorem cmpL_step {a b : List Lb} {i : Nat} {x y : Lb} (hx : a[i]? = some x) (hy : b[i]? = some y) : cmpL (a.drop i) (b.drop i) = if cmpS x.1 y.1 ≠ 0 then cmpS x.1 y.1 else if cmpS x.2 y.2 ≠ 0 then cmpS x.2 y.2 else cmpL (a.drop (i + 1)) (b.drop (i + 1)) := by
  rw [List.drop_eq_getElem_cons (List.getElem?_eq_some_iff.1 hx).1, (List.getElem?_eq_some_iff.1 hx).2, List.drop_eq_getElem_cons (List.getElem?_eq_some_iff.1 hy).1, (List.getElem?_eq_some_iff.1 hy).2]
  rfl
end Go.Proofs.YtedcnhbblgmdnaaGreat.Ab
namespace Go.Proofs.YtedcnhbblgmdnaaGreat.Ab
set_option maxHeartbeats 8000000
set_option maxRecDepth 10000
set_option linter.unusedSimpArgs false
set_option linter.unusedVariables false
/-- 179: cmp.isNaN[string] -/
theorem pf179 (a : List UInt8) : Pf E0 179 [.c (.p (.str a))] (P' (.bool false)) := by
  refine Pf.body (fn := Tryz.f179) (by kernel_rfl) rfl ?_; simp only [List.map_cons, List.map_nil, List.cons_append, List.nil_append, List.length_cons, List.length_nil, Tryz.ntmps179, List.replicate, Nat.reduceSub, Nat.reduceAdd]
  refine Wc.seq ?_
  refine Wc.reg fun K hK => ?_; simp only [go_sem, ti3, ti4, ti5, ti9, ti32, ti39, ti41, ti31, ti29, ti22, ti26, ti23, ti117, ti175, ti166, Int.natCast_zero]; refine hK _ _ ?_; clear hK K
  refine Wc.seq ?_
  refine Wc.reg fun K hK => ?_; simp only [go_sem, ti3, ti4, ti5, ti9, ti32, ti39, ti41, ti31, ti29, ti22, ti26, ti23, ti117, ti175, ti166, Int.natCast_zero]; refine hK _ _ ?_; clear hK K
  exact Wc.ret (Pf.ret [.tmp 2] [.c (.p (.bool false))] rfl rfl (by simp only [resultsD, go_sem, ti3, ti4, ti5, ti9, ti32, ti39, ti41, ti31, ti29, ti22, ti26, ti23, ti117, ti175, ti166, Int.natCast_zero]) rfl)
/-- 105: cmp.Compare[string] -/
theorem pf105 (a b : List UInt8) : Pf E0 105 [.c (.p (.str a)), .c (.p (.str b))] (P' (pI (cmpS a b))) := by
  refine Pf.body (fn := Tryz.f105) (by kernel_rfl) rfl ?_; simp only [List.map_cons, List.map_nil, List.cons_append, List.nil_append, List.length_cons, List.length_nil, Tryz.ntmps105, List.replicate, Nat.reduceSub, Nat.reduceAdd]
  refine Wc.seq ?_
  refine Wc.reg fun K hK => ?_; simp only [go_sem, ti3, ti4, ti5, ti9, ti32, ti39, ti41, ti31, ti29, ti22, ti26, ti23, ti117, ti175, ti166, Int.natCast_zero]; refine hK _ _ ?_; clear hK K
  refine Wc.seq ?_
  refine Wc.reg fun K hK => ?_; simp only [go_sem, ti3, ti4, ti5, ti9, ti32, ti39, ti41, ti31, ti29, ti22, ti26, ti23, ti117, ti175, ti166, Int.natCast_zero]
  refine wpCall.pf (pf179 a) (by kernel_rfl) (by kernel_rfl) rfl rfl ?_
  simp only [go_sem, ti3, ti4, ti5, ti9, ti32, ti39, ti41, ti31, ti29, ti22, ti26, ti23, ti117, ti175, ti166, Int.natCast_zero]; refine hK _ _ ?_; clear hK K
  refine Wc.seq ?_
  refine Wc.reg fun K hK => ?_; simp only [go_sem, ti3, ti4, ti5, ti9, ti32, ti39, ti41, ti31, ti29, ti22, ti26, ti23, ti117, ti175, ti166, Int.natCast_zero]
  refine wpCall.pf (pf179 b) (by kernel_rfl) (by kernel_rfl) rfl rfl ?_
  simp only [go_sem, ti3, ti4, ti5, ti9, ti32, ti39, ti41, ti31, ti29, ti22, ti26, ti23, ti117, ti175, ti166, Int.natCast_zero]; refine hK _ _ ?_; clear hK K
  refine Wc.seq (Wc.seq ?_)
  refine Wc.reg fun K hK => ?_; simp only [go_sem, ti3, ti4, ti5, ti9, ti32, ti39, ti41, ti31, ti29, ti22, ti26, ti23, ti117, ti175, ti166, Int.natCast_zero]; refine hK _ _ ?_; clear hK K
  refine Wc.cond (t := false) (by simp only [go_sem, ti3, ti4, ti5, ti9, ti32, ti39, ti41, ti31, ti29, ti22, ti26, ti23, ti117, ti175, ti166, Int.natCast_zero]) (fun hc => by cases hc) (fun _ => Wc.skip ?_)
  refine Wc.seq (Wc.seq ?_)
  refine Wc.reg fun K hK => ?_; simp only [go_sem, ti3, ti4, ti5, ti9, ti32, ti39, ti41, ti31, ti29, ti22, ti26, ti23, ti117, ti175, ti166, Int.natCast_zero]; refine hK _ _ ?_; clear hK K
  refine Wc.cond (t := false) (by simp only [go_sem, ti3, ti4, ti5, ti9, ti32, ti39, ti41, ti31, ti29, ti22, ti26, ti23, ti117, ti175, ti166, Int.natCast_zero]) (fun hc => by cases hc) (fun _ => Wc.skip ?_)
  refine Wc.seq (Wc.seq ?_)
  cases h1 : Op.bytesLess a b with
  | true =>
    have e : cmpS a b = -1 := by unfold cmpS; rw [if_pos h1]
    rw [e]
    refine Wc.reg fun K hK => ?_; simp only [go_sem, ti3, ti4, ti5, ti9, ti32, ti39, ti41, ti31, ti29, ti22, ti26, ti23, ti117, ti175, ti166, Int.natCast_zero, h1]; refine hK _ _ ?_; clear hK K
    refine Wc.cond (t := true) (by simp only [go_sem, ti3, ti4, ti5, ti9, ti32, ti39, ti41, ti31, ti29, ti22, ti26, ti23, ti117, ti175, ti166, Int.natCast_zero, h1]) (fun _ => ?_) (fun hc => by cases hc)
    refine Wc.seq ?_
    refine Wc.reg fun K hK => ?_; simp only [go_sem, ti3, ti4, ti5, ti9, ti32, ti39, ti41, ti31, ti29, ti22, ti26, ti23, ti117, ti175, ti166, Int.natCast_zero]; refine hK _ _ ?_; clear hK K
    exact Wc.ret (Pf.ret [.tmp 4] [.c (.p (pI (-1)))] rfl rfl (by simp only [resultsD, go_sem, ti3, ti4, ti5, ti9, ti32, ti39, ti41, ti31, ti29, ti22, ti26, ti23, ti117, ti175, ti166, Int.natCast_zero]) rfl)
  | false =>
  refine Wc.reg fun K hK => ?_; simp only [go_sem, ti3, ti4, ti5, ti9, ti32, ti39, ti41, ti31, ti29, ti22, ti26, ti23, ti117, ti175, ti166, Int.natCast_zero, h1]; refine hK _ _ ?_; clear hK K
  refine Wc.cond (t := false) (by simp only [go_sem, ti3, ti4, ti5, ti9, ti32, ti39, ti41, ti31, ti29, ti22, ti26, ti23, ti117, ti175, ti166, Int.natCast_zero, h1]) (fun hc => by cases hc) (fun _ => Wc.skip ?_)
  refine Wc.seq (Wc.seq ?_)
  cases h2 : (a == b) with
  | true =>
    have e : cmpS a b = 0 := by unfold cmpS; rw [if_neg (by simp [h1]), if_pos h2]
    rw [e]
    refine Wc.reg fun K hK => ?_; simp only [go_sem, ti3, ti4, ti5, ti9, ti32, ti39, ti41, ti31, ti29, ti22, ti26, ti23, ti117, ti175, ti166, Int.natCast_zero, h1, h2]; refine hK _ _ ?_; clear hK K
    refine Wc.cond (t := false) (by simp only [go_sem, ti3, ti4, ti5, ti9, ti32, ti39, ti41, ti31, ti29, ti22, ti26, ti23, ti117, ti175, ti166, Int.natCast_zero, h1, h2, Bool.or_true]) (fun hc => by cases hc) (fun _ => Wc.skip ?_)
    refine Wc.seq ?_
    refine Wc.reg fun K hK => ?_; simp only [go_sem, ti3, ti4, ti5, ti9, ti32, ti39, ti41, ti31, ti29, ti22, ti26, ti23, ti117, ti175, ti166, Int.natCast_zero]; refine hK _ _ ?_; clear hK K
    exact Wc.ret (Pf.ret [.tmp 4] [.c (.p (pI 0))] rfl rfl (by simp only [resultsD, go_sem, ti3, ti4, ti5, ti9, ti32, ti39, ti41, ti31, ti29, ti22, ti26, ti23, ti117, ti175, ti166, Int.natCast_zero]) rfl)
  | false =>
    have e : cmpS a b = 1 := by unfold cmpS; rw [if_neg (by simp [h1]), if_neg (by simp [h2])]
    rw [e]
    refine Wc.reg fun K hK => ?_; simp only [go_sem, ti3, ti4, ti5, ti9, ti32, ti39, ti41, ti31, ti29, ti22, ti26, ti23, ti117, ti175, ti166, Int.natCast_zero, h1, h2]; refine hK _ _ ?_; clear hK K
    refine Wc.cond (t := true) (by simp only [go_sem, ti3, ti4, ti5, ti9, ti32, ti39, ti41, ti31, ti29, ti22, ti26, ti23, ti117, ti175, ti166, Int.natCast_zero, h1, h2, Bool.or_self]) (fun _ => ?_) (fun hc => by cases hc)
    refine Wc.seq ?_
    refine Wc.reg fun K hK => ?_; simp only [go_sem, ti3, ti4, ti5, ti9, ti32, ti39, ti41, ti31, ti29, ti22, ti26, ti23, ti117, ti175, ti166, Int.natCast_zero]; refine hK _ _ ?_; clear hK K
    exact Wc.ret (Pf.ret [.tmp 4] [.c (.p (pI 1))] rfl rfl (by simp only [resultsD, go_sem, ti3, ti4, ti5, ti9, ti32, ti39, ti41, ti31, ti29, ti22, ti26, ti23, ti117, ti175, ti166, Int.natCast_zero]) rfl)
/-- 104: cmp.Or[int] of two -/
theorem pf104 (c d : Int) : Pf E0 104 [.c (.p (.lst 2 [pI c, pI d]))] (P' (pI (if c ≠ 0 then c else d))) := by
  have hR1 : c ≠ 0 → (if c ≠ 0 then c else d) = c := fun h => if_pos h
  have hR2 : c = 0 → (if c ≠ 0 then c else d) = d := fun h => if_neg (by simpa using h)
  generalize (if c ≠ 0 then c else d) = R at hR1 hR2 ⊢
  have h2n : ((2 : Nat) : Int) = 2 := rfl
  refine Pf.body (fn := Tryz.f104) (by kernel_rfl) rfl ?_; simp only [List.map_cons, List.map_nil, List.cons_append, List.nil_append, List.length_cons, List.length_nil, Tryz.ntmps104, List.replicate, Nat.reduceSub, Nat.reduceAdd]
  refine Wc.seq ?_
  refine Wc.reg fun K hK => ?_; simp only [go_sem, ti3, ti4, ti5, ti9, ti32, ti39, ti41, ti31, ti29, ti22, ti26, ti23, ti117, ti175, ti166, Int.natCast_zero]; refine hK _ _ ?_; clear hK K
  refine Wc.seq ?_
  refine Wc.reg fun K hK => ?_; simp only [go_sem, ti3, ti4, ti5, ti9, ti32, ti39, ti41, ti31, ti29, ti22, ti26, ti23, ti117, ti175, ti166, Int.natCast_zero]; refine hK _ _ ?_; clear hK K
  refine Wc.seqR (fun y => R = 0 ∧ y.ds = [] ∧ Fs y.e 18 [(3, P' (pI 0))]) ?_ ?_
  · refine Wc.seq ?_
    refine Wc.reg fun K hK => ?_; simp only [go_sem, ti3, ti4, ti5, ti9, ti32, ti39, ti41, ti31, ti29, ti22, ti26, ti23, ti117, ti175, ti166, Int.natCast_zero]; refine hK _ _ ?_; clear hK K
    refine Wc.block (Wc.loop (fun k y => ∃ i : Nat, k = 2 - i ∧ i ≤ 2 ∧ (0 < i → c = 0) ∧ (1 < i → d = 0) ∧ y.ds = [] ∧ Fs y.e 18 [(3, P' (pI 0)), (6, P' (.lst 2 [pI c, pI d])), (7, P' (pI 2)), (8, P' (pI i))]) ?_ (k := 2) ⟨0, rfl, by omega, by omega, by omega, rfl, by simp only [Fs, Int.natCast_zero, go_sem, ti3, ti4, ti5, ti9, ti32, ti39, ti41, ti31, ti29, ti22, ti26, ti23, ti117, ti175, ti166, Int.natCast_zero, h2n]⟩)
    rintro k ⟨e, ds, s1⟩ ⟨i, rfl, hi, h1, h2, rfl, hF⟩
    simp only [Fs] at hF
    refine Wc.seq ?_
    refine Wc.reg fun K hK => ?_; simp only [go_sem, ti3, ti4, ti5, ti9, ti32, ti39, ti41, ti31, ti29, ti22, ti26, ti23, ti117, ti175, ti166, Int.natCast_zero, hF]; refine hK _ _ ?_; clear hK K
    refine Wc.seq ?_
    refine Wc.cond (t := decide ((i : Int) < 2)) (by simp only [go_sem, ti3, ti4, ti5, ti9, ti32, ti39, ti41, ti31, ti29, ti22, ti26, ti23, ti117, ti175, ti166, Int.natCast_zero, hF]) (fun hc => ?_) (fun hc => ?_)
    · have hil : i < 2 := by have := of_decide_eq_true hc; omega
      obtain ⟨x, hx⟩ : ∃ x, [c, d][i]? = some x := ⟨[c, d][i]'hil, List.getElem?_eq_getElem hil⟩
      have hix : indexAddrD E0 175 (.v (.c (.p (.lst 2 [pI c, pI d])))) (.v (.c (.p (.int .i64 (i : Int))))) = _ := ixA ti175 rfl ti3 (j := i) (m := 2) (cs := [c, d].map pI) hil rfl (by decide)
      have hca : ∀ s, cellsAt s (.v (.c (.rp [pI c, pI d] i))) = _ := rpA (off := i) (drop_map pI hx) (by simp; omega)
      simp only [List.map_cons, List.map_nil, Nat.mul_one] at hix
      refine Wc.skip (Wc.seq (Wc.block (Wc.seq ?_)))
      refine Wc.reg fun K hK => ?_; simp only [go_sem, ti3, ti4, ti5, ti9, ti32, ti39, ti41, ti31, ti29, ti22, ti26, ti23, ti117, ti175, ti166, Int.natCast_zero, hF, hix, hca]; refine hK _ _ ?_; clear hK K
      refine Wc.seq ?_
      refine Wc.reg fun K hK => ?_; simp only [go_sem, ti3, ti4, ti5, ti9, ti32, ti39, ti41, ti31, ti29, ti22, ti26, ti23, ti117, ti175, ti166, Int.natCast_zero, hF]; refine hK _ _ ?_; clear hK K
      refine Wc.cond (t := x != 0) (by simp only [go_sem, ti3, ti4, ti5, ti9, ti32, ti39, ti41, ti31, ti29, ti22, ti26, ti23, ti117, ti175, ti166, Int.natCast_zero, hF]) (fun hc => ?_) (fun hc => ?_)
      · have hn : x ≠ 0 := by simpa using hc
        have hRx : R = x := by
          rcases i with _ | _ | i
          · simp at hx; subst hx; exact hR1 hn
          · simp at hx; subst hx; exact hR2 (h1 (by omega))
          · omega
        refine Wc.seq ?_
        refine Wc.reg fun K hK => ?_; simp only [go_sem, ti3, ti4, ti5, ti9, ti32, ti39, ti41, ti31, ti29, ti22, ti26, ti23, ti117, ti175, ti166, Int.natCast_zero, hF]; refine hK _ _ ?_; clear hK K
        rw [hRx]
        exact Wc.ret (Pf.ret [.tmp 2] [.c (.p (pI x))] rfl rfl (by simp only [resultsD, go_sem, ti3, ti4, ti5, ti9, ti32, ti39, ti41, ti31, ti29, ti22, ti26, ti23, ti117, ti175, ti166, Int.natCast_zero, hF]) rfl)
      · have hn : x = 0 := by simpa using hc
        refine Wc.skip ?_
        refine Wc.reg fun K hK => ?_; simp only [go_sem, ti3, ti4, ti5, ti9, ti32, ti39, ti41, ti31, ti29, ti22, ti26, ti23, ti117, ti175, ti166, Int.natCast_zero, hF, i64n i (by omega)]; refine hK _ _ ?_; clear hK K
        refine ⟨2 - (i + 1), by omega, i + 1, rfl, by omega, fun _ => ?_, fun _ => ?_, rfl, by simp only [Fs, Int.natCast_zero, go_sem, ti3, ti4, ti5, ti9, ti32, ti39, ti41, ti31, ti29, ti22, ti26, ti23, ti117, ti175, ti166, Int.natCast_zero, hF]⟩
        · rcases i with _ | i
          · simp at hx; omega
          · exact h1 (by omega)
        · rcases i with _ | _ | i
          · omega
          · simp at hx; omega
          · omega
    · have hil : i = 2 := by have := of_decide_eq_false hc; omega
      exact Wc.exit ⟨by rw [hR2 (h1 (by omega)), h2 (by omega)], rfl, by simp only [Fs, Int.natCast_zero, go_sem, ti3, ti4, ti5, ti9, ti32, ti39, ti41, ti31, ti29, ti22, ti26, ti23, ti117, ti175, ti166, Int.natCast_zero, hF]⟩
  rintro ⟨e, ds, s1⟩ ⟨hR, rfl, hF⟩
  simp only [Fs] at hF
  rw [hR]
  refine Wc.seq ?_
  refine Wc.reg fun K hK => ?_; simp only [go_sem, ti3, ti4, ti5, ti9, ti32, ti39, ti41, ti31, ti29, ti22, ti26, ti23, ti117, ti175, ti166, Int.natCast_zero, hF]; refine hK _ _ ?_; clear hK K
  exact Wc.ret (Pf.ret [.tmp 2] [.c (.p (pI 0))] rfl rfl (by simp only [resultsD, go_sem, ti3, ti4, ti5, ti9, ti32, ti39, ti41, ti31, ti29, ti22, ti26, ti23, ti117, ti175, ti166, Int.natCast_zero, hF]) rfl)
def cmpLb (x y : Lb) : Int := if cmpS x.1 y.1 ≠ 0 then cmpS x.1 y.1 else cmpS x.2 y.2
theorem cmpL_step2 {a b : List Lb} {i : Nat} {x y : Lb} (hx : a[i]? = some x) (hy : b[i]? = some y) : cmpL (a.drop i) (b.drop i) = if cmpLb x y ≠ 0 then cmpLb x y else cmpL (a.drop (i + 1)) (b.drop (i + 1)) := by
  rw [cmpL_step hx hy]
  unfold cmpLb
  by_cases h1 : cmpS x.1 y.1 = 0 <;> simp [h1]
theorem o104 : E0.opn 104 = false := by kernel_rfl
theorem x104 : E0.xt 104 = none := by kernel_rfl
theorem o105 : E0.opn 105 = false := by kernel_rfl
theorem x105 : E0.xt 105 = none := by kernel_rfl
/-- 103: Compare$1 -/
theorem pf103 (x y : Lb) : Pf E0 103 [.agg ((lbP x).map .p), .agg ((lbP y).map .p)] (P' (pI (cmpLb x y))) := by
  refine Pf.body (fn := Tryz.f103) (by kernel_rfl) rfl ?_; simp only [List.map_cons, List.map_nil, List.cons_append, List.nil_append, List.length_cons, List.length_nil, Tryz.ntmps103, List.replicate, Nat.reduceSub, Nat.reduceAdd]
  refine Wc.seq ?_
  refine Wc.reg fun K hK => ?_; simp only [go_sem, ti3, ti4, ti5, ti9, ti32, ti39, ti41, ti31, ti29, ti22, ti26, ti23, ti117, ti175, ti166, Int.natCast_zero]; refine hK _ _ ?_; clear hK K
  refine Wc.seq ?_
  refine Wc.regT fun K hK => ?_
  simp only [go_sem, ti3, ti4, ti5, ti9, ti32, ti39, ti41, ti31, ti29, ti22, ti26, ti23, ti117, ti175, ti166, Int.natCast_zero]
  refine wpCall.pf (pf105 x.1 y.1) (by kernel_rfl) (by kernel_rfl) rfl rfl ?_
  simp only [go_sem, ti3, ti4, ti5, ti9, ti32, ti39, ti41, ti31, ti29, ti22, ti26, ti23, ti117, ti175, ti166, Int.natCast_zero, o105, x105]
  refine wpCall.pf (pf105 x.2 y.2) (by kernel_rfl) (by kernel_rfl) rfl rfl ?_
  simp only [go_sem, ti3, ti4, ti5, ti9, ti32, ti39, ti41, ti31, ti29, ti22, ti26, ti23, ti117, ti175, ti166, Int.natCast_zero, o105, x105]
  have q := pf104 (cmpS x.1 y.1) (cmpS x.2 y.2)
  rw [show (if cmpS x.1 y.1 ≠ 0 then cmpS x.1 y.1 else cmpS x.2 y.2) = cmpLb x y from rfl] at q
  refine wpCall.pf (q) (by kernel_rfl) (by kernel_rfl) rfl rfl ?_
  simp only [go_sem, ti3, ti4, ti5, ti9, ti32, ti39, ti41, ti31, ti29, ti22, ti26, ti23, ti117, ti175, ti166, Int.natCast_zero, o104, x104]
  refine ⟨by rw [trOK_eq3]; rfl, hK _ _ ?_⟩
  exact Wc.ret (Pf.ret [.tmp 4] [.c (.p (pI (cmpLb x y)))] rfl rfl (by simp only [resultsD, go_sem, ti3, ti4, ti5, ti9, ti32, ti39, ti41, ti31, ti29, ti22, ti26, ti23, ti117, ti175, ti166, Int.natCast_zero]) rfl)
/-- 102: slices.CompareFunc -/
theorem pf102c (a b : List Lb) (ha : a.length < 2^60) (hb : b.length < 2^60) : Pf E0 102 [.c (.p (.lst a.length (a.flatMap lbP))), .c (.p (.lst b.length (b.flatMap lbP))), .c (.p (.fnc 103))] (P' (pI (cmpL a b))) := by
  have hfa : (a.flatMap lbP).length = a.length * 2 := flat_len (k := 2) (fun _ => rfl) a
  have hfb : (b.flatMap lbP).length = b.length * 2 := flat_len (k := 2) (fun _ => rfl) b
  have hR0 : cmpL (a.drop 0) (b.drop 0) = cmpL a b := rfl
  generalize cmpL a b = R at hR0 ⊢
  refine Pf.body (fn := Tryz.f102) (by kernel_rfl) rfl ?_; simp only [List.map_cons, List.map_nil, List.cons_append, List.nil_append, List.length_cons, List.length_nil, Tryz.ntmps102, List.replicate, Nat.reduceSub, Nat.reduceAdd]
  refine Wc.seq ?_
  refine Wc.reg fun K hK => ?_; simp only [go_sem, ti3, ti4, ti5, ti9, ti32, ti39, ti41, ti31, ti29, ti22, ti26, ti23, ti117, ti175, ti166, Int.natCast_zero]; refine hK _ _ ?_; clear hK K
  refine Wc.seqR (fun y => (a.length ≤ b.length ∧ cmpL [] (b.drop a.length) = R) ∧ y.ds = [] ∧ Fs y.e 39 [(0, P' (.lst a.length (a.flatMap lbP))), (1, P' (.lst b.length (b.flatMap lbP)))]) ?_ ?_
  · refine Wc.seq ?_
    refine Wc.reg fun K hK => ?_; simp only [go_sem, ti3, ti4, ti5, ti9, ti32, ti39, ti41, ti31, ti29, ti22, ti26, ti23, ti117, ti175, ti166, Int.natCast_zero]; refine hK _ _ ?_; clear hK K
    refine Wc.block (Wc.loop (fun k y => ∃ i : Nat, k = a.length - i ∧ (i ≤ a.length ∧ i ≤ b.length) ∧ cmpL (a.drop i) (b.drop i) = R ∧ y.ds = [] ∧ Fs y.e 39 [(0, P' (.lst a.length (a.flatMap lbP))), (1, P' (.lst b.length (b.flatMap lbP))), (2, P' (.fnc 103)), (11, P' (.lst a.length (a.flatMap lbP))), (12, P' (pI a.length)), (13, P' (pI i))]) ?_ (k := a.length) ⟨0, rfl, by omega, hR0, rfl, by simp only [Fs, Int.natCast_zero, go_sem, ti3, ti4, ti5, ti9, ti32, ti39, ti41, ti31, ti29, ti22, ti26, ti23, ti117, ti175, ti166, Int.natCast_zero]⟩)
    rintro k ⟨e, ds, s1⟩ ⟨i, rfl, hi, hR, rfl, hF⟩
    simp only [Fs] at hF
    refine Wc.seq ?_
    refine Wc.reg fun K hK => ?_; simp only [go_sem, ti3, ti4, ti5, ti9, ti32, ti39, ti41, ti31, ti29, ti22, ti26, ti23, ti117, ti175, ti166, Int.natCast_zero, hF]; refine hK _ _ ?_; clear hK K
    refine Wc.seq ?_
    refine Wc.cond (t := decide ((i : Int) < a.length)) (by simp only [go_sem, ti3, ti4, ti5, ti9, ti32, ti39, ti41, ti31, ti29, ti22, ti26, ti23, ti117, ti175, ti166, Int.natCast_zero, hF]) (fun hc => ?_) (fun hc => ?_)
    · have h1 : i < a.length := by have := of_decide_eq_true hc; omega
      obtain ⟨x, hx⟩ : ∃ x, a[i]? = some x := ⟨a[i], List.getElem?_eq_getElem h1⟩
      have hix := ixA ti22 rfl ti117 (j := i) (m := a.length) (cs := a.flatMap lbP) h1 hfa (by decide)
      have hca := rpA (off := i * 2) (drop_flat (f := lbP) (k := 2) (fun _ => rfl) hx) (by rw [hfa]; omega)
      refine Wc.skip (Wc.seq (Wc.block (Wc.seq ?_)))
      refine Wc.reg fun K hK => ?_; simp only [go_sem, ti3, ti4, ti5, ti9, ti32, ti39, ti41, ti31, ti29, ti22, ti26, ti23, ti117, ti175, ti166, Int.natCast_zero, hF, hix, hca]; refine hK _ _ ?_; clear hK K
      refine Wc.seq (Wc.seq ?_)
      refine Wc.reg fun K hK => ?_; simp only [go_sem, ti3, ti4, ti5, ti9, ti32, ti39, ti41, ti31, ti29, ti22, ti26, ti23, ti117, ti175, ti166, Int.natCast_zero, hF]; refine hK _ _ ?_; clear hK K
      refine Wc.cond (t := decide ((b.length : Int) ≤ i)) (by simp only [go_sem, ti3, ti4, ti5, ti9, ti32, ti39, ti41, ti31, ti29, ti22, ti26, ti23, ti117, ti175, ti166, Int.natCast_zero, hF]) (fun hc => ?_) (fun hc => ?_)
      · have h2 : b.length = i := by have := of_decide_eq_true hc; omega
        have e1 : R = 1 := by
          rw [← hR, h2.symm, List.drop_length, List.drop_eq_getElem_cons (by omega)]; rfl
        rw [e1]
        refine Wc.seq ?_
        refine Wc.reg fun K hK => ?_; simp only [go_sem, ti3, ti4, ti5, ti9, ti32, ti39, ti41, ti31, ti29, ti22, ti26, ti23, ti117, ti175, ti166, Int.natCast_zero, hF]; refine hK _ _ ?_; clear hK K
        exact Wc.ret (Pf.ret [.tmp 6] [.c (.p (pI 1))] rfl rfl (by simp only [resultsD, go_sem, ti3, ti4, ti5, ti9, ti32, ti39, ti41, ti31, ti29, ti22, ti26, ti23, ti117, ti175, ti166, Int.natCast_zero, hF]) rfl)
      have h2 : i < b.length := by have := of_decide_eq_false hc; omega
      obtain ⟨y, hy⟩ : ∃ x, b[i]? = some x := ⟨b[i], List.getElem?_eq_getElem h2⟩
      have hiy := ixA ti22 rfl ti117 (j := i) (m := b.length) (cs := b.flatMap lbP) h2 hfb (by decide)
      have hda := rpA (off := i * 2) (drop_flat (f := lbP) (k := 2) (fun _ => rfl) hy) (by rw [hfb]; omega)
      rw [cmpL_step2 hx hy] at hR
      refine Wc.skip (Wc.seq ?_)
      refine Wc.reg fun K hK => ?_; simp only [go_sem, ti3, ti4, ti5, ti9, ti32, ti39, ti41, ti31, ti29, ti22, ti26, ti23, ti117, ti175, ti166, Int.natCast_zero, hF, hiy, hda]; refine hK _ _ ?_; clear hK K
      have n11 : (s1.nx + 11 = s1.nx) = False := by simp
      refine Wc.seq ?_
      refine Wc.reg fun K hK => ?_; simp only [go_sem, ti3, ti4, ti5, ti9, ti32, ti39, ti41, ti31, ti29, ti22, ti26, ti23, ti117, ti175, ti166, Int.natCast_zero, hF, n11]
      refine wpCall.pf (pf103 x y) (by kernel_rfl) (by kernel_rfl) rfl rfl ?_
      simp only [go_sem, ti3, ti4, ti5, ti9, ti32, ti39, ti41, ti31, ti29, ti22, ti26, ti23, ti117, ti175, ti166, Int.natCast_zero, hF]; refine hK _ _ ?_; clear hK K
      refine Wc.seq ?_
      refine Wc.reg fun K hK => ?_; simp only [go_sem, ti3, ti4, ti5, ti9, ti32, ti39, ti41, ti31, ti29, ti22, ti26, ti23, ti117, ti175, ti166, Int.natCast_zero, hF]; refine hK _ _ ?_; clear hK K
      refine Wc.cond (t := cmpLb x y != 0) (by simp only [go_sem, ti3, ti4, ti5, ti9, ti32, ti39, ti41, ti31, ti29, ti22, ti26, ti23, ti117, ti175, ti166, Int.natCast_zero, hF]) (fun hc => ?_) (fun hc => ?_)
      · have hn : cmpLb x y ≠ 0 := by simpa using hc
        rw [if_pos hn] at hR
        refine Wc.seq ?_
        refine Wc.reg fun K hK => ?_; simp only [go_sem, ti3, ti4, ti5, ti9, ti32, ti39, ti41, ti31, ti29, ti22, ti26, ti23, ti117, ti175, ti166, Int.natCast_zero, hF]; refine hK _ _ ?_; clear hK K
        rw [← hR]
        exact Wc.ret (Pf.ret [.tmp 6] [.c (.p (pI (cmpLb x y)))] rfl rfl (by simp only [resultsD, go_sem, ti3, ti4, ti5, ti9, ti32, ti39, ti41, ti31, ti29, ti22, ti26, ti23, ti117, ti175, ti166, Int.natCast_zero, hF]) rfl)
      have hn : ¬ cmpLb x y ≠ 0 := by simpa using hc
      rw [if_neg hn] at hR
      refine Wc.skip ?_
      refine Wc.reg fun K hK => ?_; simp only [go_sem, ti3, ti4, ti5, ti9, ti32, ti39, ti41, ti31, ti29, ti22, ti26, ti23, ti117, ti175, ti166, Int.natCast_zero, hF, i64n i (by omega)]; refine hK _ _ ?_; clear hK K
      exact ⟨a.length - (i + 1), by omega, i + 1, rfl, by omega, hR, rfl, by simp only [Fs, Int.natCast_zero, go_sem, ti3, ti4, ti5, ti9, ti32, ti39, ti41, ti31, ti29, ti22, ti26, ti23, ti117, ti175, ti166, Int.natCast_zero, hF]⟩
    · have hil : i = a.length := by have := of_decide_eq_false hc; omega
      rw [hil, List.drop_length] at hR
      exact Wc.exit ⟨⟨by omega, hR⟩, rfl, by simp only [Fs, Int.natCast_zero, go_sem, ti3, ti4, ti5, ti9, ti32, ti39, ti41, ti31, ti29, ti22, ti26, ti23, ti117, ti175, ti166, Int.natCast_zero, hF]⟩
  rintro ⟨e, ds, s1⟩ ⟨⟨hi, hR⟩, rfl, hF⟩
  simp only [Fs] at hF
  refine Wc.seq (Wc.seq ?_)
  refine Wc.reg fun K hK => ?_; simp only [go_sem, ti3, ti4, ti5, ti9, ti32, ti39, ti41, ti31, ti29, ti22, ti26, ti23, ti117, ti175, ti166, Int.natCast_zero, hF]; refine hK _ _ ?_; clear hK K
  refine Wc.cond (t := decide ((a.length : Int) < b.length)) (by simp only [go_sem, ti3, ti4, ti5, ti9, ti32, ti39, ti41, ti31, ti29, ti22, ti26, ti23, ti117, ti175, ti166, Int.natCast_zero, hF]) (fun hc => ?_) (fun hc => ?_)
  · have hlt := of_decide_eq_true hc
    have e1 : R = -1 := by
      rw [← hR]
      cases hd : b.drop a.length with
      | nil => have := congrArg List.length hd; simp at this; omega
      | cons y t => rfl
    rw [e1]
    refine Wc.seq ?_
    refine Wc.reg fun K hK => ?_; simp only [go_sem, ti3, ti4, ti5, ti9, ti32, ti39, ti41, ti31, ti29, ti22, ti26, ti23, ti117, ti175, ti166, Int.natCast_zero, hF]; refine hK _ _ ?_; clear hK K
    exact Wc.ret (Pf.ret [.tmp 6] [.c (.p (pI (-1)))] rfl rfl (by simp only [resultsD, go_sem, ti3, ti4, ti5, ti9, ti32, ti39, ti41, ti31, ti29, ti22, ti26, ti23, ti117, ti175, ti166, Int.natCast_zero, hF]) rfl)
  have h1 := of_decide_eq_false hc
  have e1 : R = 0 := by
    have : a.length = b.length := by omega
    rw [← hR, this, List.drop_length]; rfl
  rw [e1]
  refine Wc.skip ?_
  refine Wc.seq ?_
  refine Wc.reg fun K hK => ?_; simp only [go_sem, ti3, ti4, ti5, ti9, ti32, ti39, ti41, ti31, ti29, ti22, ti26, ti23, ti117, ti175, ti166, Int.natCast_zero, hF]; refine hK _ _ ?_; clear hK K
  exact Wc.ret (Pf.ret [.tmp 6] [.c (.p (pI 0))] rfl rfl (by simp only [resultsD, go_sem, ti3, ti4, ti5, ti9, ti32, ti39, ti41, ti31, ti29, ti22, ti26, ti23, ti117, ti175, ti166, Int.natCast_zero, hF]) rfl)
/-- 52: labels.Compare -/
theorem pf52 (a b : List Lb) (ha : a.length < 2^60) (hb : b.length < 2^60) : Pf E0 52 [.c (.p (.lst a.length (a.flatMap lbP))), .c (.p (.lst b.length (b.flatMap lbP)))] (P' (pI (cmpL a b))) := by
  refine Pf.body (fn := Tryz.f52) (by kernel_rfl) rfl ?_; simp only [List.map_cons, List.map_nil, List.cons_append, List.nil_append, List.length_cons, List.length_nil, Tryz.ntmps52, List.replicate, Nat.reduceSub, Nat.reduceAdd]
  refine Wc.seq ?_
  refine Wc.reg fun K hK => ?_; simp only [go_sem, ti3, ti4, ti5, ti9, ti32, ti39, ti41, ti31, ti29, ti22, ti26, ti23, ti117, ti175, ti166, Int.natCast_zero]; refine hK _ _ ?_; clear hK K
  refine Wc.seq ?_
  refine Wc.reg fun K hK => ?_; simp only [go_sem, ti3, ti4, ti5, ti9, ti32, ti39, ti41, ti31, ti29, ti22, ti26, ti23, ti117, ti175, ti166, Int.natCast_zero]
  refine wpCall.pf (pf102c a b ha hb) (by kernel_rfl) (by kernel_rfl) rfl rfl ?_
  simp only [go_sem, ti3, ti4, ti5, ti9, ti32, ti39, ti41, ti31, ti29, ti22, ti26, ti23, ti117, ti175, ti166, Int.natCast_zero]; refine hK _ _ ?_; clear hK K
  exact Wc.ret (Pf.ret [.tmp 4] [.c (.p (pI (cmpL a b)))] rfl rfl (by simp only [resultsD, go_sem, ti3, ti4, ti5, ti9, ti32, ti39, ti41, ti31, ti29, ti22, ti26, ti23, ti117, ti175, ti166, Int.natCast_zero]) rfl)
end Go.Proofs.YtedcnhbblgmdnaaGreat.Ab
namespace Go.Proofs.YtedcnhbblgmdnaaGreat.Ab
set_option maxHeartbeats 8000000
set_option maxRecDepth 10000
set_option linter.unusedSimpArgs false
set_option linter.unusedVariables false
/-- Appended to a slice that is an object of the state. -/
theorem GB.appG {b key id : Nat} {s : St} {L : List (Nat × D × Nat × List Pd)} {M : List (Nat × Ob)} {l m : List Bkt} {y : D} {K : D → St → Prop} (ho : OA b s L ((id, .grow 10 l.length (cB l) false) :: M)) (hn : l.length + m.length < 2^30) (hy : srcD E0 29 s y = some (m.length, m.flatMap Bkt.pd))
    (hk : ∀ s', OA b s' L ((id, .grow 10 (l ++ m).length (cB (l ++ m)) false) :: M) → s'.nx = s.nx → K (.v (.c (.gs (l ++ m).length id 0 (l ++ m).length 10))) s') : stepK (appendD E0 key [29, 29] (.v (.c (.gs l.length id 0 l.length 10))) y s) K := by
  have hfl : (m.flatMap Bkt.pd).length = m.length * 10 := flat_len (k := 10) (fun _ => rfl) m
  refine OA.appG (M1 := []) (M2 := M) (by_ := 80) (n := l.length) (m := m.length) (ys := m.flatMap Bkt.pd) (cs := cB l) (L := L) ho rfl ⟨_, ti29, rfl⟩ ti41 rfl rfl rfl (by decide) (by decide) hy hfl (by omega) fun s' hs hnx => ?_
  simp only [List.length_append, cB_app] at hk
  exact hk s' hs hnx
/-- What put answers. -/
def resP (R : Option (List Bkt)) (l : List Bkt) : D := match R with
  | some z => .tup [.c (.p (.lst z.length (z.flatMap Bkt.pd))), .c (.p (.bool true))]
  | none => .tup [.c (.p (.lst l.length (l.flatMap Bkt.pd))), .c (.p (.bool false))]
end Go.Proofs.YtedcnhbblgmdnaaGreat.Ab
namespace Go.Proofs.YtedcnhbblgmdnaaGreat.Ab
set_option maxHeartbeats 8000000
set_option maxRecDepth 10000
set_option linter.unusedSimpArgs false
set_option linter.unusedVariables false
def meP (x u : Rlp) (z : List Bkt) : Rlp := ⟨x.lb, x.k, x.w, z⟩
def meO (x u : Rlp) : Option (List Bkt) → Int
  | none => 16
  | some z => if limB (meP x u z) then 4 else 0
/-- Merged rollups: the answer's number, the rollup. -/
def meC (x u : Rlp) : Int := if rlpOK x = false ∨ rlpOK u = false then 1 else if cmpL x.lb u.lb ≠ 0 ∨ x.k ≠ u.k ∨ x.w ≠ u.w then 10 else meO x u (putsB x.k x.bs u.bs)
def meR (x u : Rlp) : Rlp := if meC x u = 0 then (match putsB x.k x.bs u.bs with
  | none => zR
  | some z => meP x u z) else zR
theorem b00 : ((0 : Int) != 0) = false := rfl
end Go.Proofs.YtedcnhbblgmdnaaGreat.Ab
namespace Go.Proofs.YtedcnhbblgmdnaaGreat.Ab
set_option maxHeartbeats 8000000
set_option maxRecDepth 10000
set_option linter.unusedSimpArgs false
set_option linter.unusedVariables false
end Go.Proofs.YtedcnhbblgmdnaaGreat.Ab
namespace Go.Proofs.YtedcnhbblgmdnaaGreat.Ab
set_option maxHeartbeats 8000000
set_option maxRecDepth 10000
set_option linter.unusedSimpArgs false
set_option linter.unusedVariables false
theorem grR_z {x : Rlp} (h : grR x = false) : Rz x := by
  simp only [grR, Bool.or_eq_false_iff, decide_eq_false_iff_not] at h
  obtain ⟨a1, a2⟩ := lbsG_sz h.1
  exact ⟨a1, a2, by omega⟩
theorem x12 : E0.xt 12 = none := by kernel_rfl
theorem o17 : E0.opn 17 = false := by kernel_rfl
theorem x17 : E0.xt 17 = none := by kernel_rfl
end Go.Proofs.YtedcnhbblgmdnaaGreat.Ab
