/- A part of the proof: an evaluator of the code, its contracts, the law. No condition. -/
import Derived.Test.YtedcnhbblgmdnaaGreatT32
import Derived.Test.YtedcnhbblgmdnaaGreatT10
namespace Go.Proofs.YtedcnhbblgmdnaaGreat.Ab
set_option maxHeartbeats 8000000
set_option maxRecDepth 10000
set_option linter.unusedSimpArgs false
set_option linter.unusedVariables false
theorem less_irr : ∀ s : List UInt8, Op.bytesLess s s = false
  | [] => rfl
  | a :: r => by
    simp only [Op.bytesLess, less_irr r, Bool.and_false, Bool.or_false, decide_eq_false_iff_not]
    exact UInt8.lt_irrefl a
theorem o154 : E0.opn 154 = false := by kernel_rfl
theorem x154 : E0.xt 154 = none := by kernel_rfl
/-- 115: Text, of equal texts -/
theorem pf154 (s : List UInt8) : Pf E0 154 [.c (.p (.str s)), .c (.p (.str s))] (P' (pI 0)) := by
  have h := less_irr s
  refine Pf.body (fn := Tryz.f154) (by kernel_rfl) rfl ?_; simp only [List.map_cons, List.map_nil, List.cons_append, List.nil_append, List.length_cons, List.length_nil, Tryz.ntmps154, List.replicate, Nat.reduceSub, Nat.reduceAdd]
  refine Wc.seq ?_
  refine Wc.reg fun K hK => ?_; simp only [go_sem, ti3, ti9, ti4, ti32, ti22, ti23, ti24, ti26, ti94, ti96, ti39, ti148, ti150, ti152, ti117]; refine hK _ _ ?_; clear hK K
  refine Wc.seq (Wc.seq ?_)
  refine Wc.reg fun K hK => ?_; simp only [go_sem, ti3, ti9, ti4, ti32, ti22, ti23, ti24, ti26, ti94, ti96, ti39, ti148, ti150, ti152, ti117, h]; refine hK _ _ ?_; clear hK K
  refine Wc.cond (t := false) (by simp only [go_sem, ti3, ti9, ti4, ti32, ti22, ti23, ti24, ti26, ti94, ti96, ti39, ti148, ti150, ti152, ti117, h]) (fun hc => by cases hc) (fun _ => Wc.skip ?_)
  refine Wc.seq (Wc.seq ?_)
  refine Wc.reg fun K hK => ?_; simp only [go_sem, ti3, ti9, ti4, ti32, ti22, ti23, ti24, ti26, ti94, ti96, ti39, ti148, ti150, ti152, ti117, h]; refine hK _ _ ?_; clear hK K
  refine Wc.cond (t := false) (by simp only [go_sem, ti3, ti9, ti4, ti32, ti22, ti23, ti24, ti26, ti94, ti96, ti39, ti148, ti150, ti152, ti117, h, Bool.or_true]) (fun hc => by cases hc) (fun _ => Wc.skip ?_)
  refine Wc.seq ?_
  refine Wc.reg fun K hK => ?_; simp only [go_sem, ti3, ti9, ti4, ti32, ti22, ti23, ti24, ti26, ti94, ti96, ti39, ti148, ti150, ti152, ti117]; refine hK _ _ ?_; clear hK K
  exact Wc.ret (Pf.ret [.tmp 4] [.c (.p (pI 0))] rfl rfl (by simp only [resultsD, go_sem, ti3, ti9, ti4, ti32, ti22, ti23, ti24, ti26, ti94, ti96, ti39, ti148, ti150, ti152, ti117]) rfl)
/-- 77: Compare, of equal labels -/
theorem pf96 (l : List Lb) (hl : l.length < 2^60) : Pf E0 96 [.c (.p (.lst l.length (l.flatMap lbP))), .c (.p (.lst l.length (l.flatMap lbP)))] (P' (pI 0)) := by
  have hfl : (l.flatMap lbP).length = l.length * 2 := flat_len (k := 2) (fun _ => rfl) l
  refine Pf.body (fn := Tryz.f96) (by kernel_rfl) rfl ?_; simp only [List.map_cons, List.map_nil, List.cons_append, List.nil_append, List.length_cons, List.length_nil, Tryz.ntmps96, List.replicate, Nat.reduceSub, Nat.reduceAdd]
  refine Wc.seq ?_
  refine Wc.reg fun K hK => ?_; simp only [go_sem, ti3, ti9, ti4, ti32, ti22, ti23, ti24, ti26, ti94, ti96, ti39, ti148, ti150, ti152, ti117]; refine hK _ _ ?_; clear hK K
  refine Wc.seqA (fun y => y.ds = [] ∧ y.e.length = 58 ∧ y.e.getD 0 .junk = P' (.lst l.length (l.flatMap lbP)) ∧ y.e.getD 1 .junk = P' (.lst l.length (l.flatMap lbP))) ?_ ?_
  · refine Wc.seq ?_
    refine Wc.reg fun K hK => ?_; simp only [go_sem, ti3, ti9, ti4, ti32, ti22, ti23, ti24, ti26, ti94, ti96, ti39, ti148, ti150, ti152, ti117, Int.natCast_zero]; refine hK _ _ ?_; clear hK K
    refine Wc.block (Wc.loop (fun k y => ∃ i : Nat, k = l.length - i ∧ i ≤ l.length ∧ y.ds = [] ∧ y.e.length = 58 ∧ y.e.getD 0 .junk = P' (.lst l.length (l.flatMap lbP)) ∧ y.e.getD 1 .junk = P' (.lst l.length (l.flatMap lbP)) ∧ y.e.getD 5 .junk = P' (pI i)) ?_ (k := l.length) ?_)
    · rintro k ⟨e, ds, s1⟩ ⟨i, rfl, hi, rfl, hlen, h0, h1, h5⟩
      simp only at hlen h0 h1 h5
      refine Wc.seq (Wc.seq ?_)
      by_cases hil : i < l.length
      · have hd : ((i : Int) < (l.length : Int)) = True := by simp only [eq_iff_iff, iff_true]; omega
        obtain ⟨x, hx⟩ : ∃ x, l[i]? = some x := ⟨l[i], List.getElem?_eq_getElem hil⟩
        have hix := ixA ti22 rfl ti117 (j := i) (m := l.length) (cs := l.flatMap lbP) hil hfl (by decide)
        have hca := rpA (off := i * 2) (drop_flat (f := lbP) (k := 2) (fun _ => rfl) hx) (by rw [hfl]; omega)
        have hcc := rpA (off := i * 2 + 1) (cs := l.flatMap lbP) (pre := [.str x.2]) (rest := (l.drop (i + 1)).flatMap lbP) (by rw [← List.drop_drop, drop_flat (f := lbP) (k := 2) (fun _ => rfl) hx]; rfl) (by rw [hfl]; omega)
        refine Wc.reg fun K hK => ?_; simp only [go_sem, ti3, ti9, ti4, ti32, ti22, ti23, ti24, ti26, ti94, ti96, ti39, ti148, ti150, ti152, ti117, hlen, h0, h1, h5, hd]; refine hK _ _ ?_; clear hK K
        refine Wc.cond (t := true) (by simp only [go_sem, ti3, ti9, ti4, ti32, ti22, ti23, ti24, ti26, ti94, ti96, ti39, ti148, ti150, ti152, ti117, hlen, hd]) (fun _ => ?_) (fun hc => by cases hc)
        refine Wc.skip (Wc.seq (Wc.block (Wc.seq (Wc.seq ?_))))
        refine Wc.regD fun K hK => ?_; simp only [go_sem, ti3, ti9, ti4, ti32, ti22, ti23, ti24, ti26, ti94, ti96, ti39, ti148, ti150, ti152, ti117, hlen, h0, h1, h5, hix, hca]
        refine ⟨by simp [o154, x154, plainD, plainV, plainC], ?_⟩
        refine wpCall.pf (pf154 x.1) (by kernel_rfl) (by kernel_rfl) rfl rfl ?_
        simp only [go_sem, ti3, ti9, ti4, ti32, ti22, ti23, ti24, ti26, ti94, ti96, ti39, ti148, ti150, ti152, ti117, hlen, h0, h1, h5, hix, hca]; refine hK _ _ ?_; clear hK K
        refine Wc.seq ?_
        refine Wc.reg fun K hK => ?_; simp only [go_sem, ti3, ti9, ti4, ti32, ti22, ti23, ti24, ti26, ti94, ti96, ti39, ti148, ti150, ti152, ti117, hlen, h0, h1, h5]; refine hK _ _ ?_; clear hK K
        refine Wc.cond (t := false) (by simp only [go_sem, ti3, ti9, ti4, ti32, ti22, ti23, ti24, ti26, ti94, ti96, ti39, ti148, ti150, ti152, ti117, hlen]; rfl) (fun hc => by cases hc) (fun _ => Wc.skip ?_)
        refine Wc.seq ?_
        refine Wc.regD fun K hK => ?_; simp only [go_sem, ti3, ti9, ti4, ti32, ti22, ti23, ti24, ti26, ti94, ti96, ti39, ti148, ti150, ti152, ti117, hlen, h0, h1, h5, hix, hcc]
        refine ⟨by simp [o154, x154, plainD, plainV, plainC], ?_⟩
        refine wpCall.pf (pf154 x.2) (by kernel_rfl) (by kernel_rfl) rfl rfl ?_
        simp only [go_sem, ti3, ti9, ti4, ti32, ti22, ti23, ti24, ti26, ti94, ti96, ti39, ti148, ti150, ti152, ti117, hlen, h0, h1, h5, hix, hcc]; refine hK _ _ ?_; clear hK K
        refine Wc.seq ?_
        refine Wc.reg fun K hK => ?_; simp only [go_sem, ti3, ti9, ti4, ti32, ti22, ti23, ti24, ti26, ti94, ti96, ti39, ti148, ti150, ti152, ti117, hlen, h0, h1, h5]; refine hK _ _ ?_; clear hK K
        refine Wc.cond (t := false) (by simp only [go_sem, ti3, ti9, ti4, ti32, ti22, ti23, ti24, ti26, ti94, ti96, ti39, ti148, ti150, ti152, ti117, hlen]; rfl) (fun hc => by cases hc) (fun _ => Wc.skip ?_)
        refine Wc.reg fun K hK => ?_; simp only [go_sem, ti3, ti9, ti4, ti32, ti22, ti23, ti24, ti26, ti94, ti96, ti39, ti148, ti150, ti152, ti117, hlen, h0, h1, h5, i64n i (by omega)]; refine hK _ _ ?_; clear hK K
        exact ⟨l.length - (i + 1), by omega, i + 1, rfl, by omega, rfl, by simp only [go_sem, ti3, ti9, ti4, ti32, ti22, ti23, ti24, ti26, ti94, ti96, ti39, ti148, ti150, ti152, ti117, hlen], by simp only [go_sem, ti3, ti9, ti4, ti32, ti22, ti23, ti24, ti26, ti94, ti96, ti39, ti148, ti150, ti152, ti117, hlen, h0], by simp only [go_sem, ti3, ti9, ti4, ti32, ti22, ti23, ti24, ti26, ti94, ti96, ti39, ti148, ti150, ti152, ti117, hlen, h1], by simp only [go_sem, ti3, ti9, ti4, ti32, ti22, ti23, ti24, ti26, ti94, ti96, ti39, ti148, ti150, ti152, ti117, hlen]⟩
      · have hd : ((i : Int) < (l.length : Int)) = False := by simp only [eq_iff_iff, iff_false]; omega
        refine Wc.reg fun K hK => ?_; simp only [go_sem, ti3, ti9, ti4, ti32, ti22, ti23, ti24, ti26, ti94, ti96, ti39, ti148, ti150, ti152, ti117, hlen, h0, h1, h5, hd]; refine hK _ _ ?_; clear hK K
        refine Wc.cond (t := false) (by simp only [go_sem, ti3, ti9, ti4, ti32, ti22, ti23, ti24, ti26, ti94, ti96, ti39, ti148, ti150, ti152, ti117, hlen, hd]) (fun hc => by cases hc) (fun _ => ?_)
        exact Wc.exit ⟨rfl, rfl, by simp only [go_sem, ti3, ti9, ti4, ti32, ti22, ti23, ti24, ti26, ti94, ti96, ti39, ti148, ti150, ti152, ti117, hlen], by simp only [go_sem, ti3, ti9, ti4, ti32, ti22, ti23, ti24, ti26, ti94, ti96, ti39, ti148, ti150, ti152, ti117, hlen, h0], by simp only [go_sem, ti3, ti9, ti4, ti32, ti22, ti23, ti24, ti26, ti94, ti96, ti39, ti148, ti150, ti152, ti117, hlen, h1]⟩
    · exact ⟨0, rfl, by omega, rfl, rfl, rfl, rfl, rfl⟩
  rintro ⟨e, ds, s1⟩ ⟨rfl, hlen, h0, h1⟩
  simp only at hlen h0 h1
  have hd : ((l.length : Int) < (l.length : Int)) = False := by simp
  refine Wc.seq (Wc.seq ?_)
  refine Wc.reg fun K hK => ?_; simp only [go_sem, ti3, ti9, ti4, ti32, ti22, ti23, ti24, ti26, ti94, ti96, ti39, ti148, ti150, ti152, ti117, hlen, h0, h1, hd]; refine hK _ _ ?_; clear hK K
  refine Wc.cond (t := false) (by simp only [go_sem, ti3, ti9, ti4, ti32, ti22, ti23, ti24, ti26, ti94, ti96, ti39, ti148, ti150, ti152, ti117, hlen, hd]) (fun hc => by cases hc) (fun _ => Wc.skip ?_)
  refine Wc.seq (Wc.seq ?_)
  refine Wc.reg fun K hK => ?_; simp only [go_sem, ti3, ti9, ti4, ti32, ti22, ti23, ti24, ti26, ti94, ti96, ti39, ti148, ti150, ti152, ti117, hlen, h0, h1, hd]; refine hK _ _ ?_; clear hK K
  refine Wc.cond (t := false) (by simp only [go_sem, ti3, ti9, ti4, ti32, ti22, ti23, ti24, ti26, ti94, ti96, ti39, ti148, ti150, ti152, ti117, hlen, hd]) (fun hc => by cases hc) (fun _ => Wc.skip ?_)
  refine Wc.seq ?_
  refine Wc.reg fun K hK => ?_; simp only [go_sem, ti3, ti9, ti4, ti32, ti22, ti23, ti24, ti26, ti94, ti96, ti39, ti148, ti150, ti152, ti117, hlen]; refine hK _ _ ?_; clear hK K
  exact Wc.ret (Pf.ret [.tmp 4] [.c (.p (pI 0))] rfl rfl (by simp only [resultsD, go_sem, ti3, ti9, ti4, ti32, ti22, ti23, ti24, ti26, ti94, ti96, ti39, ti148, ti150, ti152, ti117, hlen]) rfl)
/-- 36: Same, of equal labels -/
theorem pf50 (l : List Lb) (hl : l.length < 2^60) : Pf E0 50 [.c (.p (.lst l.length (l.flatMap lbP))), .c (.p (.lst l.length (l.flatMap lbP)))] (P' (.bool true)) := by
  refine Pf.body (fn := Tryz.f50) (by kernel_rfl) rfl ?_; simp only [List.map_cons, List.map_nil, List.cons_append, List.nil_append, List.length_cons, List.length_nil, Tryz.ntmps50, List.replicate, Nat.reduceSub, Nat.reduceAdd]
  refine Wc.seq ?_
  refine Wc.reg fun K hK => ?_; simp only [go_sem, ti3, ti9, ti4, ti32, ti22, ti23, ti24, ti26, ti94, ti96, ti39, ti148, ti150, ti152, ti117]; refine hK _ _ ?_; clear hK K
  refine Wc.seq ?_
  refine Wc.reg fun K hK => ?_; simp only [go_sem, ti3, ti9, ti4, ti32, ti22, ti23, ti24, ti26, ti94, ti96, ti39, ti148, ti150, ti152, ti117]
  refine wpCall.pf (pf96 l hl) (by kernel_rfl) (by kernel_rfl) rfl rfl ?_
  simp only [go_sem, ti3, ti9, ti4, ti32, ti22, ti23, ti24, ti26, ti94, ti96, ti39, ti148, ti150, ti152, ti117]; refine hK _ _ ?_; clear hK K
  exact Wc.ret (Pf.ret [.tmp 4] [.c (.p (.bool true))] rfl rfl (by simp only [resultsD, go_sem, ti3, ti9, ti4, ti32, ti22, ti23, ti24, ti26, ti94, ti96, ti39, ti148, ti150, ti152, ti117]; try rfl) rfl)
def lbG (x : Lb) : Bool := decide (61 < x.1.length) || decide (201 < x.2.length)
def lbsG (l : List Lb) : Bool := l.any lbG || decide (17 < l.length)
/-- 19: Great, of labels -/
theorem pf39 (l : List Lb) (hl : l.length < 2^60) : Pf E0 39 [.c (.p (.lst l.length (l.flatMap lbP)))] (P' (.bool (lbsG l))) := by
  have hfl : (l.flatMap lbP).length = l.length * 2 := flat_len (k := 2) (fun _ => rfl) l
  refine Pf.body (fn := Tryz.f39) (by kernel_rfl) rfl ?_; simp only [List.map_cons, List.map_nil, List.cons_append, List.nil_append, List.length_cons, List.length_nil, Tryz.ntmps39, List.replicate, Nat.reduceSub, Nat.reduceAdd]
  refine Wc.seq ?_
  refine Wc.reg fun K hK => ?_; simp only [go_sem, ti3, ti9, ti4, ti32, ti22, ti23, ti24, ti26, ti94, ti96, ti39, ti148, ti150, ti152, ti117]; refine hK _ _ ?_; clear hK K
  refine Wc.seqR (fun y => l.any lbG = false ∧ y.ds = [] ∧ y.e.length = 29 ∧ y.e.getD 0 .junk = P' (.lst l.length (l.flatMap lbP))) ?_ ?_
  · refine Wc.seq ?_
    refine Wc.reg fun K hK => ?_; simp only [go_sem, ti3, ti9, ti4, ti32, ti22, ti23, ti24, ti26, ti94, ti96, ti39, ti148, ti150, ti152, ti117, Int.natCast_zero]; refine hK _ _ ?_; clear hK K
    refine Wc.block (Wc.loop (fun k y => ∃ i : Nat, k = l.length - i ∧ i ≤ l.length ∧ y.ds = [] ∧ y.e.length = 29 ∧ y.e.getD 0 .junk = P' (.lst l.length (l.flatMap lbP)) ∧ y.e.getD 3 .junk = P' (pI i) ∧ (l.take i).any lbG = false) ?_ (k := l.length) ?_)
    · rintro k ⟨e, ds, s1⟩ ⟨i, rfl, hi, rfl, hlen, h0, h3, hn⟩
      simp only at hlen h0 h3
      refine Wc.seq (Wc.seq ?_)
      refine Wc.reg fun K hK => ?_; simp only [go_sem, ti3, ti9, ti4, ti32, ti22, ti23, ti24, ti26, ti94, ti96, ti39, ti148, ti150, ti152, ti117, hlen, h0, h3]; refine hK _ _ ?_; clear hK K
      refine Wc.cond (t := decide ((i : Int) < l.length)) (by simp only [go_sem, ti3, ti9, ti4, ti32, ti22, ti23, ti24, ti26, ti94, ti96, ti39, ti148, ti150, ti152, ti117, hlen]) (fun hc => ?_) (fun hc => ?_)
      · have hil : i < l.length := by have h9 : (i : Int) < l.length := (by simpa using hc); omega
        obtain ⟨x, hx⟩ : ∃ x, l[i]? = some x := ⟨l[i], List.getElem?_eq_getElem hil⟩
        have hix := ixA ti22 rfl ti117 (j := i) (m := l.length) (cs := l.flatMap lbP) hil hfl (by decide)
        have hca := rpA (off := i * 2) (drop_flat (f := lbP) (k := 2) (fun _ => rfl) hx) (by rw [hfl]; omega)
        have hcc := rpA (off := i * 2 + 1) (cs := l.flatMap lbP) (pre := [.str x.2]) (rest := (l.drop (i + 1)).flatMap lbP) (by rw [← List.drop_drop, drop_flat (f := lbP) (k := 2) (fun _ => rfl) hx]; rfl) (by rw [hfl]; omega)
        have bad : lbG x = true → lbsG l = true := fun h => by
          unfold lbsG
          rw [List.any_eq_true.2 ⟨x, List.mem_of_getElem? hx, h⟩, Bool.true_or]
        refine Wc.skip (Wc.seq (Wc.block (Wc.seq ?_)))
        by_cases z1 : 61 < x.1.length
        · have f1 : ((61 : Int) < (x.1.length : Int)) = True := by simp only [eq_iff_iff, iff_true]; omega
          refine Wc.reg fun K hK => ?_; simp only [go_sem, ti3, ti9, ti4, ti32, ti22, ti23, ti24, ti26, ti94, ti96, ti39, ti148, ti150, ti152, ti117, hlen, h0, h3, hix, hca, f1]; refine hK _ _ ?_; clear hK K
          refine Wc.cond (t := true) (by simp only [go_sem, ti3, ti9, ti4, ti32, ti22, ti23, ti24, ti26, ti94, ti96, ti39, ti148, ti150, ti152, ti117, hlen]) (fun _ => ?_) (fun hc => by cases hc)
          refine Wc.seq ?_
          refine Wc.reg fun K hK => ?_; simp only [go_sem, ti3, ti9, ti4, ti32, ti22, ti23, ti24, ti26, ti94, ti96, ti39, ti148, ti150, ti152, ti117, hlen]; refine hK _ _ ?_; clear hK K
          rw [bad (by simp [lbG, z1])]
          exact Wc.ret (Pf.ret [.tmp 2] [.c (.p (.bool true))] rfl rfl (by simp only [resultsD, go_sem, ti3, ti9, ti4, ti32, ti22, ti23, ti24, ti26, ti94, ti96, ti39, ti148, ti150, ti152, ti117, hlen]) rfl)
        have f1 : ((61 : Int) < (x.1.length : Int)) = False := by simp only [eq_iff_iff, iff_false]; omega
        refine Wc.reg fun K hK => ?_; simp only [go_sem, ti3, ti9, ti4, ti32, ti22, ti23, ti24, ti26, ti94, ti96, ti39, ti148, ti150, ti152, ti117, hlen, h0, h3, hix, hca, hcc, f1]; refine hK _ _ ?_; clear hK K
        refine Wc.cond (t := decide ((201 : Int) < x.2.length)) (by simp only [go_sem, ti3, ti9, ti4, ti32, ti22, ti23, ti24, ti26, ti94, ti96, ti39, ti148, ti150, ti152, ti117, hlen]) (fun hc => ?_) (fun hc => ?_)
        · have z2 : (201 : Int) < x.2.length := of_decide_eq_true hc
          have z3 : 201 < x.2.length := by omega
          refine Wc.seq ?_
          refine Wc.reg fun K hK => ?_; simp only [go_sem, ti3, ti9, ti4, ti32, ti22, ti23, ti24, ti26, ti94, ti96, ti39, ti148, ti150, ti152, ti117, hlen]; refine hK _ _ ?_; clear hK K
          rw [bad (by simp [lbG, z3])]
          exact Wc.ret (Pf.ret [.tmp 2] [.c (.p (.bool true))] rfl rfl (by simp only [resultsD, go_sem, ti3, ti9, ti4, ti32, ti22, ti23, ti24, ti26, ti94, ti96, ti39, ti148, ti150, ti152, ti117, hlen]) rfl)
        · have z2 : ¬ (201 : Int) < x.2.length := of_decide_eq_false hc
          have z3 : ¬ 201 < x.2.length := by omega
          refine Wc.skip ?_
          refine Wc.reg fun K hK => ?_; simp only [go_sem, ti3, ti9, ti4, ti32, ti22, ti23, ti24, ti26, ti94, ti96, ti39, ti148, ti150, ti152, ti117, hlen, h0, h3, i64n i (by omega)]; refine hK _ _ ?_; clear hK K
          refine ⟨l.length - (i + 1), by omega, i + 1, rfl, by omega, rfl, by simp only [go_sem, ti3, ti9, ti4, ti32, ti22, ti23, ti24, ti26, ti94, ti96, ti39, ti148, ti150, ti152, ti117, hlen], by simp only [go_sem, ti3, ti9, ti4, ti32, ti22, ti23, ti24, ti26, ti94, ti96, ti39, ti148, ti150, ti152, ti117, hlen, h0], by simp only [go_sem, ti3, ti9, ti4, ti32, ti22, ti23, ti24, ti26, ti94, ti96, ti39, ti148, ti150, ti152, ti117, hlen], ?_⟩
          rw [take_snoc hx, List.any_append, hn]
          simp only [List.any_cons, List.any_nil, lbG, decide_eq_false z1, decide_eq_false z3, Bool.or_self]
      · have hil : i = l.length := by have h9 : ¬ (i : Int) < l.length := (by simpa using hc); omega
        subst hil
        rw [List.take_length] at hn
        exact Wc.exit ⟨hn, rfl, by simp only [go_sem, ti3, ti9, ti4, ti32, ti22, ti23, ti24, ti26, ti94, ti96, ti39, ti148, ti150, ti152, ti117, hlen], by simp only [go_sem, ti3, ti9, ti4, ti32, ti22, ti23, ti24, ti26, ti94, ti96, ti39, ti148, ti150, ti152, ti117, hlen, h0]⟩
    · exact ⟨0, rfl, by omega, rfl, rfl, rfl, rfl, rfl⟩
  rintro ⟨e, ds, s1⟩ ⟨hn, rfl, hlen, h0⟩
  simp only at hlen h0
  refine Wc.seq ?_
  refine Wc.reg fun K hK => ?_; simp only [go_sem, ti3, ti9, ti4, ti32, ti22, ti23, ti24, ti26, ti94, ti96, ti39, ti148, ti150, ti152, ti117, hlen, h0]; refine hK _ _ ?_; clear hK K
  have e1 : lbsG l = decide ((17 : Int) < l.length) := by unfold lbsG; rw [hn, Bool.false_or, decide_eq_decide]; omega
  rw [e1]
  exact Wc.ret (Pf.ret [.tmp 2] [.c (.p (.bool (decide ((17 : Int) < l.length))))] rfl rfl (by simp only [resultsD, go_sem, ti3, ti9, ti4, ti32, ti22, ti23, ti24, ti26, ti94, ti96, ti39, ti148, ti150, ti152, ti117, hlen]) rfl)
/-- 20: Great, of samples -/
theorem pf40 (l : List I2) : Pf E0 40 [.c (.p (.lst l.length (l.flatMap p2)))] (P' (.bool (decide (24 < l.length)))) := by
  refine Pf.body (fn := Tryz.f40) (by kernel_rfl) rfl ?_; simp only [List.map_cons, List.map_nil, List.cons_append, List.nil_append, List.length_cons, List.length_nil, Tryz.ntmps40, List.replicate, Nat.reduceSub, Nat.reduceAdd]
  refine Wc.seq ?_
  refine Wc.reg fun K hK => ?_; simp only [go_sem, ti3, ti9, ti4, ti32, ti22, ti23, ti24, ti26, ti94, ti96, ti39, ti148, ti150, ti152, ti117]; refine hK _ _ ?_; clear hK K
  refine Wc.seq ?_
  refine Wc.reg fun K hK => ?_; simp only [go_sem, ti3, ti9, ti4, ti32, ti22, ti23, ti24, ti26, ti94, ti96, ti39, ti148, ti150, ti152, ti117]; refine hK _ _ ?_; clear hK K
  rw [show decide (24 < l.length) = decide ((24 : Int) < l.length) by rw [decide_eq_decide]; omega]
  exact Wc.ret (Pf.ret [.tmp 2] [.c (.p (.bool (decide ((24 : Int) < l.length))))] rfl rfl (by simp only [resultsD, go_sem, ti3, ti9, ti4, ti32, ti22, ti23, ti24, ti26, ti94, ti96, ti39, ti148, ti150, ti152, ti117]) rfl)
def serG (x : Ser) : Bool := x.hs.any (fun y => decide (40 < y.h.bs.length)) || (lbsG x.lb || (decide (24 < x.sm.length) || decide (6 < x.hs.length)))
theorem thenD_ret {K : Fr → Prop} {Q : Ex → Fr → Prop} {y : Fr} (h : Q .ret y) : thenD K Q .ret y := h
end Go.Proofs.YtedcnhbblgmdnaaGreat.Ab
namespace Go.Proofs.YtedcnhbblgmdnaaGreat.Ab
set_option maxRecDepth 100000
/-- What the closed check comes to. -/
noncomputable def aw : Option Bool := match bodyD E0 (runF E0 100) 100 12 [] { ob := [], nx := 0 } with
  | some (.v (.c (.p (.bool b))), _) => some b
  | _ => none
theorem aw_true : aw = some true := by kernel_rfl
/-- 12: the example of the chapter -/
theorem pf12 : Pf E0 12 [] (P' (.bool true)) := by
  have h := aw_true
  unfold aw at h
  split at h
  · rename_i b s hb
    cases h
    exact ⟨100, _, _, _, hb, rfl⟩
  · cases h
end Go.Proofs.YtedcnhbblgmdnaaGreat.Ab
namespace Go.Proofs.YtedcnhbblgmdnaaGreat.Ab
set_option maxHeartbeats 8000000
set_option maxRecDepth 10000
set_option linter.unusedSimpArgs false
set_option linter.unusedVariables false
/-- 17: Same, of equal rollups -/
theorem pf17 (x : Rlp) (hl : x.lb.length < 2^60) (hn : x.bs.length < 2^60) : Pf E0 17 [.agg (x.pd.map .p), .agg (x.pd.map .p)] (P' (.bool true)) := by
  have hfl : (x.bs.flatMap Bkt.pd).length = x.bs.length * 10 := flat_len (k := 10) (fun _ => rfl) _
  refine Pf.body (fn := Tryz.f17) (by kernel_rfl) rfl ?_; simp only [List.map_cons, List.map_nil, List.cons_append, List.nil_append, List.length_cons, List.length_nil, Tryz.ntmps17, List.replicate, Nat.reduceSub, Nat.reduceAdd]
  refine Wc.seq ?_
  refine Wc.reg fun K hK => ?_; simp only [go_sem, ti3, ti4, ti32, ti39, ti41, ti31, ti96, ti87, ti29, ti22, ti26, ti23, ti24, Int.natCast_zero]; refine hK _ _ ?_; clear hK K
  refine Wc.seq (Wc.seq ?_)
  refine Wc.reg fun K hK => ?_; simp only [go_sem, ti3, ti4, ti32, ti39, ti41, ti31, ti96, ti87, ti29, ti22, ti26, ti23, ti24, Int.natCast_zero]
  refine wpCall.pf (pf50 x.lb hl) (by kernel_rfl) (by kernel_rfl) rfl rfl ?_
  simp only [go_sem, ti3, ti4, ti32, ti39, ti41, ti31, ti96, ti87, ti29, ti22, ti26, ti23, ti24, Int.natCast_zero, bne_self_eq_false]; refine hK _ _ ?_; clear hK K
  refine Wc.cond (t := false) (by simp only [go_sem, ti3, ti4, ti32, ti39, ti41, ti31, ti96, ti87, ti29, ti22, ti26, ti23, ti24, Int.natCast_zero]) (fun hc => by cases hc) (fun _ => Wc.skip ?_)
  refine Wc.seqR (fun y => y.ds = [] ∧ Fs y.e 53 []) ?_ ?_
  · refine Wc.seq ?_
    refine Wc.reg fun K hK => ?_; simp only [go_sem, ti3, ti4, ti32, ti39, ti41, ti31, ti96, ti87, ti29, ti22, ti26, ti23, ti24, Int.natCast_zero]; refine hK _ _ ?_; clear hK K
    refine Wc.block (Wc.loop (fun c y => ∃ i : Nat, c = x.bs.length - i ∧ i ≤ x.bs.length ∧ y.ds = [] ∧ Fs y.e 53 [(2, .v (.c (.ref 0 0))), (3, .v (.c (.ref 1 0))), (5, P' (pI i))] ∧ OA y.s.nx y.s [] [(1, .cells (x.pd.map .p) false), (0, .cells (x.pd.map .p) false)]) ?_ (k := x.bs.length) ⟨0, rfl, by omega, rfl, by simp only [Fs, Int.natCast_zero, go_sem, ti3, ti4, ti32, ti39, ti41, ti31, ti96, ti87, ti29, ti22, ti26, ti23, ti24, Int.natCast_zero], by (try simp only [St.put_adv, St.adv_adv, St.put_put, St.nx_put, St.nx_adv]); repeat (first | exact OA.mono s00_oa (by omega) | refine OA.newB ?_ (by omega) rfl | refine OA.putB ?_ (by omega) | refine OA.advB ?_)⟩)
    rintro c ⟨e, ds, s1⟩ ⟨i, rfl, hi, rfl, hF, ho⟩
    simp only [Fs] at hF ho
    have g0 := ho.at_ (0, .cells (x.pd.map .p) false) (by simp)
    have g1 := ho.at_ (1, .cells (x.pd.map .p) false) (by simp)
    simp only [List.map_cons, List.map_nil] at g0 g1
    refine Wc.seq (Wc.seq ?_)
    refine Wc.reg fun K hK => ?_; simp only [go_sem, ti3, ti4, ti32, ti39, ti41, ti31, ti96, ti87, ti29, ti22, ti26, ti23, ti24, Int.natCast_zero, hF, g0]; refine hK _ _ ?_; clear hK K
    refine Wc.cond (t := decide ((i : Int) < x.bs.length)) (by simp only [go_sem, ti3, ti4, ti32, ti39, ti41, ti31, ti96, ti87, ti29, ti22, ti26, ti23, ti24, Int.natCast_zero, hF]) (fun hc => ?_) (fun hc => ?_)
    · have hil : i < x.bs.length := by have := of_decide_eq_true hc; omega
      obtain ⟨b, hb⟩ : ∃ b, x.bs[i]? = some b := ⟨x.bs[i], List.getElem?_eq_getElem hil⟩
      have hix := ixA ti29 rfl ti41 (j := i) (m := x.bs.length) (cs := x.bs.flatMap Bkt.pd) hil hfl (by decide)
      have hca := rpA (off := i * 10) (drop_flat (f := Bkt.pd) (k := 10) (fun _ => rfl) hb) (by rw [hfl]; omega)
      refine Wc.skip (Wc.seq (Wc.block (Wc.seq ?_)))
      refine Wc.regD fun K hK => ?_; simp only [go_sem, ti3, ti4, ti32, ti39, ti41, ti31, ti96, ti87, ti29, ti22, ti26, ti23, ti24, Int.natCast_zero, hF, g0, g1, hix, hca, eqL, eqS]; refine hK _ _ ?_; clear hK K
      refine Wc.cond (t := false) (by simp only [go_sem, ti3, ti4, ti32, ti39, ti41, ti31, ti96, ti87, ti29, ti22, ti26, ti23, ti24, Int.natCast_zero, hF]) (fun hc => by cases hc) (fun _ => ?_)
      refine Wc.skip ?_
      refine Wc.reg fun K hK => ?_; simp only [go_sem, ti3, ti4, ti32, ti39, ti41, ti31, ti96, ti87, ti29, ti22, ti26, ti23, ti24, Int.natCast_zero, hF, i64n i (by omega)]; refine hK _ _ ?_; clear hK K
      exact ⟨x.bs.length - (i + 1), by omega, i + 1, rfl, by omega, rfl, by simp only [Fs, Int.natCast_zero, go_sem, ti3, ti4, ti32, ti39, ti41, ti31, ti96, ti87, ti29, ti22, ti26, ti23, ti24, Int.natCast_zero, hF], by (try simp only [St.put_adv, St.adv_adv, St.put_put, St.nx_put, St.nx_adv]); repeat (first | exact OA.mono ho (by omega) | refine OA.newB ?_ (by omega) rfl | refine OA.putB ?_ (by omega) | refine OA.advB ?_)⟩
    · exact Wc.exit ⟨rfl, by simp only [Fs, Int.natCast_zero, go_sem, ti3, ti4, ti32, ti39, ti41, ti31, ti96, ti87, ti29, ti22, ti26, ti23, ti24, Int.natCast_zero, hF]⟩
  rintro ⟨e, ds, s1⟩ ⟨rfl, hF⟩
  simp only [Fs] at hF
  refine Wc.seq ?_
  refine Wc.reg fun K hK => ?_; simp only [go_sem, ti3, ti4, ti32, ti39, ti41, ti31, ti96, ti87, ti29, ti22, ti26, ti23, ti24, Int.natCast_zero, hF]; refine hK _ _ ?_; clear hK K
  exact Wc.ret (Pf.ret [.tmp 4] [.c (.p (.bool true))] rfl rfl (by simp only [resultsD, go_sem, ti3, ti4, ti32, ti39, ti41, ti31, ti96, ti87, ti29, ti22, ti26, ti23, ti24, Int.natCast_zero, hF]) rfl)
def grS (x : Ser) : Bool := lbsG x.lb || (decide ((24 : Int) < x.sm.length) || decide ((2 : Int) < x.hs.length))
/-- 11: great -/
theorem pf11 (x : Ser) (hlb : x.lb.length < 2^60) : Pf E0 11 [.agg (x.pd.map .p)] (P' (.bool (grS x))) := by
  unfold grS
  refine Pf.body (fn := Tryz.f11) (by kernel_rfl) rfl ?_; simp only [List.map_cons, List.map_nil, List.cons_append, List.nil_append, List.length_cons, List.length_nil, Tryz.ntmps11, List.replicate, Nat.reduceSub, Nat.reduceAdd]
  refine Wc.seq ?_
  refine Wc.reg fun K hK => ?_; simp only [go_sem, ti3, ti4, ti32, ti39, ti41, ti31, ti96, ti87, ti29, ti22, ti26, ti23, ti24, Int.natCast_zero]; refine hK _ _ ?_; clear hK K
  refine Wc.seq ?_
  refine Wc.reg fun K hK => ?_; simp only [go_sem, ti3, ti4, ti32, ti39, ti41, ti31, ti96, ti87, ti29, ti22, ti26, ti23, ti24, Int.natCast_zero]
  refine wpCall.pf (pf39 x.lb hlb) (by kernel_rfl) (by kernel_rfl) rfl rfl ?_
  cases h1 : lbsG x.lb with
  | true =>
    simp only [go_sem, ti3, ti4, ti32, ti39, ti41, ti31, ti96, ti87, ti29, ti22, ti26, ti23, ti24, Int.natCast_zero]; refine hK _ _ ?_; clear hK K
    rw [h1]
    exact Wc.ret (Pf.ret [.tmp 2] [.c (.p (.bool true))] rfl rfl (by simp only [resultsD, go_sem, ti3, ti4, ti32, ti39, ti41, ti31, ti96, ti87, ti29, ti22, ti26, ti23, ti24, Int.natCast_zero]) rfl)
  | false =>
    simp only [go_sem, ti3, ti4, ti32, ti39, ti41, ti31, ti96, ti87, ti29, ti22, ti26, ti23, ti24, Int.natCast_zero]
    refine wpCall.pf (pf40 x.sm) (by kernel_rfl) (by kernel_rfl) rfl rfl ?_
    cases h2 : decide (24 < x.sm.length) with
    | true =>
      have h3 : decide ((24 : Int) < x.sm.length) = true := by simp at h2 ⊢; omega
      simp only [go_sem, ti3, ti4, ti32, ti39, ti41, ti31, ti96, ti87, ti29, ti22, ti26, ti23, ti24, Int.natCast_zero]; refine hK _ _ ?_; clear hK K
      rw [h1, h3]
      exact Wc.ret (Pf.ret [.tmp 2] [.c (.p (.bool true))] rfl rfl (by simp only [resultsD, go_sem, ti3, ti4, ti32, ti39, ti41, ti31, ti96, ti87, ti29, ti22, ti26, ti23, ti24, Int.natCast_zero]) rfl)
    | false =>
      have h3 : decide ((24 : Int) < x.sm.length) = false := by simp at h2 ⊢; omega
      simp only [go_sem, ti3, ti4, ti32, ti39, ti41, ti31, ti96, ti87, ti29, ti22, ti26, ti23, ti24, Int.natCast_zero]; refine hK _ _ ?_; clear hK K
      rw [h1, h3]
      exact Wc.ret (Pf.ret [.tmp 2] [.c (.p (.bool (decide ((2 : Int) < x.hs.length))))] rfl rfl (by simp only [resultsD, go_sem, ti3, ti4, ti32, ti39, ti41, ti31, ti96, ti87, ti29, ti22, ti26, ti23, ti24, Int.natCast_zero]) rfl)
def grR (x : Rlp) : Bool := lbsG x.lb || decide ((24 : Int) < x.bs.length)
theorem lbsG_sz {l : List Lb} (h : lbsG l = false) : l.length < 2^40 ∧ ∀ y ∈ l, y.1.length < 2^50 ∧ y.2.length < 2^50 := by
  simp only [lbsG, Bool.or_eq_false_iff, decide_eq_false_iff_not] at h
  obtain ⟨h2, h3⟩ := h
  rw [List.any_eq_false] at h2
  refine ⟨by omega, fun y hy => ?_⟩
  have := h2 y hy
  simp only [lbG, Bool.or_eq_true, decide_eq_true_eq] at this
  omega
theorem grS_sz {x : Ser} (h : grS x = false) (hb : ∀ y ∈ x.hs, y.h.bs.length < 2^60) : x.Sz := by
  simp only [grS, Bool.or_eq_false_iff, decide_eq_false_iff_not] at h
  obtain ⟨h1, h2, h3⟩ := h
  obtain ⟨a1, a2⟩ := lbsG_sz h1
  exact ⟨a1, a2, by omega, by omega, hb⟩
end Go.Proofs.YtedcnhbblgmdnaaGreat.Ab
namespace Go.Proofs.YtedcnhbblgmdnaaGreat.Ab
set_option maxHeartbeats 8000000
set_option maxRecDepth 10000
set_option linter.unusedSimpArgs false
set_option linter.unusedVariables false
/-- A rollup that is not too long. -/
structure Rz (x : Rlp) : Prop where
  lb : x.lb.length < 2^40
  ls : ∀ y ∈ x.lb, y.1.length < 2^50 ∧ y.2.length < 2^50
  bs : x.bs.length < 2^40
theorem zR_z : Rz zR := ⟨by decide, fun y hy => (by cases hy), by decide⟩
theorem ofR_z {x : Ser} {w : Int} (hlb : x.lb.length < 2^40) (hls : ∀ y ∈ x.lb, y.1.length < 2^50 ∧ y.2.length < 2^50) (hsm : x.sm.length < 2^40) : Rz (ofR x w) := by
  unfold ofR
  split
  · exact ⟨hlb, hls, by have := ofB_len x.k w x.sm; show (ofB _ _ _).length < _; omega⟩
  · exact zR_z
theorem coP_z {x : Rlp} {f : Int} (z : Rz x) : Rz (coP x f) := ⟨z.lb, z.ls, by
  have h1 := grpB_len x.k (x.bs.map (reB fun s => s.tdiv (x.w * f) * (x.w * f)))
  have h2 := z.bs
  simp only [List.length_map] at h1
  show (grpB _ _).length < _
  omega⟩
theorem coR_z {x : Rlp} {f : Int} (z : Rz x) : Rz (coR x f) := by
  unfold coR
  split
  · exact coP_z z
  · exact zR_z
theorem Rz.same {x : Rlp} (z : Rz x) : Pf E0 17 [.agg (x.pd.map .p), .agg (x.pd.map .p)] (P' (.bool true)) := pf17 x (by have := z.lb; omega) (by have := z.bs; omega)
/-- 3: DownsampleOf -/
theorem law3 (x : Ser) (w f : Int) (hlb : x.lb.length < 2^60) (hb : ∀ y ∈ x.hs, y.h.bs.length < 2^60) : ∃ s', Ev E0 (.o 3) [.agg (x.pd.map .p), .c (.p (pI w)), .c (.p (pI f))] s00 (P' (.bool true)) s' := by
  have main : Wc E0 none (Tryz.f3.body.get rfl) { e := [V.agg (x.pd.map .p), .c (.p (pI w)), .c (.p (pI f))].map .v ++ List.replicate (Tryz.f3.ntmps - 3) (.tup []), ds := [], s := s00 } (bodyQ E0 Tryz.f3 fun d _ => d = P' (.bool true)) := by
    show Wc E0 none _ _ _
    simp only [List.map_cons, List.map_nil, List.cons_append, List.nil_append, Tryz.ntmps3, List.replicate, Nat.reduceSub, Nat.reduceAdd, s00]
    refine Wc.seq ?_
    refine Wc.reg fun K hK => ?_; simp only [go_sem, ti3, ti4, ti32, ti39, ti41, ti31, ti96, ti87, ti29, ti22, ti26, ti23, ti24, Int.natCast_zero]; refine hK _ _ ?_; clear hK K
    refine Wc.seq (Wc.seq ?_)
    refine Wc.reg fun K hK => ?_; simp only [go_sem, ti3, ti4, ti32, ti39, ti41, ti31, ti96, ti87, ti29, ti22, ti26, ti23, ti24, Int.natCast_zero]
    refine wpCall.pf (pf11 x hlb) (by kernel_rfl) (by kernel_rfl) rfl rfl ?_
    simp only [go_sem, ti3, ti4, ti32, ti39, ti41, ti31, ti96, ti87, ti29, ti22, ti26, ti23, ti24, Int.natCast_zero]; refine hK _ _ ?_; clear hK K
    refine Wc.cond (t := grS x) (by simp only [go_sem, ti3, ti4, ti32, ti39, ti41, ti31, ti96, ti87, ti29, ti22, ti26, ti23, ti24, Int.natCast_zero]) (fun hc => ?_) (fun hc => ?_)
    · refine Wc.seq ?_
      refine Wc.reg fun K hK => ?_; simp only [go_sem, ti3, ti4, ti32, ti39, ti41, ti31, ti96, ti87, ti29, ti22, ti26, ti23, ti24, Int.natCast_zero]
      refine wpCall.pf (pf12) (by kernel_rfl) (by kernel_rfl) rfl rfl ?_
      simp only [go_sem, ti3, ti4, ti32, ti39, ti41, ti31, ti96, ti87, ti29, ti22, ti26, ti23, ti24, Int.natCast_zero]; refine hK _ _ ?_; clear hK K
      refine Wc.ret (thenD_ret ?_)
      exact Op.ret [.tmp 6] [.c (.p (.bool true))] rfl rfl (by simp only [resultsD, go_sem, ti3, ti4, ti32, ti39, ti41, ti31, ti96, ti87, ti29, ti22, ti26, ti23, ti24, Int.natCast_zero]) rfl
    have z := grS_sz hc hb
    have p13 := pf13 x z w
    have p14 := pf14 x z w
    have rz : Rz (ofR x w) := ofR_z z.lb z.ls z.sm
    generalize ofR x w = a at *
    generalize ofC x w = ea at *
    have p15 := pf15 a rz.lb rz.ls f
    have p16 := pf16 a rz.lb rz.ls f
    have cz : Rz (coR a f) := coR_z rz
    generalize coR a f = c at *
    generalize coC a f = ec at *
    refine Wc.skip (Wc.seq ?_)
    refine Wc.reg fun K hK => ?_; simp only [go_sem, ti3, ti4, ti32, ti39, ti41, ti31, ti96, ti87, ti29, ti22, ti26, ti23, ti24, Int.natCast_zero]
    refine wpCall.pf (p13) (by kernel_rfl) (by kernel_rfl) rfl rfl ?_
    simp only [go_sem, ti3, ti4, ti32, ti39, ti41, ti31, ti96, ti87, ti29, ti22, ti26, ti23, ti24, Int.natCast_zero]; refine hK _ _ ?_; clear hK K
    refine Wc.seq ?_
    refine Wc.reg fun K hK => ?_; simp only [go_sem, ti3, ti4, ti32, ti39, ti41, ti31, ti96, ti87, ti29, ti22, ti26, ti23, ti24, Int.natCast_zero]
    refine wpCall.pf (p14) (by kernel_rfl) (by kernel_rfl) rfl rfl ?_
    simp only [go_sem, ti3, ti4, ti32, ti39, ti41, ti31, ti96, ti87, ti29, ti22, ti26, ti23, ti24, Int.natCast_zero]; refine hK _ _ ?_; clear hK K
    refine Wc.seq ?_
    refine Wc.reg fun K hK => ?_; simp only [go_sem, ti3, ti4, ti32, ti39, ti41, ti31, ti96, ti87, ti29, ti22, ti26, ti23, ti24, Int.natCast_zero]
    refine wpCall.pf (p15) (by kernel_rfl) (by kernel_rfl) rfl rfl ?_
    simp only [go_sem, ti3, ti4, ti32, ti39, ti41, ti31, ti96, ti87, ti29, ti22, ti26, ti23, ti24, Int.natCast_zero]; refine hK _ _ ?_; clear hK K
    refine Wc.seq ?_
    refine Wc.reg fun K hK => ?_; simp only [go_sem, ti3, ti4, ti32, ti39, ti41, ti31, ti96, ti87, ti29, ti22, ti26, ti23, ti24, Int.natCast_zero]
    refine wpCall.pf (p16) (by kernel_rfl) (by kernel_rfl) rfl rfl ?_
    simp only [go_sem, ti3, ti4, ti32, ti39, ti41, ti31, ti96, ti87, ti29, ti22, ti26, ti23, ti24, Int.natCast_zero]; refine hK _ _ ?_; clear hK K
    refine Wc.seq ?_
    refine Wc.reg fun K hK => ?_; simp only [go_sem, ti3, ti4, ti32, ti39, ti41, ti31, ti96, ti87, ti29, ti22, ti26, ti23, ti24, Int.natCast_zero]
    refine wpCall.pf (rz.same) (by kernel_rfl) (by kernel_rfl) rfl rfl ?_
    simp only [go_sem, ti3, ti4, ti32, ti39, ti41, ti31, ti96, ti87, ti29, ti22, ti26, ti23, ti24, Int.natCast_zero]
    refine wpCall.pf (cz.same) (by kernel_rfl) (by kernel_rfl) rfl rfl ?_
    simp only [go_sem, ti3, ti4, ti32, ti39, ti41, ti31, ti96, ti87, ti29, ti22, ti26, ti23, ti24, Int.natCast_zero]
    refine wpCall.pf (pf12) (by kernel_rfl) (by kernel_rfl) rfl rfl ?_
    simp only [go_sem, ti3, ti4, ti32, ti39, ti41, ti31, ti96, ti87, ti29, ti22, ti26, ti23, ti24, Int.natCast_zero]; refine hK _ _ ?_; clear hK K
    exact Wc.ret (Op.ret [.tmp 6] [.c (.p (.bool true))] rfl rfl (by simp only [resultsD, go_sem, ti3, ti4, ti32, ti39, ti41, ti31, ti96, ti87, ti29, ti22, ti26, ti23, ti24, Int.natCast_zero]) rfl)
  obtain ⟨n, d, s', h1, h2⟩ := Ev.body (g := 3) (args := [V.agg (x.pd.map .p), .c (.p (pI w)), .c (.p (pI f))]) (by kernel_rfl) rfl main
  subst h2
  exact ⟨s', n + 1, h1⟩
end Go.Proofs.YtedcnhbblgmdnaaGreat.Ab
