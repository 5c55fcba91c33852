/- A part of the proof: an evaluator of the code, its contracts, the law. No condition. -/
import Derived.Test.YtafaoldmemcigaaGreatT23
import Derived.Test.YtafaoldmemcigaaGreatT29
namespace Go.Proofs.YtafaoldmemcigaaGreat.Ab
set_option maxHeartbeats 8000000
set_option maxRecDepth 10000
set_option linter.unusedSimpArgs false
set_option linter.unusedVariables false
theorem less_irr : ∀ s : List UInt8, Op.bytesLess s s = false
  | [] => rfl
  | a :: r => by
    simp only [Op.bytesLess, less_irr r, Bool.and_false, Bool.or_false, decide_eq_false_iff_not]
    exact UInt8.lt_irrefl a
theorem o115 : E0.opn 115 = false := by kernel_rfl
theorem x115 : E0.xt 115 = none := by kernel_rfl
/-- 115: Text, of equal texts -/
theorem pf115 (s : List UInt8) : Pf E0 115 [.c (.p (.str s)), .c (.p (.str s))] (P' (pI 0)) := by
  have h := less_irr s
  refine Pf.body (fn := Tryz.f115) (by kernel_rfl) rfl ?_; simp only [List.map_cons, List.map_nil, List.cons_append, List.nil_append, List.length_cons, List.length_nil, Tryz.ntmps115, List.replicate, Nat.reduceSub, Nat.reduceAdd]
  refine Wc.seq ?_
  refine Wc.reg fun K hK => ?_; simp only [go_sem, ti3, ti9, ti4, ti35, ti22, ti23, ti24, ti26, ti32, ti34, ti45, ti53, ti55, ti57, ti64]; refine hK _ _ ?_; clear hK K
  refine Wc.seq (Wc.seq ?_)
  refine Wc.reg fun K hK => ?_; simp only [go_sem, ti3, ti9, ti4, ti35, ti22, ti23, ti24, ti26, ti32, ti34, ti45, ti53, ti55, ti57, ti64, h]; refine hK _ _ ?_; clear hK K
  refine Wc.cond (t := false) (by simp only [go_sem, ti3, ti9, ti4, ti35, ti22, ti23, ti24, ti26, ti32, ti34, ti45, ti53, ti55, ti57, ti64, h]) (fun hc => by cases hc) (fun _ => Wc.skip ?_)
  refine Wc.seq (Wc.seq ?_)
  refine Wc.reg fun K hK => ?_; simp only [go_sem, ti3, ti9, ti4, ti35, ti22, ti23, ti24, ti26, ti32, ti34, ti45, ti53, ti55, ti57, ti64, h]; refine hK _ _ ?_; clear hK K
  refine Wc.cond (t := false) (by simp only [go_sem, ti3, ti9, ti4, ti35, ti22, ti23, ti24, ti26, ti32, ti34, ti45, ti53, ti55, ti57, ti64, h, Bool.or_true]) (fun hc => by cases hc) (fun _ => Wc.skip ?_)
  refine Wc.seq ?_
  refine Wc.reg fun K hK => ?_; simp only [go_sem, ti3, ti9, ti4, ti35, ti22, ti23, ti24, ti26, ti32, ti34, ti45, ti53, ti55, ti57, ti64]; refine hK _ _ ?_; clear hK K
  exact Wc.ret (Pf.ret [.tmp 4] [.c (.p (pI 0))] rfl rfl (by simp only [resultsD, go_sem, ti3, ti9, ti4, ti35, ti22, ti23, ti24, ti26, ti32, ti34, ti45, ti53, ti55, ti57, ti64]) rfl)
/-- 77: Compare, of equal labels -/
theorem pf77 (l : List Lb) (hl : l.length < 2^60) : Pf E0 77 [.c (.p (.lst l.length (l.flatMap lbP))), .c (.p (.lst l.length (l.flatMap lbP)))] (P' (pI 0)) := by
  have hfl : (l.flatMap lbP).length = l.length * 2 := flat_len (k := 2) (fun _ => rfl) l
  refine Pf.body (fn := Tryz.f77) (by kernel_rfl) rfl ?_; simp only [List.map_cons, List.map_nil, List.cons_append, List.nil_append, List.length_cons, List.length_nil, Tryz.ntmps77, List.replicate, Nat.reduceSub, Nat.reduceAdd]
  refine Wc.seq ?_
  refine Wc.reg fun K hK => ?_; simp only [go_sem, ti3, ti9, ti4, ti35, ti22, ti23, ti24, ti26, ti32, ti34, ti45, ti53, ti55, ti57, ti64]; refine hK _ _ ?_; clear hK K
  refine Wc.seqA (fun y => y.ds = [] ∧ y.e.length = 58 ∧ y.e.getD 0 .junk = P' (.lst l.length (l.flatMap lbP)) ∧ y.e.getD 1 .junk = P' (.lst l.length (l.flatMap lbP))) ?_ ?_
  · refine Wc.seq ?_
    refine Wc.reg fun K hK => ?_; simp only [go_sem, ti3, ti9, ti4, ti35, ti22, ti23, ti24, ti26, ti32, ti34, ti45, ti53, ti55, ti57, ti64, Int.natCast_zero]; refine hK _ _ ?_; clear hK K
    refine Wc.block (Wc.loop (fun k y => ∃ i : Nat, k = l.length - i ∧ i ≤ l.length ∧ y.ds = [] ∧ y.e.length = 58 ∧ y.e.getD 0 .junk = P' (.lst l.length (l.flatMap lbP)) ∧ y.e.getD 1 .junk = P' (.lst l.length (l.flatMap lbP)) ∧ y.e.getD 5 .junk = P' (pI i)) ?_ (k := l.length) ?_)
    · rintro k ⟨e, ds, s1⟩ ⟨i, rfl, hi, rfl, hlen, h0, h1, h5⟩
      simp only at hlen h0 h1 h5
      refine Wc.seq (Wc.seq ?_)
      by_cases hil : i < l.length
      · have hd : ((i : Int) < (l.length : Int)) = True := by simp only [eq_iff_iff, iff_true]; omega
        obtain ⟨x, hx⟩ : ∃ x, l[i]? = some x := ⟨l[i], List.getElem?_eq_getElem hil⟩
        have hix := ixA ti22 rfl ti64 (j := i) (m := l.length) (cs := l.flatMap lbP) hil hfl (by decide)
        have hca := rpA (off := i * 2) (drop_flat (f := lbP) (k := 2) (fun _ => rfl) hx) (by rw [hfl]; omega)
        have hcc := rpA (off := i * 2 + 1) (cs := l.flatMap lbP) (pre := [.str x.2]) (rest := (l.drop (i + 1)).flatMap lbP) (by rw [← List.drop_drop, drop_flat (f := lbP) (k := 2) (fun _ => rfl) hx]; rfl) (by rw [hfl]; omega)
        refine Wc.reg fun K hK => ?_; simp only [go_sem, ti3, ti9, ti4, ti35, ti22, ti23, ti24, ti26, ti32, ti34, ti45, ti53, ti55, ti57, ti64, hlen, h0, h1, h5, hd]; refine hK _ _ ?_; clear hK K
        refine Wc.cond (t := true) (by simp only [go_sem, ti3, ti9, ti4, ti35, ti22, ti23, ti24, ti26, ti32, ti34, ti45, ti53, ti55, ti57, ti64, hlen, hd]) (fun _ => ?_) (fun hc => by cases hc)
        refine Wc.skip (Wc.seq (Wc.block (Wc.seq (Wc.seq ?_))))
        refine Wc.regD fun K hK => ?_; simp only [go_sem, ti3, ti9, ti4, ti35, ti22, ti23, ti24, ti26, ti32, ti34, ti45, ti53, ti55, ti57, ti64, hlen, h0, h1, h5, hix, hca]
        refine ⟨by simp [o115, x115, plainD, plainV, plainC], ?_⟩
        refine wpCall.pf (pf115 x.1) (by kernel_rfl) (by kernel_rfl) rfl rfl ?_
        simp only [go_sem, ti3, ti9, ti4, ti35, ti22, ti23, ti24, ti26, ti32, ti34, ti45, ti53, ti55, ti57, ti64, hlen, h0, h1, h5, hix, hca]; refine hK _ _ ?_; clear hK K
        refine Wc.seq ?_
        refine Wc.reg fun K hK => ?_; simp only [go_sem, ti3, ti9, ti4, ti35, ti22, ti23, ti24, ti26, ti32, ti34, ti45, ti53, ti55, ti57, ti64, hlen, h0, h1, h5]; refine hK _ _ ?_; clear hK K
        refine Wc.cond (t := false) (by simp only [go_sem, ti3, ti9, ti4, ti35, ti22, ti23, ti24, ti26, ti32, ti34, ti45, ti53, ti55, ti57, ti64, hlen]; rfl) (fun hc => by cases hc) (fun _ => Wc.skip ?_)
        refine Wc.seq ?_
        refine Wc.regD fun K hK => ?_; simp only [go_sem, ti3, ti9, ti4, ti35, ti22, ti23, ti24, ti26, ti32, ti34, ti45, ti53, ti55, ti57, ti64, hlen, h0, h1, h5, hix, hcc]
        refine ⟨by simp [o115, x115, plainD, plainV, plainC], ?_⟩
        refine wpCall.pf (pf115 x.2) (by kernel_rfl) (by kernel_rfl) rfl rfl ?_
        simp only [go_sem, ti3, ti9, ti4, ti35, ti22, ti23, ti24, ti26, ti32, ti34, ti45, ti53, ti55, ti57, ti64, hlen, h0, h1, h5, hix, hcc]; refine hK _ _ ?_; clear hK K
        refine Wc.seq ?_
        refine Wc.reg fun K hK => ?_; simp only [go_sem, ti3, ti9, ti4, ti35, ti22, ti23, ti24, ti26, ti32, ti34, ti45, ti53, ti55, ti57, ti64, hlen, h0, h1, h5]; refine hK _ _ ?_; clear hK K
        refine Wc.cond (t := false) (by simp only [go_sem, ti3, ti9, ti4, ti35, ti22, ti23, ti24, ti26, ti32, ti34, ti45, ti53, ti55, ti57, ti64, hlen]; rfl) (fun hc => by cases hc) (fun _ => Wc.skip ?_)
        refine Wc.reg fun K hK => ?_; simp only [go_sem, ti3, ti9, ti4, ti35, ti22, ti23, ti24, ti26, ti32, ti34, ti45, ti53, ti55, ti57, ti64, hlen, h0, h1, h5, i64n i (by omega)]; refine hK _ _ ?_; clear hK K
        exact ⟨l.length - (i + 1), by omega, i + 1, rfl, by omega, rfl, by simp only [go_sem, ti3, ti9, ti4, ti35, ti22, ti23, ti24, ti26, ti32, ti34, ti45, ti53, ti55, ti57, ti64, hlen], by simp only [go_sem, ti3, ti9, ti4, ti35, ti22, ti23, ti24, ti26, ti32, ti34, ti45, ti53, ti55, ti57, ti64, hlen, h0], by simp only [go_sem, ti3, ti9, ti4, ti35, ti22, ti23, ti24, ti26, ti32, ti34, ti45, ti53, ti55, ti57, ti64, hlen, h1], by simp only [go_sem, ti3, ti9, ti4, ti35, ti22, ti23, ti24, ti26, ti32, ti34, ti45, ti53, ti55, ti57, ti64, hlen]⟩
      · have hd : ((i : Int) < (l.length : Int)) = False := by simp only [eq_iff_iff, iff_false]; omega
        refine Wc.reg fun K hK => ?_; simp only [go_sem, ti3, ti9, ti4, ti35, ti22, ti23, ti24, ti26, ti32, ti34, ti45, ti53, ti55, ti57, ti64, hlen, h0, h1, h5, hd]; refine hK _ _ ?_; clear hK K
        refine Wc.cond (t := false) (by simp only [go_sem, ti3, ti9, ti4, ti35, ti22, ti23, ti24, ti26, ti32, ti34, ti45, ti53, ti55, ti57, ti64, hlen, hd]) (fun hc => by cases hc) (fun _ => ?_)
        exact Wc.exit ⟨rfl, rfl, by simp only [go_sem, ti3, ti9, ti4, ti35, ti22, ti23, ti24, ti26, ti32, ti34, ti45, ti53, ti55, ti57, ti64, hlen], by simp only [go_sem, ti3, ti9, ti4, ti35, ti22, ti23, ti24, ti26, ti32, ti34, ti45, ti53, ti55, ti57, ti64, hlen, h0], by simp only [go_sem, ti3, ti9, ti4, ti35, ti22, ti23, ti24, ti26, ti32, ti34, ti45, ti53, ti55, ti57, ti64, hlen, h1]⟩
    · exact ⟨0, rfl, by omega, rfl, rfl, rfl, rfl, rfl⟩
  rintro ⟨e, ds, s1⟩ ⟨rfl, hlen, h0, h1⟩
  simp only at hlen h0 h1
  have hd : ((l.length : Int) < (l.length : Int)) = False := by simp
  refine Wc.seq (Wc.seq ?_)
  refine Wc.reg fun K hK => ?_; simp only [go_sem, ti3, ti9, ti4, ti35, ti22, ti23, ti24, ti26, ti32, ti34, ti45, ti53, ti55, ti57, ti64, hlen, h0, h1, hd]; refine hK _ _ ?_; clear hK K
  refine Wc.cond (t := false) (by simp only [go_sem, ti3, ti9, ti4, ti35, ti22, ti23, ti24, ti26, ti32, ti34, ti45, ti53, ti55, ti57, ti64, hlen, hd]) (fun hc => by cases hc) (fun _ => Wc.skip ?_)
  refine Wc.seq (Wc.seq ?_)
  refine Wc.reg fun K hK => ?_; simp only [go_sem, ti3, ti9, ti4, ti35, ti22, ti23, ti24, ti26, ti32, ti34, ti45, ti53, ti55, ti57, ti64, hlen, h0, h1, hd]; refine hK _ _ ?_; clear hK K
  refine Wc.cond (t := false) (by simp only [go_sem, ti3, ti9, ti4, ti35, ti22, ti23, ti24, ti26, ti32, ti34, ti45, ti53, ti55, ti57, ti64, hlen, hd]) (fun hc => by cases hc) (fun _ => Wc.skip ?_)
  refine Wc.seq ?_
  refine Wc.reg fun K hK => ?_; simp only [go_sem, ti3, ti9, ti4, ti35, ti22, ti23, ti24, ti26, ti32, ti34, ti45, ti53, ti55, ti57, ti64, hlen]; refine hK _ _ ?_; clear hK K
  exact Wc.ret (Pf.ret [.tmp 4] [.c (.p (pI 0))] rfl rfl (by simp only [resultsD, go_sem, ti3, ti9, ti4, ti35, ti22, ti23, ti24, ti26, ti32, ti34, ti45, ti53, ti55, ti57, ti64, hlen]) rfl)
/-- 36: Same, of equal labels -/
theorem pf36 (l : List Lb) (hl : l.length < 2^60) : Pf E0 36 [.c (.p (.lst l.length (l.flatMap lbP))), .c (.p (.lst l.length (l.flatMap lbP)))] (P' (.bool true)) := by
  refine Pf.body (fn := Tryz.f36) (by kernel_rfl) rfl ?_; simp only [List.map_cons, List.map_nil, List.cons_append, List.nil_append, List.length_cons, List.length_nil, Tryz.ntmps36, List.replicate, Nat.reduceSub, Nat.reduceAdd]
  refine Wc.seq ?_
  refine Wc.reg fun K hK => ?_; simp only [go_sem, ti3, ti9, ti4, ti35, ti22, ti23, ti24, ti26, ti32, ti34, ti45, ti53, ti55, ti57, ti64]; refine hK _ _ ?_; clear hK K
  refine Wc.seq ?_
  refine Wc.reg fun K hK => ?_; simp only [go_sem, ti3, ti9, ti4, ti35, ti22, ti23, ti24, ti26, ti32, ti34, ti45, ti53, ti55, ti57, ti64]
  refine wpCall.pf (pf77 l hl) (by kernel_rfl) (by kernel_rfl) rfl rfl ?_
  simp only [go_sem, ti3, ti9, ti4, ti35, ti22, ti23, ti24, ti26, ti32, ti34, ti45, ti53, ti55, ti57, ti64]; refine hK _ _ ?_; clear hK K
  exact Wc.ret (Pf.ret [.tmp 4] [.c (.p (.bool true))] rfl rfl (by simp only [resultsD, go_sem, ti3, ti9, ti4, ti35, ti22, ti23, ti24, ti26, ti32, ti34, ti45, ti53, ti55, ti57, ti64]; try rfl) rfl)
/-- 18: Great, of a histogram -/
theorem pf18 (h : Hst) : Pf E0 18 [.agg (h.pd.map .p)] (P' (.bool (decide (40 < h.bs.length)))) := by
  refine Pf.body (fn := Tryz.f18) (by kernel_rfl) rfl ?_; simp only [List.map_cons, List.map_nil, List.cons_append, List.nil_append, List.length_cons, List.length_nil, Tryz.ntmps18, List.replicate, Nat.reduceSub, Nat.reduceAdd]
  refine Wc.seq ?_
  refine Wc.reg fun K hK => ?_; simp only [go_sem, ti3, ti9, ti4, ti35, ti22, ti23, ti24, ti26, ti32, ti34, ti45, ti53, ti55, ti57, ti64]; refine hK _ _ ?_; clear hK K
  refine Wc.seq ?_
  refine Wc.reg fun K hK => ?_; simp only [go_sem, ti3, ti9, ti4, ti35, ti22, ti23, ti24, ti26, ti32, ti34, ti45, ti53, ti55, ti57, ti64]; refine hK _ _ ?_; clear hK K
  rw [show decide (40 < h.bs.length) = decide ((40 : Int) < h.bs.length) by rw [decide_eq_decide]; omega]
  exact Wc.ret (Pf.ret [.tmp 2] [.c (.p (.bool (decide ((40 : Int) < h.bs.length))))] rfl rfl (by simp only [resultsD, go_sem, ti3, ti9, ti4, ti35, ti22, ti23, ti24, ti26, ti32, ti34, ti45, ti53, ti55, ti57, ti64]) rfl)
def lbG (x : Lb) : Bool := decide (61 < x.1.length) || decide (201 < x.2.length)
def lbsG (l : List Lb) : Bool := l.any lbG || decide (17 < l.length)
/-- 19: Great, of labels -/
theorem pf19 (l : List Lb) (hl : l.length < 2^60) : Pf E0 19 [.c (.p (.lst l.length (l.flatMap lbP)))] (P' (.bool (lbsG l))) := by
  have hfl : (l.flatMap lbP).length = l.length * 2 := flat_len (k := 2) (fun _ => rfl) l
  refine Pf.body (fn := Tryz.f19) (by kernel_rfl) rfl ?_; simp only [List.map_cons, List.map_nil, List.cons_append, List.nil_append, List.length_cons, List.length_nil, Tryz.ntmps19, List.replicate, Nat.reduceSub, Nat.reduceAdd]
  refine Wc.seq ?_
  refine Wc.reg fun K hK => ?_; simp only [go_sem, ti3, ti9, ti4, ti35, ti22, ti23, ti24, ti26, ti32, ti34, ti45, ti53, ti55, ti57, ti64]; refine hK _ _ ?_; clear hK K
  refine Wc.seqR (fun y => l.any lbG = false ∧ y.ds = [] ∧ y.e.length = 29 ∧ y.e.getD 0 .junk = P' (.lst l.length (l.flatMap lbP))) ?_ ?_
  · refine Wc.seq ?_
    refine Wc.reg fun K hK => ?_; simp only [go_sem, ti3, ti9, ti4, ti35, ti22, ti23, ti24, ti26, ti32, ti34, ti45, ti53, ti55, ti57, ti64, Int.natCast_zero]; refine hK _ _ ?_; clear hK K
    refine Wc.block (Wc.loop (fun k y => ∃ i : Nat, k = l.length - i ∧ i ≤ l.length ∧ y.ds = [] ∧ y.e.length = 29 ∧ y.e.getD 0 .junk = P' (.lst l.length (l.flatMap lbP)) ∧ y.e.getD 3 .junk = P' (pI i) ∧ (l.take i).any lbG = false) ?_ (k := l.length) ?_)
    · rintro k ⟨e, ds, s1⟩ ⟨i, rfl, hi, rfl, hlen, h0, h3, hn⟩
      simp only at hlen h0 h3
      refine Wc.seq (Wc.seq ?_)
      refine Wc.reg fun K hK => ?_; simp only [go_sem, ti3, ti9, ti4, ti35, ti22, ti23, ti24, ti26, ti32, ti34, ti45, ti53, ti55, ti57, ti64, hlen, h0, h3]; refine hK _ _ ?_; clear hK K
      refine Wc.cond (t := decide ((i : Int) < l.length)) (by simp only [go_sem, ti3, ti9, ti4, ti35, ti22, ti23, ti24, ti26, ti32, ti34, ti45, ti53, ti55, ti57, ti64, hlen]) (fun hc => ?_) (fun hc => ?_)
      · have hil : i < l.length := by have h9 : (i : Int) < l.length := (by simpa using hc); omega
        obtain ⟨x, hx⟩ : ∃ x, l[i]? = some x := ⟨l[i], List.getElem?_eq_getElem hil⟩
        have hix := ixA ti22 rfl ti64 (j := i) (m := l.length) (cs := l.flatMap lbP) hil hfl (by decide)
        have hca := rpA (off := i * 2) (drop_flat (f := lbP) (k := 2) (fun _ => rfl) hx) (by rw [hfl]; omega)
        have hcc := rpA (off := i * 2 + 1) (cs := l.flatMap lbP) (pre := [.str x.2]) (rest := (l.drop (i + 1)).flatMap lbP) (by rw [← List.drop_drop, drop_flat (f := lbP) (k := 2) (fun _ => rfl) hx]; rfl) (by rw [hfl]; omega)
        have bad : lbG x = true → lbsG l = true := fun h => by
          unfold lbsG
          rw [List.any_eq_true.2 ⟨x, List.mem_of_getElem? hx, h⟩, Bool.true_or]
        refine Wc.skip (Wc.seq (Wc.block (Wc.seq ?_)))
        by_cases z1 : 61 < x.1.length
        · have f1 : ((61 : Int) < (x.1.length : Int)) = True := by simp only [eq_iff_iff, iff_true]; omega
          refine Wc.reg fun K hK => ?_; simp only [go_sem, ti3, ti9, ti4, ti35, ti22, ti23, ti24, ti26, ti32, ti34, ti45, ti53, ti55, ti57, ti64, hlen, h0, h3, hix, hca, f1]; refine hK _ _ ?_; clear hK K
          refine Wc.cond (t := true) (by simp only [go_sem, ti3, ti9, ti4, ti35, ti22, ti23, ti24, ti26, ti32, ti34, ti45, ti53, ti55, ti57, ti64, hlen]) (fun _ => ?_) (fun hc => by cases hc)
          refine Wc.seq ?_
          refine Wc.reg fun K hK => ?_; simp only [go_sem, ti3, ti9, ti4, ti35, ti22, ti23, ti24, ti26, ti32, ti34, ti45, ti53, ti55, ti57, ti64, hlen]; refine hK _ _ ?_; clear hK K
          rw [bad (by simp [lbG, z1])]
          exact Wc.ret (Pf.ret [.tmp 2] [.c (.p (.bool true))] rfl rfl (by simp only [resultsD, go_sem, ti3, ti9, ti4, ti35, ti22, ti23, ti24, ti26, ti32, ti34, ti45, ti53, ti55, ti57, ti64, hlen]) rfl)
        have f1 : ((61 : Int) < (x.1.length : Int)) = False := by simp only [eq_iff_iff, iff_false]; omega
        refine Wc.reg fun K hK => ?_; simp only [go_sem, ti3, ti9, ti4, ti35, ti22, ti23, ti24, ti26, ti32, ti34, ti45, ti53, ti55, ti57, ti64, hlen, h0, h3, hix, hca, hcc, f1]; refine hK _ _ ?_; clear hK K
        refine Wc.cond (t := decide ((201 : Int) < x.2.length)) (by simp only [go_sem, ti3, ti9, ti4, ti35, ti22, ti23, ti24, ti26, ti32, ti34, ti45, ti53, ti55, ti57, ti64, hlen]) (fun hc => ?_) (fun hc => ?_)
        · have z2 : (201 : Int) < x.2.length := of_decide_eq_true hc
          have z3 : 201 < x.2.length := by omega
          refine Wc.seq ?_
          refine Wc.reg fun K hK => ?_; simp only [go_sem, ti3, ti9, ti4, ti35, ti22, ti23, ti24, ti26, ti32, ti34, ti45, ti53, ti55, ti57, ti64, hlen]; refine hK _ _ ?_; clear hK K
          rw [bad (by simp [lbG, z3])]
          exact Wc.ret (Pf.ret [.tmp 2] [.c (.p (.bool true))] rfl rfl (by simp only [resultsD, go_sem, ti3, ti9, ti4, ti35, ti22, ti23, ti24, ti26, ti32, ti34, ti45, ti53, ti55, ti57, ti64, hlen]) rfl)
        · have z2 : ¬ (201 : Int) < x.2.length := of_decide_eq_false hc
          have z3 : ¬ 201 < x.2.length := by omega
          refine Wc.skip ?_
          refine Wc.reg fun K hK => ?_; simp only [go_sem, ti3, ti9, ti4, ti35, ti22, ti23, ti24, ti26, ti32, ti34, ti45, ti53, ti55, ti57, ti64, hlen, h0, h3, i64n i (by omega)]; refine hK _ _ ?_; clear hK K
          refine ⟨l.length - (i + 1), by omega, i + 1, rfl, by omega, rfl, by simp only [go_sem, ti3, ti9, ti4, ti35, ti22, ti23, ti24, ti26, ti32, ti34, ti45, ti53, ti55, ti57, ti64, hlen], by simp only [go_sem, ti3, ti9, ti4, ti35, ti22, ti23, ti24, ti26, ti32, ti34, ti45, ti53, ti55, ti57, ti64, hlen, h0], by simp only [go_sem, ti3, ti9, ti4, ti35, ti22, ti23, ti24, ti26, ti32, ti34, ti45, ti53, ti55, ti57, ti64, hlen], ?_⟩
          rw [take_snoc hx, List.any_append, hn]
          simp only [List.any_cons, List.any_nil, lbG, decide_eq_false z1, decide_eq_false z3, Bool.or_self]
      · have hil : i = l.length := by have h9 : ¬ (i : Int) < l.length := (by simpa using hc); omega
        subst hil
        rw [List.take_length] at hn
        exact Wc.exit ⟨hn, rfl, by simp only [go_sem, ti3, ti9, ti4, ti35, ti22, ti23, ti24, ti26, ti32, ti34, ti45, ti53, ti55, ti57, ti64, hlen], by simp only [go_sem, ti3, ti9, ti4, ti35, ti22, ti23, ti24, ti26, ti32, ti34, ti45, ti53, ti55, ti57, ti64, hlen, h0]⟩
    · exact ⟨0, rfl, by omega, rfl, rfl, rfl, rfl, rfl⟩
  rintro ⟨e, ds, s1⟩ ⟨hn, rfl, hlen, h0⟩
  simp only at hlen h0
  refine Wc.seq ?_
  refine Wc.reg fun K hK => ?_; simp only [go_sem, ti3, ti9, ti4, ti35, ti22, ti23, ti24, ti26, ti32, ti34, ti45, ti53, ti55, ti57, ti64, hlen, h0]; refine hK _ _ ?_; clear hK K
  have e1 : lbsG l = decide ((17 : Int) < l.length) := by unfold lbsG; rw [hn, Bool.false_or, decide_eq_decide]; omega
  rw [e1]
  exact Wc.ret (Pf.ret [.tmp 2] [.c (.p (.bool (decide ((17 : Int) < l.length))))] rfl rfl (by simp only [resultsD, go_sem, ti3, ti9, ti4, ti35, ti22, ti23, ti24, ti26, ti32, ti34, ti45, ti53, ti55, ti57, ti64, hlen]) rfl)
/-- 20: Great, of samples -/
theorem pf20 (l : List I2) : Pf E0 20 [.c (.p (.lst l.length (l.flatMap p2)))] (P' (.bool (decide (24 < l.length)))) := by
  refine Pf.body (fn := Tryz.f20) (by kernel_rfl) rfl ?_; simp only [List.map_cons, List.map_nil, List.cons_append, List.nil_append, List.length_cons, List.length_nil, Tryz.ntmps20, List.replicate, Nat.reduceSub, Nat.reduceAdd]
  refine Wc.seq ?_
  refine Wc.reg fun K hK => ?_; simp only [go_sem, ti3, ti9, ti4, ti35, ti22, ti23, ti24, ti26, ti32, ti34, ti45, ti53, ti55, ti57, ti64]; refine hK _ _ ?_; clear hK K
  refine Wc.seq ?_
  refine Wc.reg fun K hK => ?_; simp only [go_sem, ti3, ti9, ti4, ti35, ti22, ti23, ti24, ti26, ti32, ti34, ti45, ti53, ti55, ti57, ti64]; refine hK _ _ ?_; clear hK K
  rw [show decide (24 < l.length) = decide ((24 : Int) < l.length) by rw [decide_eq_decide]; omega]
  exact Wc.ret (Pf.ret [.tmp 2] [.c (.p (.bool (decide ((24 : Int) < l.length))))] rfl rfl (by simp only [resultsD, go_sem, ti3, ti9, ti4, ti35, ti22, ti23, ti24, ti26, ti32, ti34, ti45, ti53, ti55, ti57, ti64]) rfl)
def serG (x : Ser) : Bool := x.hs.any (fun y => decide (40 < y.h.bs.length)) || (lbsG x.lb || (decide (24 < x.sm.length) || decide (6 < x.hs.length)))
/-- 7: GreatSeries -/
theorem pf7 (x : Ser) (hh : x.hs.length < 2^60) (hlb : x.lb.length < 2^60) : Pf E0 7 [.agg (x.pd.map .p)] (P' (.bool (serG x))) := by
  have hfl : (x.hs.flatMap HSm.pd).length = x.hs.length * 7 := flat_len (k := 7) (fun _ => rfl) x.hs
  refine Pf.body (fn := Tryz.f7) (by kernel_rfl) rfl ?_; simp only [List.map_cons, List.map_nil, List.cons_append, List.nil_append, List.length_cons, List.length_nil, Tryz.ntmps7, List.replicate, Nat.reduceSub, Nat.reduceAdd]
  refine Wc.seq ?_
  refine Wc.reg fun K hK => ?_; simp only [go_sem, ti3, ti9, ti4, ti35, ti22, ti23, ti24, ti26, ti32, ti34, ti45, ti53, ti55, ti57, ti64]; refine hK _ _ ?_; clear hK K
  refine Wc.seqR (fun y => x.hs.any (fun y => decide (40 < y.h.bs.length)) = false ∧ y.ds = [] ∧ y.e.length = 32 ∧ y.e.getD 1 .junk = .v (.c (.ref 0 0)) ∧ y.s.get 0 = some (.cells (x.pd.map .p) false)) ?_ ?_
  · refine Wc.seq ?_
    refine Wc.reg fun K hK => ?_; simp only [go_sem, ti3, ti9, ti4, ti35, ti22, ti23, ti24, ti26, ti32, ti34, ti45, ti53, ti55, ti57, ti64, Int.natCast_zero]; refine hK _ _ ?_; clear hK K
    refine Wc.block (Wc.loop (fun k y => ∃ i : Nat, k = x.hs.length - i ∧ i ≤ x.hs.length ∧ y.ds = [] ∧ y.e.length = 32 ∧ y.e.getD 1 .junk = .v (.c (.ref 0 0)) ∧ y.e.getD 3 .junk = P' (pI i) ∧ y.s.get 0 = some (.cells (x.pd.map .p) false) ∧ (x.hs.take i).any (fun y => decide (40 < y.h.bs.length)) = false) ?_ (k := x.hs.length) ?_)
    · rintro k ⟨e, ds, s1⟩ ⟨i, rfl, hi, rfl, hlen, h1, h3, g0, hn⟩
      simp only at hlen h1 h3 g0
      have g0' := g0
      simp only [List.map_cons, List.map_nil] at g0
      refine Wc.seq (Wc.seq ?_)
      refine Wc.reg fun K hK => ?_; simp only [go_sem, ti3, ti9, ti4, ti35, ti22, ti23, ti24, ti26, ti32, ti34, ti45, ti53, ti55, ti57, ti64, hlen, h1, h3, g0]; refine hK _ _ ?_; clear hK K
      refine Wc.cond (t := decide ((i : Int) < x.hs.length)) (by simp only [go_sem, ti3, ti9, ti4, ti35, ti22, ti23, ti24, ti26, ti32, ti34, ti45, ti53, ti55, ti57, ti64, hlen]) (fun hc => ?_) (fun hc => ?_)
      · have hil : i < x.hs.length := by have h9 : (i : Int) < x.hs.length := (by simpa using hc); omega
        obtain ⟨u, hu⟩ : ∃ u, x.hs[i]? = some u := ⟨x.hs[i], List.getElem?_eq_getElem hil⟩
        have hix := ixA ti24 rfl ti57 (j := i) (m := x.hs.length) (cs := x.hs.flatMap HSm.pd) hil hfl (by decide)
        have hcc := rpA (off := i * 7 + 1) (cs := x.hs.flatMap HSm.pd) (pre := u.h.pd) (rest := (x.hs.drop (i + 1)).flatMap HSm.pd) (by rw [← List.drop_drop, drop_flat (f := HSm.pd) (k := 7) (fun _ => rfl) hu]; rfl) (by rw [hfl]; omega)
        refine Wc.skip (Wc.seq (Wc.block (Wc.seq ?_)))
        refine Wc.reg fun K hK => ?_; simp only [go_sem, ti3, ti9, ti4, ti35, ti22, ti23, ti24, ti26, ti32, ti34, ti45, ti53, ti55, ti57, ti64, hlen, h1, h3, g0, hix, hcc]
        refine wpCall.pf (pf18 u.h) (by kernel_rfl) (by kernel_rfl) rfl rfl ?_
        simp only [go_sem, ti3, ti9, ti4, ti35, ti22, ti23, ti24, ti26, ti32, ti34, ti45, ti53, ti55, ti57, ti64, hlen, h1, h3, g0, hix, hcc]; refine hK _ _ ?_; clear hK K
        refine Wc.cond (t := decide (40 < u.h.bs.length)) (by simp only [go_sem, ti3, ti9, ti4, ti35, ti22, ti23, ti24, ti26, ti32, ti34, ti45, ti53, ti55, ti57, ti64, hlen]) (fun hc => ?_) (fun hc => ?_)
        · have e1 : serG x = true := by
            unfold serG
            rw [List.any_eq_true.2 ⟨u, List.mem_of_getElem? hu, hc⟩, Bool.true_or]
          refine Wc.seq ?_
          refine Wc.reg fun K hK => ?_; simp only [go_sem, ti3, ti9, ti4, ti35, ti22, ti23, ti24, ti26, ti32, ti34, ti45, ti53, ti55, ti57, ti64, hlen]; refine hK _ _ ?_; clear hK K
          rw [e1]
          exact Wc.ret (Pf.ret [.tmp 2] [.c (.p (.bool true))] rfl rfl (by simp only [resultsD, go_sem, ti3, ti9, ti4, ti35, ti22, ti23, ti24, ti26, ti32, ti34, ti45, ti53, ti55, ti57, ti64, hlen]) rfl)
        · refine Wc.skip ?_
          refine Wc.reg fun K hK => ?_; simp only [go_sem, ti3, ti9, ti4, ti35, ti22, ti23, ti24, ti26, ti32, ti34, ti45, ti53, ti55, ti57, ti64, hlen, h1, h3, i64n i (by omega)]; refine hK _ _ ?_; clear hK K
          refine ⟨x.hs.length - (i + 1), by omega, i + 1, rfl, by omega, rfl, by simp only [go_sem, ti3, ti9, ti4, ti35, ti22, ti23, ti24, ti26, ti32, ti34, ti45, ti53, ti55, ti57, ti64, hlen], by simp only [go_sem, ti3, ti9, ti4, ti35, ti22, ti23, ti24, ti26, ti32, ti34, ti45, ti53, ti55, ti57, ti64, hlen, h1], by simp only [go_sem, ti3, ti9, ti4, ti35, ti22, ti23, ti24, ti26, ti32, ti34, ti45, ti53, ti55, ti57, ti64, hlen], g0', ?_⟩
          rw [take_snoc hu, List.any_append, hn]
          simp only [List.any_cons, List.any_nil, hc, Bool.or_self]
      · have hil : i = x.hs.length := by have h9 : ¬ (i : Int) < x.hs.length := (by simpa using hc); omega
        subst hil
        rw [List.take_length] at hn
        exact Wc.exit ⟨hn, rfl, by simp only [go_sem, ti3, ti9, ti4, ti35, ti22, ti23, ti24, ti26, ti32, ti34, ti45, ti53, ti55, ti57, ti64, hlen], by simp only [go_sem, ti3, ti9, ti4, ti35, ti22, ti23, ti24, ti26, ti32, ti34, ti45, ti53, ti55, ti57, ti64, hlen, h1], g0'⟩
    · exact ⟨0, rfl, by omega, rfl, rfl, rfl, rfl, by simp only [go_sem, ti3, ti9, ti4, ti35, ti22, ti23, ti24, ti26, ti32, ti34, ti45, ti53, ti55, ti57, ti64], rfl⟩
  rintro ⟨e, ds, s1⟩ ⟨hn, rfl, hlen, h1, g0⟩
  simp only at hlen h1 g0
  simp only [List.map_cons, List.map_nil] at g0
  have e1 : serG x = (lbsG x.lb || (decide (24 < x.sm.length) || decide (6 < x.hs.length))) := by unfold serG; rw [hn, Bool.false_or]
  rw [e1]
  refine Wc.seq ?_
  refine Wc.reg fun K hK => ?_; simp only [go_sem, ti3, ti9, ti4, ti35, ti22, ti23, ti24, ti26, ti32, ti34, ti45, ti53, ti55, ti57, ti64, hlen, h1, g0]
  refine wpCall.pf (pf19 x.lb hlb) (by kernel_rfl) (by kernel_rfl) rfl rfl ?_
  cases z1 : lbsG x.lb with
  | true =>
    simp only [go_sem, ti3, ti9, ti4, ti35, ti22, ti23, ti24, ti26, ti32, ti34, ti45, ti53, ti55, ti57, ti64, hlen, h1, g0, z1]; refine hK _ _ ?_; clear hK K
    try rw [z1]
    rw [Bool.true_or]
    exact Wc.ret (Pf.ret [.tmp 2] [.c (.p (.bool true))] rfl rfl (by simp only [resultsD, go_sem, ti3, ti9, ti4, ti35, ti22, ti23, ti24, ti26, ti32, ti34, ti45, ti53, ti55, ti57, ti64, hlen]) rfl)
  | false =>
    simp only [go_sem, ti3, ti9, ti4, ti35, ti22, ti23, ti24, ti26, ti32, ti34, ti45, ti53, ti55, ti57, ti64, hlen, h1, g0, z1]
    refine wpCall.pf (pf20 x.sm) (by kernel_rfl) (by kernel_rfl) rfl rfl ?_
    cases z2 : decide (24 < x.sm.length) with
    | true =>
      simp only [go_sem, ti3, ti9, ti4, ti35, ti22, ti23, ti24, ti26, ti32, ti34, ti45, ti53, ti55, ti57, ti64, hlen, h1, g0, z1, z2]; refine hK _ _ ?_; clear hK K
      try rw [z1]
      try rw [z2]
      rw [Bool.false_or, Bool.true_or]
      exact Wc.ret (Pf.ret [.tmp 2] [.c (.p (.bool true))] rfl rfl (by simp only [resultsD, go_sem, ti3, ti9, ti4, ti35, ti22, ti23, ti24, ti26, ti32, ti34, ti45, ti53, ti55, ti57, ti64, hlen]) rfl)
    | false =>
      simp only [go_sem, ti3, ti9, ti4, ti35, ti22, ti23, ti24, ti26, ti32, ti34, ti45, ti53, ti55, ti57, ti64, hlen, h1, g0, z1, z2]; refine hK _ _ ?_; clear hK K
      try rw [z1]
      try rw [z2]
      rw [Bool.false_or, Bool.false_or, show decide (6 < x.hs.length) = decide ((6 : Int) < x.hs.length) by rw [decide_eq_decide]; omega]
      exact Wc.ret (Pf.ret [.tmp 2] [.c (.p (.bool (decide ((6 : Int) < x.hs.length))))] rfl rfl (by simp only [resultsD, go_sem, ti3, ti9, ti4, ti35, ti22, ti23, ti24, ti26, ti32, ti34, ti45, ti53, ti55, ti57, ti64, hlen]) rfl)
theorem serG_sz {x : Ser} (h : serG x = false) : x.Sz := by
  simp only [serG, lbsG, Bool.or_eq_false_iff, decide_eq_false_iff_not] at h
  obtain ⟨h1, ⟨h2, h3⟩, h4, h5⟩ := h
  rw [List.any_eq_false] at h1 h2
  refine ⟨by omega, fun y hy => ?_, by omega, by omega, fun y hy => ?_⟩
  · have := h2 y hy
    simp only [lbG, Bool.or_eq_true, decide_eq_true_eq] at this
    omega
  · have := h1 y hy
    simp only [decide_eq_true_eq] at this
    omega
theorem thenD_ret {K : Fr → Prop} {Q : Ex → Fr → Prop} {y : Fr} (h : Q .ret y) : thenD K Q .ret y := h
end Go.Proofs.YtafaoldmemcigaaGreat.Ab
namespace Go.Proofs.YtafaoldmemcigaaGreat.Ab
set_option maxHeartbeats 8000000
set_option maxRecDepth 10000
set_option linter.unusedSimpArgs false
set_option linter.unusedVariables false
theorem splitN_len : ∀ {n : Nat} {s : List UInt8} {ss : List (List UInt8)}, splitN n s = some ss → ss.length = n
  | 0, s, ss, h => by
    rw [splitN] at h
    split at h
    · cases h; rfl
    · cases h
  | n + 1, s, ss, h => by
    rw [splitN] at h
    split at h
    · cases h
    · split at h
      · cases h
      · cases hr : splitN n (s.drop ((rdV s).2.1 + (rdV s).1.toNat)) with
        | none => rw [hr] at h; cases h
        | some r => rw [hr] at h; cases h; rw [List.length_cons, splitN_len hr]
theorem splitN_le : ∀ {n : Nat} {s : List UInt8} {ss : List (List UInt8)}, splitN n s = some ss → ∀ x ∈ ss, x.length ≤ s.length
  | 0, s, ss, h => by
    rw [splitN] at h
    split at h
    · cases h; intro x hx; cases hx
    · cases h
  | n + 1, s, ss, h => by
    rw [splitN] at h
    split at h
    · cases h
    · split at h
      · cases h
      · cases hr : splitN n (s.drop ((rdV s).2.1 + (rdV s).1.toNat)) with
        | none => rw [hr] at h; cases h
        | some r =>
          rw [hr] at h; cases h
          intro x hx
          rcases List.mem_cons.1 hx with rfl | hx
          · simp; omega
          · have := splitN_le hr x hx
            rw [List.length_drop] at this
            omega
/-- What parse returns. -/
def parR (o : Option Ser) (D : D) : Prop := match o with
  | none => ∃ p0 p1 p2 p3 : Pd, D = .tup [.agg [.p p0, .p p1, .p p2, .p p3], .c (.p (.bool false))]
  | some x => D = .tup [.agg (x.pd.map .p), .c (.p (.bool true))]
/-- 37: parse -/
theorem pf37 (sig : Int) (lb : List Lb) (z : Zo) (d : List UInt8) (hd : d.length < 2^40) : ∃ D, Pf E0 37 [chV sig (.lst lb.length (lb.flatMap lbP)) z.pd d] D ∧ parR (parseS lb d) D := by
  refine Pf.bodyE (fn := Tryz.f37) (by kernel_rfl) rfl ?_; simp only [List.map_cons, List.map_nil, List.cons_append, List.nil_append, List.length_cons, List.length_nil, Tryz.ntmps37, List.replicate, Nat.reduceSub, Nat.reduceAdd]
  have p78 := pf78 d
  obtain ⟨b1, b2, b3, b4⟩ := rdV_le d
  generalize hR : parseS lb d = R
  unfold parseS at hR
  generalize (rdV d).1 = kk at *
  generalize (rdV d).2.1 = sz at *
  generalize (rdV d).2.2 = er at *
  have c1 : ((sz : Int) ≤ (d.length : Int)) = True := by simp; omega
  refine Wc.seq ?_
  refine Wc.reg fun K hK => ?_; simp only [go_sem, ti3, ti9, ti4, ti35, ti22, ti23, ti24, ti26, ti32, ti34, ti45, ti48, ti53, ti55, ti57, ti64]; refine hK _ _ ?_; clear hK K
  refine Wc.seq ?_
  refine Wc.reg fun K hK => ?_; simp only [go_sem, ti3, ti9, ti4, ti35, ti22, ti23, ti24, ti26, ti32, ti34, ti45, ti48, ti53, ti55, ti57, ti64]
  refine wpCall.pf p78 (by kernel_rfl) (by kernel_rfl) rfl rfl ?_
  simp only [go_sem, ti3, ti9, ti4, ti35, ti22, ti23, ti24, ti26, ti32, ti34, ti45, ti48, ti53, ti55, ti57, ti64]; refine hK _ _ ?_; clear hK K
  refine Wc.seqR (fun y => ¬ (er ≠ 0 ∨ 262144 < d.length) ∧ y.ds = [] ∧ Fs y.e 73 [(1, .v (.c (.ref 0 0))), (2, .v (.c (.ref 1 0))), (4, P' (pI kk)), (5, P' (pI sz))] ∧ OA y.s.nx y.s [] [(1, .cells [.nils, .p (pI 0), .nils, .nils] false), (0, .cells ([.p (pI sig), .p (.lst lb.length (lb.flatMap lbP))] ++ z.pd.map .p ++ [.p (.str d)]) false)]) ?_ ?_
  · refine Wc.seq ?_
    by_cases he : er = 0
    · have d0 : (er != 0) = false := by simpa using he
      refine Wc.reg fun K hK => ?_; simp only [go_sem, ti3, ti9, ti4, ti35, ti22, ti23, ti24, ti26, ti32, ti34, ti45, ti48, ti53, ti55, ti57, ti64, d0]; refine hK _ _ ?_; clear hK K
      refine Wc.cond (t := decide ((262144 : Int) < d.length)) (by simp only [go_sem, ti3, ti9, ti4, ti35, ti22, ti23, ti24, ti26, ti32, ti34, ti45, ti48, ti53, ti55, ti57, ti64]) (fun hc => ?_) (fun hc => ?_)
      · have hbig : 262144 < d.length := by have := of_decide_eq_true hc; omega
        rw [if_pos (.inr hbig)] at hR
        subst hR
        refine Wc.seq ?_
        refine Wc.reg fun K hK => ?_; simp only [go_sem, ti3, ti9, ti4, ti35, ti22, ti23, ti24, ti26, ti32, ti34, ti45, ti48, ti53, ti55, ti57, ti64]; refine hK _ _ ?_; clear hK K
        exact Wc.ret (Pf.retE [.cell 2 26, .tmp 3] [.agg [.nils, .p (pI 0), .nils, .nils], .c (.p (.bool false))] rfl rfl (by simp only [resultsD, go_sem, ti3, ti9, ti4, ti35, ti22, ti23, ti24, ti26, ti32, ti34, ti45, ti48, ti53, ti55, ti57, ti64]) rfl ⟨_, _, _, _, rfl⟩)
      · have hbig : ¬ 262144 < d.length := by have := of_decide_eq_false hc; omega
        refine Wc.skip ⟨by rintro (h | h) <;> contradiction, rfl, by simp only [Fs, Int.natCast_zero, go_sem, ti3, ti9, ti4, ti35, ti22, ti23, ti24, ti26, ti32, ti34, ti45, ti48, ti53, ti55, ti57, ti64], by simp only [St.nx_put, St.nx_adv]; repeat (first | exact OA.mono s00_oa (by omega) | refine OA.newB ?_ (by omega) rfl | refine OA.advB ?_)⟩
    · have d0 : (er != 0) = true := by simpa using he
      rw [if_pos (.inl he)] at hR
      subst hR
      refine Wc.reg fun K hK => ?_; simp only [go_sem, ti3, ti9, ti4, ti35, ti22, ti23, ti24, ti26, ti32, ti34, ti45, ti48, ti53, ti55, ti57, ti64, d0]; refine hK _ _ ?_; clear hK K
      refine Wc.cond (t := true) (by simp only [go_sem, ti3, ti9, ti4, ti35, ti22, ti23, ti24, ti26, ti32, ti34, ti45, ti48, ti53, ti55, ti57, ti64]) (fun _ => ?_) (fun hc => by cases hc)
      refine Wc.seq ?_
      refine Wc.reg fun K hK => ?_; simp only [go_sem, ti3, ti9, ti4, ti35, ti22, ti23, ti24, ti26, ti32, ti34, ti45, ti48, ti53, ti55, ti57, ti64]; refine hK _ _ ?_; clear hK K
      exact Wc.ret (Pf.retE [.cell 2 26, .tmp 3] [.agg [.nils, .p (pI 0), .nils, .nils], .c (.p (.bool false))] rfl rfl (by simp only [resultsD, go_sem, ti3, ti9, ti4, ti35, ti22, ti23, ti24, ti26, ti32, ti34, ti45, ti48, ti53, ti55, ti57, ti64]) rfl ⟨_, _, _, _, rfl⟩)
  rintro ⟨e, ds, s1⟩ ⟨hgood, rfl, hF, ho⟩
  simp only [Fs] at hF ho
  rw [if_neg hgood] at hR
  have g1 := ho.at_ (1, .cells [.nils, .p (pI 0), .nils, .nils] false) (by simp)
  have g0 := ho.at_ (0, .cells ([.p (pI sig), .p (.lst lb.length (lb.flatMap lbP))] ++ z.pd.map .p ++ [.p (.str d)]) false) (by simp)
  simp only [List.map_cons, List.map_nil, List.cons_append, List.nil_append] at g0 g1
  refine Wc.seqA (fun y => ∃ k7, y.ds = [] ∧ Fs y.e 73 [(1, .v (.c (.ref 0 0))), (2, .v (.c (.ref 1 0))), (4, P' (pI kk)), (5, P' (pI sz)), (7, .v (.c (.ref k7 0)))] ∧ OA y.s.nx y.s [] [(k7, .cells [.p (.lst lb.length (lb.flatMap lbP)), .p (pI kk), .nils, .nils] false), (1, .cells [.nils, .p (pI 0), .nils, .nils] false), (0, .cells ([.p (pI sig), .p (.lst lb.length (lb.flatMap lbP))] ++ z.pd.map .p ++ [.p (.str d)]) false)]) ?_ ?_
  · refine Wc.reg fun K hK => ?_; simp only [go_sem, ti3, ti9, ti4, ti35, ti22, ti23, ti24, ti26, ti32, ti34, ti45, ti48, ti53, ti55, ti57, ti64, hF, g0]; refine hK _ _ ?_; clear hK K
    exact ⟨rfl, s1.nx + 4, rfl, by simp only [Fs, Int.natCast_zero, go_sem, ti3, ti9, ti4, ti35, ti22, ti23, ti24, ti26, ti32, ti34, ti45, ti48, ti53, ti55, ti57, ti64, hF], by simp only [St.nx_put, St.nx_adv]; repeat (first | exact OA.mono ho (by omega) | refine OA.newB ?_ (by omega) rfl | refine OA.advB ?_)⟩
  clear hF ho g0 g1 e s1
  rintro ⟨e, ds, s1⟩ ⟨k7, rfl, hF, ho⟩
  simp only [Fs] at hF ho
  have g7 := ho.at_ (k7, .cells [.p (.lst lb.length (lb.flatMap lbP)), .p (pI kk), .nils, .nils] false) (by simp)
  have g1 := ho.at_ (1, .cells [.nils, .p (pI 0), .nils, .nils] false) (by simp)
  have g0 := ho.at_ (0, .cells ([.p (pI sig), .p (.lst lb.length (lb.flatMap lbP))] ++ z.pd.map .p ++ [.p (.str d)]) false) (by simp)
  have n71 : (k7 = 1) = False := by
    have := ho.dism
    simp only [List.pairwise_cons, List.mem_cons] at this
    have := this.1 (1, .cells [.nils, .p (pI 0), .nils, .nils] false) (.inl rfl)
    simpa using this
  simp only [List.map_cons, List.map_nil, List.cons_append, List.nil_append] at g0 g1 g7
  have hdl : (d.drop sz).length < 2^60 := by rw [List.length_drop]; omega
  refine Wc.seq (Wc.seq ?_)
  refine Wc.reg fun K hK => ?_; simp only [go_sem, ti3, ti9, ti4, ti35, ti22, ti23, ti24, ti26, ti32, ti34, ti45, ti48, ti53, ti55, ti57, ti64, hF]; refine hK _ _ ?_; clear hK K
  refine Wc.cond (t := (kk == 3)) (by simp only [go_sem, ti3, ti9, ti4, ti35, ti22, ti23, ti24, ti26, ti32, ti34, ti45, ti48, ti53, ti55, ti57, ti64, hF]) (fun hc => ?_) (fun hc => ?_)
  · have h3 : kk = 3 := by simpa using hc
    rw [if_pos h3] at hR
    obtain ⟨D9, p79, l, rfl, hl⟩ := pf79 (d.drop sz) 9 hdl (by decide)
    cases hs : splitN 9 (d.drop sz) with
    | none =>
      rw [hs] at hR p79
      simp only at hR
      subst hR
      refine Wc.seq ?_
      refine Wc.reg fun K hK => ?_; simp only [go_sem, ti3, ti9, ti4, ti35, ti22, ti23, ti24, ti26, ti32, ti34, ti45, ti48, ti53, ti55, ti57, ti64, hF, g0, c1, slice_from, Int.le_refl]
      refine wpCall.pf p79 (by kernel_rfl) (by kernel_rfl) rfl rfl ?_
      simp only [go_sem, ti3, ti9, ti4, ti35, ti22, ti23, ti24, ti26, ti32, ti34, ti45, ti48, ti53, ti55, ti57, ti64, hF]; refine hK _ _ ?_; clear hK K
      refine Wc.seq (Wc.seq ?_)
      refine Wc.reg fun K hK => ?_; simp only [go_sem, ti3, ti9, ti4, ti35, ti22, ti23, ti24, ti26, ti32, ti34, ti45, ti48, ti53, ti55, ti57, ti64, hF]; refine hK _ _ ?_; clear hK K
      refine Wc.cond (t := true) (by simp only [go_sem, ti3, ti9, ti4, ti35, ti22, ti23, ti24, ti26, ti32, ti34, ti45, ti48, ti53, ti55, ti57, ti64, hF, Option.isSome_none]) (fun _ => ?_) (fun hc => by cases hc)
      refine Wc.seq ?_
      refine Wc.reg fun K hK => ?_; simp only [go_sem, ti3, ti9, ti4, ti35, ti22, ti23, ti24, ti26, ti32, ti34, ti45, ti48, ti53, ti55, ti57, ti64, hF, g1]; refine hK _ _ ?_; clear hK K
      refine Wc.ret ?_
      refine (show bodyQ E0 Tryz.f37 _ .ret _ from Pf.retE [.cell 2 26, .tmp 3] [.agg [.nils, .p (pI 0), .nils, .nils], .c (.p (.bool false))] rfl rfl (by simp only [resultsD, go_sem, ti3, ti9, ti4, ti35, ti22, ti23, ti24, ti26, ti32, ti34, ti45, ti48, ti53, ti55, ti57, ti64, hF]) rfl ⟨_, _, _, _, rfl⟩)
    | some ss =>
      have hll := hl ss hs
      subst hll
      have hlen := splitN_len hs
      have hle := splitN_le hs
      rw [hs] at hR p79
      simp only at hR
      match l, hlen, hle, hR, p79 with
      | [c0, c1', c2, c3, c4, c5, c6, c7, c8], _, hle, hR, p79 =>
      obtain ⟨D8, p80, l, rfl, hl8⟩ := pf80 c0 c1' c2 c3 c4 c5 c6 c7 c8 (fun x hx => by have := hle x hx; rw [List.length_drop] at this; omega)
      refine Wc.seq ?_
      refine Wc.reg fun K hK => ?_; simp only [go_sem, ti3, ti9, ti4, ti35, ti22, ti23, ti24, ti26, ti32, ti34, ti45, ti48, ti53, ti55, ti57, ti64, hF, g0, c1, slice_from, Int.le_refl]
      refine wpCall.pf p79 (by kernel_rfl) (by kernel_rfl) rfl rfl ?_
      simp only [go_sem, ti3, ti9, ti4, ti35, ti22, ti23, ti24, ti26, ti32, ti34, ti45, ti48, ti53, ti55, ti57, ti64, hF]; refine hK _ _ ?_; clear hK K
      refine Wc.seq (Wc.seq ?_)
      refine Wc.reg fun K hK => ?_; simp only [go_sem, ti3, ti9, ti4, ti35, ti22, ti23, ti24, ti26, ti32, ti34, ti45, ti48, ti53, ti55, ti57, ti64, hF]; refine hK _ _ ?_; clear hK K
      refine Wc.cond (t := false) (by simp only [go_sem, ti3, ti9, ti4, ti35, ti22, ti23, ti24, ti26, ti32, ti34, ti45, ti48, ti53, ti55, ti57, ti64, hF, Option.isSome_some]) (fun hc => by cases hc) (fun _ => Wc.skip ?_)
      refine Wc.seq ?_
      refine Wc.reg fun K hK => ?_; simp only [go_sem, ti3, ti9, ti4, ti35, ti22, ti23, ti24, ti26, ti32, ti34, ti45, ti48, ti53, ti55, ti57, ti64, hF, g7]
      refine wpCall.pf p80 (by kernel_rfl) (by kernel_rfl) rfl rfl ?_
      simp only [go_sem, ti3, ti9, ti4, ti35, ti22, ti23, ti24, ti26, ti32, ti34, ti45, ti48, ti53, ti55, ti57, ti64, hF, g7]; refine hK _ _ ?_; clear hK K
      refine Wc.seq ?_
      refine Wc.reg fun K hK => ?_; simp only [go_sem, ti3, ti9, ti4, ti35, ti22, ti23, ti24, ti26, ti32, ti34, ti45, ti48, ti53, ti55, ti57, ti64, hF, g1, g7, n71]; refine hK _ _ ?_; clear hK K
      refine Wc.ret (thenD_ret ?_)
      cases hu : unpH [c0, c1', c2, c3, c4, c5, c6, c7, c8] with
      | none =>
        rw [hu] at hR
        subst hR
        exact Pf.retE [.cell 2 26, .tmp 3] [.agg [.p (.lst lb.length (lb.flatMap lbP)), .p (pI kk), .nils, .p (.lst l.length (l.flatMap HSm.pd))], .c (.p (.bool false))] rfl rfl (by simp only [resultsD, go_sem, ti3, ti9, ti4, ti35, ti22, ti23, ti24, ti26, ti32, ti34, ti45, ti48, ti53, ti55, ti57, ti64, hF, n71, hu, Option.isSome_none]) rfl ⟨_, _, _, _, rfl⟩
      | some x =>
        rw [hu] at hR
        have hlx := hl8 x hu
        subst hlx
        subst hR
        exact Pf.retE [.cell 2 26, .tmp 3] [.agg [.p (.lst lb.length (lb.flatMap lbP)), .p (pI kk), .nils, .p (.lst l.length (l.flatMap HSm.pd))], .c (.p (.bool true))] rfl rfl (by simp only [resultsD, go_sem, ti3, ti9, ti4, ti35, ti22, ti23, ti24, ti26, ti32, ti34, ti45, ti48, ti53, ti55, ti57, ti64, hF, n71, hu, Option.isSome_some]) rfl rfl
  · have h3 : ¬ kk = 3 := by simpa using hc
    rw [if_neg h3] at hR
    refine Wc.skip ?_
    obtain ⟨D9, p79, l, rfl, hl⟩ := pf79 (d.drop sz) 2 hdl (by decide)
    cases hs : splitN 2 (d.drop sz) with
    | none =>
      rw [hs] at hR p79
      simp only at hR
      subst hR
      refine Wc.seq ?_
      refine Wc.reg fun K hK => ?_; simp only [go_sem, ti3, ti9, ti4, ti35, ti22, ti23, ti24, ti26, ti32, ti34, ti45, ti48, ti53, ti55, ti57, ti64, hF, g0, c1, slice_from, Int.le_refl]
      refine wpCall.pf p79 (by kernel_rfl) (by kernel_rfl) rfl rfl ?_
      simp only [go_sem, ti3, ti9, ti4, ti35, ti22, ti23, ti24, ti26, ti32, ti34, ti45, ti48, ti53, ti55, ti57, ti64, hF]; refine hK _ _ ?_; clear hK K
      refine Wc.seq (Wc.seq ?_)
      refine Wc.reg fun K hK => ?_; simp only [go_sem, ti3, ti9, ti4, ti35, ti22, ti23, ti24, ti26, ti32, ti34, ti45, ti48, ti53, ti55, ti57, ti64, hF]; refine hK _ _ ?_; clear hK K
      refine Wc.cond (t := true) (by simp only [go_sem, ti3, ti9, ti4, ti35, ti22, ti23, ti24, ti26, ti32, ti34, ti45, ti48, ti53, ti55, ti57, ti64, hF, Option.isSome_none]) (fun _ => ?_) (fun hc => by cases hc)
      refine Wc.seq ?_
      refine Wc.reg fun K hK => ?_; simp only [go_sem, ti3, ti9, ti4, ti35, ti22, ti23, ti24, ti26, ti32, ti34, ti45, ti48, ti53, ti55, ti57, ti64, hF, g1]; refine hK _ _ ?_; clear hK K
      refine Wc.ret ?_
      refine (show bodyQ E0 Tryz.f37 _ .ret _ from Pf.retE [.cell 2 26, .tmp 3] [.agg [.nils, .p (pI 0), .nils, .nils], .c (.p (.bool false))] rfl rfl (by simp only [resultsD, go_sem, ti3, ti9, ti4, ti35, ti22, ti23, ti24, ti26, ti32, ti34, ti45, ti48, ti53, ti55, ti57, ti64, hF]) rfl ⟨_, _, _, _, rfl⟩)
    | some ss =>
      have hll := hl ss hs
      subst hll
      have hlen := splitN_len hs
      have hle := splitN_le hs
      rw [hs] at hR p79
      simp only at hR
      have p81 := pf81 l hlen (fun x hx => by have := hle x hx; rw [List.length_drop] at this; omega)
      refine Wc.seq ?_
      refine Wc.reg fun K hK => ?_; simp only [go_sem, ti3, ti9, ti4, ti35, ti22, ti23, ti24, ti26, ti32, ti34, ti45, ti48, ti53, ti55, ti57, ti64, hF, g0, c1, slice_from, Int.le_refl]
      refine wpCall.pf p79 (by kernel_rfl) (by kernel_rfl) rfl rfl ?_
      simp only [go_sem, ti3, ti9, ti4, ti35, ti22, ti23, ti24, ti26, ti32, ti34, ti45, ti48, ti53, ti55, ti57, ti64, hF]; refine hK _ _ ?_; clear hK K
      refine Wc.seq (Wc.seq ?_)
      refine Wc.reg fun K hK => ?_; simp only [go_sem, ti3, ti9, ti4, ti35, ti22, ti23, ti24, ti26, ti32, ti34, ti45, ti48, ti53, ti55, ti57, ti64, hF]; refine hK _ _ ?_; clear hK K
      refine Wc.cond (t := false) (by simp only [go_sem, ti3, ti9, ti4, ti35, ti22, ti23, ti24, ti26, ti32, ti34, ti45, ti48, ti53, ti55, ti57, ti64, hF, Option.isSome_some]) (fun hc => by cases hc) (fun _ => Wc.skip ?_)
      refine Wc.seq ?_
      cases hu : unpk (0, 0) smpR l with
      | none =>
        rw [hu] at hR p81
        subst hR
        refine Wc.reg fun K hK => ?_; simp only [go_sem, ti3, ti9, ti4, ti35, ti22, ti23, ti24, ti26, ti32, ti34, ti45, ti48, ti53, ti55, ti57, ti64, hF, g7]
        refine wpCall.pf pf25 (by kernel_rfl) (by kernel_rfl) rfl rfl ?_
        simp only [go_sem, ti3, ti9, ti4, ti35, ti22, ti23, ti24, ti26, ti32, ti34, ti45, ti48, ti53, ti55, ti57, ti64, hF, g7]
        refine wpCall.pf p81 (by kernel_rfl) (by kernel_rfl) rfl rfl ?_
        simp only [unpR]
        simp only [go_sem, ti3, ti9, ti4, ti35, ti22, ti23, ti24, ti26, ti32, ti34, ti45, ti48, ti53, ti55, ti57, ti64, hF, g7]; refine hK _ _ ?_; clear hK K
        refine Wc.seq ?_
        refine Wc.reg fun K hK => ?_; simp only [go_sem, ti3, ti9, ti4, ti35, ti22, ti23, ti24, ti26, ti32, ti34, ti45, ti48, ti53, ti55, ti57, ti64, hF, g1, g7, n71]; refine hK _ _ ?_; clear hK K
        refine Wc.ret ?_
        refine (show bodyQ E0 Tryz.f37 _ .ret _ from ?_)
        exact Pf.retE [.cell 2 26, .tmp 3] [.agg [.p (.lst lb.length (lb.flatMap lbP)), .p (pI kk), .p (.lst 0 []), .nils], .c (.p (.bool false))] rfl rfl (by simp only [resultsD, go_sem, ti3, ti9, ti4, ti35, ti22, ti23, ti24, ti26, ti32, ti34, ti45, ti48, ti53, ti55, ti57, ti64, hF, n71]) rfl ⟨_, _, _, _, rfl⟩
      | some x =>
        rw [hu] at hR p81
        subst hR
        refine Wc.reg fun K hK => ?_; simp only [go_sem, ti3, ti9, ti4, ti35, ti22, ti23, ti24, ti26, ti32, ti34, ti45, ti48, ti53, ti55, ti57, ti64, hF, g7]
        refine wpCall.pf pf25 (by kernel_rfl) (by kernel_rfl) rfl rfl ?_
        simp only [go_sem, ti3, ti9, ti4, ti35, ti22, ti23, ti24, ti26, ti32, ti34, ti45, ti48, ti53, ti55, ti57, ti64, hF, g7]
        refine wpCall.pf p81 (by kernel_rfl) (by kernel_rfl) rfl rfl ?_
        simp only [unpR]
        simp only [go_sem, ti3, ti9, ti4, ti35, ti22, ti23, ti24, ti26, ti32, ti34, ti45, ti48, ti53, ti55, ti57, ti64, hF, g7]; refine hK _ _ ?_; clear hK K
        refine Wc.seq ?_
        refine Wc.reg fun K hK => ?_; simp only [go_sem, ti3, ti9, ti4, ti35, ti22, ti23, ti24, ti26, ti32, ti34, ti45, ti48, ti53, ti55, ti57, ti64, hF, g1, g7, n71]; refine hK _ _ ?_; clear hK K
        refine Wc.ret ?_
        refine (show bodyQ E0 Tryz.f37 _ .ret _ from ?_)
        exact Pf.retE [.cell 2 26, .tmp 3] [.agg [.p (.lst lb.length (lb.flatMap lbP)), .p (pI kk), .p (.lst x.length (x.flatMap p2)), .nils], .c (.p (.bool true))] rfl rfl (by simp only [resultsD, go_sem, ti3, ti9, ti4, ti35, ti22, ti23, ti24, ti26, ti32, ti34, ti45, ti48, ti53, ti55, ti57, ti64, hF, n71]) rfl rfl
end Go.Proofs.YtafaoldmemcigaaGreat.Ab
