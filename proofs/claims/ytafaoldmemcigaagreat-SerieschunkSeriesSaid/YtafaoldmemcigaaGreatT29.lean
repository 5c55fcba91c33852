/- A part of the proof: an evaluator of the code, its contracts, the law. No condition. -/
import Derived.Test.YtafaoldmemcigaaGreatT28
import Derived.Test.YtafaoldmemcigaaGreatT12
namespace Go.Proofs.YtafaoldmemcigaaGreat.Ab
set_option maxHeartbeats 8000000
set_option maxRecDepth 10000
set_option linter.unusedSimpArgs false
set_option linter.unusedVariables false
theorem less_irr : ∀ s : List UInt8, Op.bytesLess s s = false
  | [] => rfl
  | a :: r => by
    simp only [Op.bytesLess, less_irr r, Bool.and_false, Bool.or_false, decide_eq_false_iff_not]
    exact UInt8.lt_irrefl a
theorem o115 : E0.opn 115 = false := by kernel_rfl
theorem x115 : E0.xt 115 = none := by kernel_rfl
/-- 115: Text, of equal texts -/
theorem pf115 (s : List UInt8) : Pf E0 115 [.c (.p (.str s)), .c (.p (.str s))] (P' (pI 0)) := by
  have h := less_irr s
  refine Pf.body (fn := Tryz.f115) (by kernel_rfl) rfl ?_; simp only [List.map_cons, List.map_nil, List.cons_append, List.nil_append, List.length_cons, List.length_nil, Tryz.ntmps115, List.replicate, Nat.reduceSub, Nat.reduceAdd]
  refine Wc.seq ?_
  refine Wc.reg fun K hK => ?_; simp only [go_sem, ti3, ti9, ti4, ti35, ti22, ti23, ti24, ti26, ti32, ti34, ti45, ti53, ti55, ti57, ti64]; refine hK _ _ ?_; clear hK K
  refine Wc.seq (Wc.seq ?_)
  refine Wc.reg fun K hK => ?_; simp only [go_sem, ti3, ti9, ti4, ti35, ti22, ti23, ti24, ti26, ti32, ti34, ti45, ti53, ti55, ti57, ti64, h]; refine hK _ _ ?_; clear hK K
  refine Wc.cond (t := false) (by simp only [go_sem, ti3, ti9, ti4, ti35, ti22, ti23, ti24, ti26, ti32, ti34, ti45, ti53, ti55, ti57, ti64, h]) (fun hc => by cases hc) (fun _ => Wc.skip ?_)
  refine Wc.seq (Wc.seq ?_)
  refine Wc.reg fun K hK => ?_; simp only [go_sem, ti3, ti9, ti4, ti35, ti22, ti23, ti24, ti26, ti32, ti34, ti45, ti53, ti55, ti57, ti64, h]; refine hK _ _ ?_; clear hK K
  refine Wc.cond (t := false) (by simp only [go_sem, ti3, ti9, ti4, ti35, ti22, ti23, ti24, ti26, ti32, ti34, ti45, ti53, ti55, ti57, ti64, h, Bool.or_true]) (fun hc => by cases hc) (fun _ => Wc.skip ?_)
  refine Wc.seq ?_
  refine Wc.reg fun K hK => ?_; simp only [go_sem, ti3, ti9, ti4, ti35, ti22, ti23, ti24, ti26, ti32, ti34, ti45, ti53, ti55, ti57, ti64]; refine hK _ _ ?_; clear hK K
  exact Wc.ret (Pf.ret [.tmp 4] [.c (.p (pI 0))] rfl rfl (by simp only [resultsD, go_sem, ti3, ti9, ti4, ti35, ti22, ti23, ti24, ti26, ti32, ti34, ti45, ti53, ti55, ti57, ti64]) rfl)
/-- 77: Compare, of equal labels -/
theorem pf77 (l : List Lb) (hl : l.length < 2^60) : Pf E0 77 [.c (.p (.lst l.length (l.flatMap lbP))), .c (.p (.lst l.length (l.flatMap lbP)))] (P' (pI 0)) := by
  have hfl : (l.flatMap lbP).length = l.length * 2 := flat_len (k := 2) (fun _ => rfl) l
  refine Pf.body (fn := Tryz.f77) (by kernel_rfl) rfl ?_; simp only [List.map_cons, List.map_nil, List.cons_append, List.nil_append, List.length_cons, List.length_nil, Tryz.ntmps77, List.replicate, Nat.reduceSub, Nat.reduceAdd]
  refine Wc.seq ?_
  refine Wc.reg fun K hK => ?_; simp only [go_sem, ti3, ti9, ti4, ti35, ti22, ti23, ti24, ti26, ti32, ti34, ti45, ti53, ti55, ti57, ti64]; refine hK _ _ ?_; clear hK K
  refine Wc.seqA (fun y => y.ds = [] ∧ y.e.length = 58 ∧ y.e.getD 0 .junk = P' (.lst l.length (l.flatMap lbP)) ∧ y.e.getD 1 .junk = P' (.lst l.length (l.flatMap lbP))) ?_ ?_
  · refine Wc.seq ?_
    refine Wc.reg fun K hK => ?_; simp only [go_sem, ti3, ti9, ti4, ti35, ti22, ti23, ti24, ti26, ti32, ti34, ti45, ti53, ti55, ti57, ti64, Int.natCast_zero]; refine hK _ _ ?_; clear hK K
    refine Wc.block (Wc.loop (fun k y => ∃ i : Nat, k = l.length - i ∧ i ≤ l.length ∧ y.ds = [] ∧ y.e.length = 58 ∧ y.e.getD 0 .junk = P' (.lst l.length (l.flatMap lbP)) ∧ y.e.getD 1 .junk = P' (.lst l.length (l.flatMap lbP)) ∧ y.e.getD 5 .junk = P' (pI i)) ?_ (k := l.length) ?_)
    · rintro k ⟨e, ds, s1⟩ ⟨i, rfl, hi, rfl, hlen, h0, h1, h5⟩
      simp only at hlen h0 h1 h5
      refine Wc.seq (Wc.seq ?_)
      by_cases hil : i < l.length
      · have hd : ((i : Int) < (l.length : Int)) = True := by simp only [eq_iff_iff, iff_true]; omega
        obtain ⟨x, hx⟩ : ∃ x, l[i]? = some x := ⟨l[i], List.getElem?_eq_getElem hil⟩
        have hix := ixA ti22 rfl ti64 (j := i) (m := l.length) (cs := l.flatMap lbP) hil hfl (by decide)
        have hca := rpA (off := i * 2) (drop_flat (f := lbP) (k := 2) (fun _ => rfl) hx) (by rw [hfl]; omega)
        have hcc := rpA (off := i * 2 + 1) (cs := l.flatMap lbP) (pre := [.str x.2]) (rest := (l.drop (i + 1)).flatMap lbP) (by rw [← List.drop_drop, drop_flat (f := lbP) (k := 2) (fun _ => rfl) hx]; rfl) (by rw [hfl]; omega)
        refine Wc.reg fun K hK => ?_; simp only [go_sem, ti3, ti9, ti4, ti35, ti22, ti23, ti24, ti26, ti32, ti34, ti45, ti53, ti55, ti57, ti64, hlen, h0, h1, h5, hd]; refine hK _ _ ?_; clear hK K
        refine Wc.cond (t := true) (by simp only [go_sem, ti3, ti9, ti4, ti35, ti22, ti23, ti24, ti26, ti32, ti34, ti45, ti53, ti55, ti57, ti64, hlen, hd]) (fun _ => ?_) (fun hc => by cases hc)
        refine Wc.skip (Wc.seq (Wc.block (Wc.seq (Wc.seq ?_))))
        refine Wc.regD fun K hK => ?_; simp only [go_sem, ti3, ti9, ti4, ti35, ti22, ti23, ti24, ti26, ti32, ti34, ti45, ti53, ti55, ti57, ti64, hlen, h0, h1, h5, hix, hca]
        refine ⟨by simp [o115, x115, plainD, plainV, plainC], ?_⟩
        refine wpCall.pf (pf115 x.1) (by kernel_rfl) (by kernel_rfl) rfl rfl ?_
        simp only [go_sem, ti3, ti9, ti4, ti35, ti22, ti23, ti24, ti26, ti32, ti34, ti45, ti53, ti55, ti57, ti64, hlen, h0, h1, h5, hix, hca]; refine hK _ _ ?_; clear hK K
        refine Wc.seq ?_
        refine Wc.reg fun K hK => ?_; simp only [go_sem, ti3, ti9, ti4, ti35, ti22, ti23, ti24, ti26, ti32, ti34, ti45, ti53, ti55, ti57, ti64, hlen, h0, h1, h5]; refine hK _ _ ?_; clear hK K
        refine Wc.cond (t := false) (by simp only [go_sem, ti3, ti9, ti4, ti35, ti22, ti23, ti24, ti26, ti32, ti34, ti45, ti53, ti55, ti57, ti64, hlen]; rfl) (fun hc => by cases hc) (fun _ => Wc.skip ?_)
        refine Wc.seq ?_
        refine Wc.regD fun K hK => ?_; simp only [go_sem, ti3, ti9, ti4, ti35, ti22, ti23, ti24, ti26, ti32, ti34, ti45, ti53, ti55, ti57, ti64, hlen, h0, h1, h5, hix, hcc]
        refine ⟨by simp [o115, x115, plainD, plainV, plainC], ?_⟩
        refine wpCall.pf (pf115 x.2) (by kernel_rfl) (by kernel_rfl) rfl rfl ?_
        simp only [go_sem, ti3, ti9, ti4, ti35, ti22, ti23, ti24, ti26, ti32, ti34, ti45, ti53, ti55, ti57, ti64, hlen, h0, h1, h5, hix, hcc]; refine hK _ _ ?_; clear hK K
        refine Wc.seq ?_
        refine Wc.reg fun K hK => ?_; simp only [go_sem, ti3, ti9, ti4, ti35, ti22, ti23, ti24, ti26, ti32, ti34, ti45, ti53, ti55, ti57, ti64, hlen, h0, h1, h5]; refine hK _ _ ?_; clear hK K
        refine Wc.cond (t := false) (by simp only [go_sem, ti3, ti9, ti4, ti35, ti22, ti23, ti24, ti26, ti32, ti34, ti45, ti53, ti55, ti57, ti64, hlen]; rfl) (fun hc => by cases hc) (fun _ => Wc.skip ?_)
        refine Wc.reg fun K hK => ?_; simp only [go_sem, ti3, ti9, ti4, ti35, ti22, ti23, ti24, ti26, ti32, ti34, ti45, ti53, ti55, ti57, ti64, hlen, h0, h1, h5, i64n i (by omega)]; refine hK _ _ ?_; clear hK K
        exact ⟨l.length - (i + 1), by omega, i + 1, rfl, by omega, rfl, by simp only [go_sem, ti3, ti9, ti4, ti35, ti22, ti23, ti24, ti26, ti32, ti34, ti45, ti53, ti55, ti57, ti64, hlen], by simp only [go_sem, ti3, ti9, ti4, ti35, ti22, ti23, ti24, ti26, ti32, ti34, ti45, ti53, ti55, ti57, ti64, hlen, h0], by simp only [go_sem, ti3, ti9, ti4, ti35, ti22, ti23, ti24, ti26, ti32, ti34, ti45, ti53, ti55, ti57, ti64, hlen, h1], by simp only [go_sem, ti3, ti9, ti4, ti35, ti22, ti23, ti24, ti26, ti32, ti34, ti45, ti53, ti55, ti57, ti64, hlen]⟩
      · have hd : ((i : Int) < (l.length : Int)) = False := by simp only [eq_iff_iff, iff_false]; omega
        refine Wc.reg fun K hK => ?_; simp only [go_sem, ti3, ti9, ti4, ti35, ti22, ti23, ti24, ti26, ti32, ti34, ti45, ti53, ti55, ti57, ti64, hlen, h0, h1, h5, hd]; refine hK _ _ ?_; clear hK K
        refine Wc.cond (t := false) (by simp only [go_sem, ti3, ti9, ti4, ti35, ti22, ti23, ti24, ti26, ti32, ti34, ti45, ti53, ti55, ti57, ti64, hlen, hd]) (fun hc => by cases hc) (fun _ => ?_)
        exact Wc.exit ⟨rfl, rfl, by simp only [go_sem, ti3, ti9, ti4, ti35, ti22, ti23, ti24, ti26, ti32, ti34, ti45, ti53, ti55, ti57, ti64, hlen], by simp only [go_sem, ti3, ti9, ti4, ti35, ti22, ti23, ti24, ti26, ti32, ti34, ti45, ti53, ti55, ti57, ti64, hlen, h0], by simp only [go_sem, ti3, ti9, ti4, ti35, ti22, ti23, ti24, ti26, ti32, ti34, ti45, ti53, ti55, ti57, ti64, hlen, h1]⟩
    · exact ⟨0, rfl, by omega, rfl, rfl, rfl, rfl, rfl⟩
  rintro ⟨e, ds, s1⟩ ⟨rfl, hlen, h0, h1⟩
  simp only at hlen h0 h1
  have hd : ((l.length : Int) < (l.length : Int)) = False := by simp
  refine Wc.seq (Wc.seq ?_)
  refine Wc.reg fun K hK => ?_; simp only [go_sem, ti3, ti9, ti4, ti35, ti22, ti23, ti24, ti26, ti32, ti34, ti45, ti53, ti55, ti57, ti64, hlen, h0, h1, hd]; refine hK _ _ ?_; clear hK K
  refine Wc.cond (t := false) (by simp only [go_sem, ti3, ti9, ti4, ti35, ti22, ti23, ti24, ti26, ti32, ti34, ti45, ti53, ti55, ti57, ti64, hlen, hd]) (fun hc => by cases hc) (fun _ => Wc.skip ?_)
  refine Wc.seq (Wc.seq ?_)
  refine Wc.reg fun K hK => ?_; simp only [go_sem, ti3, ti9, ti4, ti35, ti22, ti23, ti24, ti26, ti32, ti34, ti45, ti53, ti55, ti57, ti64, hlen, h0, h1, hd]; refine hK _ _ ?_; clear hK K
  refine Wc.cond (t := false) (by simp only [go_sem, ti3, ti9, ti4, ti35, ti22, ti23, ti24, ti26, ti32, ti34, ti45, ti53, ti55, ti57, ti64, hlen, hd]) (fun hc => by cases hc) (fun _ => Wc.skip ?_)
  refine Wc.seq ?_
  refine Wc.reg fun K hK => ?_; simp only [go_sem, ti3, ti9, ti4, ti35, ti22, ti23, ti24, ti26, ti32, ti34, ti45, ti53, ti55, ti57, ti64, hlen]; refine hK _ _ ?_; clear hK K
  exact Wc.ret (Pf.ret [.tmp 4] [.c (.p (pI 0))] rfl rfl (by simp only [resultsD, go_sem, ti3, ti9, ti4, ti35, ti22, ti23, ti24, ti26, ti32, ti34, ti45, ti53, ti55, ti57, ti64, hlen]) rfl)
/-- 36: Same, of equal labels -/
theorem pf36 (l : List Lb) (hl : l.length < 2^60) : Pf E0 36 [.c (.p (.lst l.length (l.flatMap lbP))), .c (.p (.lst l.length (l.flatMap lbP)))] (P' (.bool true)) := by
  refine Pf.body (fn := Tryz.f36) (by kernel_rfl) rfl ?_; simp only [List.map_cons, List.map_nil, List.cons_append, List.nil_append, List.length_cons, List.length_nil, Tryz.ntmps36, List.replicate, Nat.reduceSub, Nat.reduceAdd]
  refine Wc.seq ?_
  refine Wc.reg fun K hK => ?_; simp only [go_sem, ti3, ti9, ti4, ti35, ti22, ti23, ti24, ti26, ti32, ti34, ti45, ti53, ti55, ti57, ti64]; refine hK _ _ ?_; clear hK K
  refine Wc.seq ?_
  refine Wc.reg fun K hK => ?_; simp only [go_sem, ti3, ti9, ti4, ti35, ti22, ti23, ti24, ti26, ti32, ti34, ti45, ti53, ti55, ti57, ti64]
  refine wpCall.pf (pf77 l hl) (by kernel_rfl) (by kernel_rfl) rfl rfl ?_
  simp only [go_sem, ti3, ti9, ti4, ti35, ti22, ti23, ti24, ti26, ti32, ti34, ti45, ti53, ti55, ti57, ti64]; refine hK _ _ ?_; clear hK K
  exact Wc.ret (Pf.ret [.tmp 4] [.c (.p (.bool true))] rfl rfl (by simp only [resultsD, go_sem, ti3, ti9, ti4, ti35, ti22, ti23, ti24, ti26, ti32, ti34, ti45, ti53, ti55, ti57, ti64]; try rfl) rfl)
/-- 11: Same, of equal chunks -/
theorem pf11 (sig : Int) (l : List Lb) (hl : l.length < 2^60) (z : Zo) (d : List UInt8) : Pf E0 11 [chV sig (.lst l.length (l.flatMap lbP)) z.pd d, chV sig (.lst l.length (l.flatMap lbP)) z.pd d] (P' (.bool true)) := by
  refine Pf.body (fn := Tryz.f11) (by kernel_rfl) rfl ?_; simp only [List.map_cons, List.map_nil, List.cons_append, List.nil_append, List.length_cons, List.length_nil, Tryz.ntmps11, List.replicate, Nat.reduceSub, Nat.reduceAdd]
  refine Wc.seq ?_
  refine Wc.reg fun K hK => ?_; simp only [go_sem, ti3, ti9, ti4, ti35, ti22, ti23, ti24, ti26, ti32, ti34, ti45, ti53, ti55, ti57, ti64]; refine hK _ _ ?_; clear hK K
  refine Wc.seq ?_
  refine Wc.reg fun K hK => ?_; simp only [go_sem, ti3, ti9, ti4, ti35, ti22, ti23, ti24, ti26, ti32, ti34, ti45, ti53, ti55, ti57, ti64]
  refine wpCall.pf (pf36 l hl) (by kernel_rfl) (by kernel_rfl) rfl rfl ?_
  simp only [go_sem, ti3, ti9, ti4, ti35, ti22, ti23, ti24, ti26, ti32, ti34, ti45, ti53, ti55, ti57, ti64, eqL, eqS]; refine hK _ _ ?_; clear hK K
  exact Wc.ret (Pf.ret [.tmp 4] [.c (.p (.bool true))] rfl rfl (by simp only [resultsD, go_sem, ti3, ti9, ti4, ti35, ti22, ti23, ti24, ti26, ti32, ti34, ti45, ti53, ti55, ti57, ti64, eqL, eqS]; try rfl) rfl)
/-- 18: Great, of a histogram -/
theorem pf18 (h : Hst) : Pf E0 18 [.agg (h.pd.map .p)] (P' (.bool (decide (40 < h.bs.length)))) := by
  refine Pf.body (fn := Tryz.f18) (by kernel_rfl) rfl ?_; simp only [List.map_cons, List.map_nil, List.cons_append, List.nil_append, List.length_cons, List.length_nil, Tryz.ntmps18, List.replicate, Nat.reduceSub, Nat.reduceAdd]
  refine Wc.seq ?_
  refine Wc.reg fun K hK => ?_; simp only [go_sem, ti3, ti9, ti4, ti35, ti22, ti23, ti24, ti26, ti32, ti34, ti45, ti53, ti55, ti57, ti64]; refine hK _ _ ?_; clear hK K
  refine Wc.seq ?_
  refine Wc.reg fun K hK => ?_; simp only [go_sem, ti3, ti9, ti4, ti35, ti22, ti23, ti24, ti26, ti32, ti34, ti45, ti53, ti55, ti57, ti64]; refine hK _ _ ?_; clear hK K
  rw [show decide (40 < h.bs.length) = decide ((40 : Int) < h.bs.length) by rw [decide_eq_decide]; omega]
  exact Wc.ret (Pf.ret [.tmp 2] [.c (.p (.bool (decide ((40 : Int) < h.bs.length))))] rfl rfl (by simp only [resultsD, go_sem, ti3, ti9, ti4, ti35, ti22, ti23, ti24, ti26, ti32, ti34, ti45, ti53, ti55, ti57, ti64]) rfl)
def lbG (x : Lb) : Bool := decide (61 < x.1.length) || decide (201 < x.2.length)
def lbsG (l : List Lb) : Bool := l.any lbG || decide (17 < l.length)
/-- 19: Great, of labels -/
theorem pf19 (l : List Lb) (hl : l.length < 2^60) : Pf E0 19 [.c (.p (.lst l.length (l.flatMap lbP)))] (P' (.bool (lbsG l))) := by
  have hfl : (l.flatMap lbP).length = l.length * 2 := flat_len (k := 2) (fun _ => rfl) l
  refine Pf.body (fn := Tryz.f19) (by kernel_rfl) rfl ?_; simp only [List.map_cons, List.map_nil, List.cons_append, List.nil_append, List.length_cons, List.length_nil, Tryz.ntmps19, List.replicate, Nat.reduceSub, Nat.reduceAdd]
  refine Wc.seq ?_
  refine Wc.reg fun K hK => ?_; simp only [go_sem, ti3, ti9, ti4, ti35, ti22, ti23, ti24, ti26, ti32, ti34, ti45, ti53, ti55, ti57, ti64]; refine hK _ _ ?_; clear hK K
  refine Wc.seqR (fun y => l.any lbG = false ∧ y.ds = [] ∧ y.e.length = 29 ∧ y.e.getD 0 .junk = P' (.lst l.length (l.flatMap lbP))) ?_ ?_
  · refine Wc.seq ?_
    refine Wc.reg fun K hK => ?_; simp only [go_sem, ti3, ti9, ti4, ti35, ti22, ti23, ti24, ti26, ti32, ti34, ti45, ti53, ti55, ti57, ti64, Int.natCast_zero]; refine hK _ _ ?_; clear hK K
    refine Wc.block (Wc.loop (fun k y => ∃ i : Nat, k = l.length - i ∧ i ≤ l.length ∧ y.ds = [] ∧ y.e.length = 29 ∧ y.e.getD 0 .junk = P' (.lst l.length (l.flatMap lbP)) ∧ y.e.getD 3 .junk = P' (pI i) ∧ (l.take i).any lbG = false) ?_ (k := l.length) ?_)
    · rintro k ⟨e, ds, s1⟩ ⟨i, rfl, hi, rfl, hlen, h0, h3, hn⟩
      simp only at hlen h0 h3
      refine Wc.seq (Wc.seq ?_)
      refine Wc.reg fun K hK => ?_; simp only [go_sem, ti3, ti9, ti4, ti35, ti22, ti23, ti24, ti26, ti32, ti34, ti45, ti53, ti55, ti57, ti64, hlen, h0, h3]; refine hK _ _ ?_; clear hK K
      refine Wc.cond (t := decide ((i : Int) < l.length)) (by simp only [go_sem, ti3, ti9, ti4, ti35, ti22, ti23, ti24, ti26, ti32, ti34, ti45, ti53, ti55, ti57, ti64, hlen]) (fun hc => ?_) (fun hc => ?_)
      · have hil : i < l.length := by have h9 : (i : Int) < l.length := (by simpa using hc); omega
        obtain ⟨x, hx⟩ : ∃ x, l[i]? = some x := ⟨l[i], List.getElem?_eq_getElem hil⟩
        have hix := ixA ti22 rfl ti64 (j := i) (m := l.length) (cs := l.flatMap lbP) hil hfl (by decide)
        have hca := rpA (off := i * 2) (drop_flat (f := lbP) (k := 2) (fun _ => rfl) hx) (by rw [hfl]; omega)
        have hcc := rpA (off := i * 2 + 1) (cs := l.flatMap lbP) (pre := [.str x.2]) (rest := (l.drop (i + 1)).flatMap lbP) (by rw [← List.drop_drop, drop_flat (f := lbP) (k := 2) (fun _ => rfl) hx]; rfl) (by rw [hfl]; omega)
        have bad : lbG x = true → lbsG l = true := fun h => by
          unfold lbsG
          rw [List.any_eq_true.2 ⟨x, List.mem_of_getElem? hx, h⟩, Bool.true_or]
        refine Wc.skip (Wc.seq (Wc.block (Wc.seq ?_)))
        by_cases z1 : 61 < x.1.length
        · have f1 : ((61 : Int) < (x.1.length : Int)) = True := by simp only [eq_iff_iff, iff_true]; omega
          refine Wc.reg fun K hK => ?_; simp only [go_sem, ti3, ti9, ti4, ti35, ti22, ti23, ti24, ti26, ti32, ti34, ti45, ti53, ti55, ti57, ti64, hlen, h0, h3, hix, hca, f1]; refine hK _ _ ?_; clear hK K
          refine Wc.cond (t := true) (by simp only [go_sem, ti3, ti9, ti4, ti35, ti22, ti23, ti24, ti26, ti32, ti34, ti45, ti53, ti55, ti57, ti64, hlen]) (fun _ => ?_) (fun hc => by cases hc)
          refine Wc.seq ?_
          refine Wc.reg fun K hK => ?_; simp only [go_sem, ti3, ti9, ti4, ti35, ti22, ti23, ti24, ti26, ti32, ti34, ti45, ti53, ti55, ti57, ti64, hlen]; refine hK _ _ ?_; clear hK K
          rw [bad (by simp [lbG, z1])]
          exact Wc.ret (Pf.ret [.tmp 2] [.c (.p (.bool true))] rfl rfl (by simp only [resultsD, go_sem, ti3, ti9, ti4, ti35, ti22, ti23, ti24, ti26, ti32, ti34, ti45, ti53, ti55, ti57, ti64, hlen]) rfl)
        have f1 : ((61 : Int) < (x.1.length : Int)) = False := by simp only [eq_iff_iff, iff_false]; omega
        refine Wc.reg fun K hK => ?_; simp only [go_sem, ti3, ti9, ti4, ti35, ti22, ti23, ti24, ti26, ti32, ti34, ti45, ti53, ti55, ti57, ti64, hlen, h0, h3, hix, hca, hcc, f1]; refine hK _ _ ?_; clear hK K
        refine Wc.cond (t := decide ((201 : Int) < x.2.length)) (by simp only [go_sem, ti3, ti9, ti4, ti35, ti22, ti23, ti24, ti26, ti32, ti34, ti45, ti53, ti55, ti57, ti64, hlen]) (fun hc => ?_) (fun hc => ?_)
        · have z2 : (201 : Int) < x.2.length := of_decide_eq_true hc
          have z3 : 201 < x.2.length := by omega
          refine Wc.seq ?_
          refine Wc.reg fun K hK => ?_; simp only [go_sem, ti3, ti9, ti4, ti35, ti22, ti23, ti24, ti26, ti32, ti34, ti45, ti53, ti55, ti57, ti64, hlen]; refine hK _ _ ?_; clear hK K
          rw [bad (by simp [lbG, z3])]
          exact Wc.ret (Pf.ret [.tmp 2] [.c (.p (.bool true))] rfl rfl (by simp only [resultsD, go_sem, ti3, ti9, ti4, ti35, ti22, ti23, ti24, ti26, ti32, ti34, ti45, ti53, ti55, ti57, ti64, hlen]) rfl)
        · have z2 : ¬ (201 : Int) < x.2.length := of_decide_eq_false hc
          have z3 : ¬ 201 < x.2.length := by omega
          refine Wc.skip ?_
          refine Wc.reg fun K hK => ?_; simp only [go_sem, ti3, ti9, ti4, ti35, ti22, ti23, ti24, ti26, ti32, ti34, ti45, ti53, ti55, ti57, ti64, hlen, h0, h3, i64n i (by omega)]; refine hK _ _ ?_; clear hK K
          refine ⟨l.length - (i + 1), by omega, i + 1, rfl, by omega, rfl, by simp only [go_sem, ti3, ti9, ti4, ti35, ti22, ti23, ti24, ti26, ti32, ti34, ti45, ti53, ti55, ti57, ti64, hlen], by simp only [go_sem, ti3, ti9, ti4, ti35, ti22, ti23, ti24, ti26, ti32, ti34, ti45, ti53, ti55, ti57, ti64, hlen, h0], by simp only [go_sem, ti3, ti9, ti4, ti35, ti22, ti23, ti24, ti26, ti32, ti34, ti45, ti53, ti55, ti57, ti64, hlen], ?_⟩
          rw [take_snoc hx, List.any_append, hn]
          simp only [List.any_cons, List.any_nil, lbG, decide_eq_false z1, decide_eq_false z3, Bool.or_self]
      · have hil : i = l.length := by have h9 : ¬ (i : Int) < l.length := (by simpa using hc); omega
        subst hil
        rw [List.take_length] at hn
        exact Wc.exit ⟨hn, rfl, by simp only [go_sem, ti3, ti9, ti4, ti35, ti22, ti23, ti24, ti26, ti32, ti34, ti45, ti53, ti55, ti57, ti64, hlen], by simp only [go_sem, ti3, ti9, ti4, ti35, ti22, ti23, ti24, ti26, ti32, ti34, ti45, ti53, ti55, ti57, ti64, hlen, h0]⟩
    · exact ⟨0, rfl, by omega, rfl, rfl, rfl, rfl, rfl⟩
  rintro ⟨e, ds, s1⟩ ⟨hn, rfl, hlen, h0⟩
  simp only at hlen h0
  refine Wc.seq ?_
  refine Wc.reg fun K hK => ?_; simp only [go_sem, ti3, ti9, ti4, ti35, ti22, ti23, ti24, ti26, ti32, ti34, ti45, ti53, ti55, ti57, ti64, hlen, h0]; refine hK _ _ ?_; clear hK K
  have e1 : lbsG l = decide ((17 : Int) < l.length) := by unfold lbsG; rw [hn, Bool.false_or, decide_eq_decide]; omega
  rw [e1]
  exact Wc.ret (Pf.ret [.tmp 2] [.c (.p (.bool (decide ((17 : Int) < l.length))))] rfl rfl (by simp only [resultsD, go_sem, ti3, ti9, ti4, ti35, ti22, ti23, ti24, ti26, ti32, ti34, ti45, ti53, ti55, ti57, ti64, hlen]) rfl)
/-- 20: Great, of samples -/
theorem pf20 (l : List I2) : Pf E0 20 [.c (.p (.lst l.length (l.flatMap p2)))] (P' (.bool (decide (24 < l.length)))) := by
  refine Pf.body (fn := Tryz.f20) (by kernel_rfl) rfl ?_; simp only [List.map_cons, List.map_nil, List.cons_append, List.nil_append, List.length_cons, List.length_nil, Tryz.ntmps20, List.replicate, Nat.reduceSub, Nat.reduceAdd]
  refine Wc.seq ?_
  refine Wc.reg fun K hK => ?_; simp only [go_sem, ti3, ti9, ti4, ti35, ti22, ti23, ti24, ti26, ti32, ti34, ti45, ti53, ti55, ti57, ti64]; refine hK _ _ ?_; clear hK K
  refine Wc.seq ?_
  refine Wc.reg fun K hK => ?_; simp only [go_sem, ti3, ti9, ti4, ti35, ti22, ti23, ti24, ti26, ti32, ti34, ti45, ti53, ti55, ti57, ti64]; refine hK _ _ ?_; clear hK K
  rw [show decide (24 < l.length) = decide ((24 : Int) < l.length) by rw [decide_eq_decide]; omega]
  exact Wc.ret (Pf.ret [.tmp 2] [.c (.p (.bool (decide ((24 : Int) < l.length))))] rfl rfl (by simp only [resultsD, go_sem, ti3, ti9, ti4, ti35, ti22, ti23, ti24, ti26, ti32, ti34, ti45, ti53, ti55, ti57, ti64]) rfl)
def serG (x : Ser) : Bool := x.hs.any (fun y => decide (40 < y.h.bs.length)) || (lbsG x.lb || (decide (24 < x.sm.length) || decide (6 < x.hs.length)))
/-- 7: GreatSeries -/
theorem pf7 (x : Ser) (hh : x.hs.length < 2^60) (hlb : x.lb.length < 2^60) : Pf E0 7 [.agg (x.pd.map .p)] (P' (.bool (serG x))) := by
  have hfl : (x.hs.flatMap HSm.pd).length = x.hs.length * 7 := flat_len (k := 7) (fun _ => rfl) x.hs
  refine Pf.body (fn := Tryz.f7) (by kernel_rfl) rfl ?_; simp only [List.map_cons, List.map_nil, List.cons_append, List.nil_append, List.length_cons, List.length_nil, Tryz.ntmps7, List.replicate, Nat.reduceSub, Nat.reduceAdd]
  refine Wc.seq ?_
  refine Wc.reg fun K hK => ?_; simp only [go_sem, ti3, ti9, ti4, ti35, ti22, ti23, ti24, ti26, ti32, ti34, ti45, ti53, ti55, ti57, ti64]; refine hK _ _ ?_; clear hK K
  refine Wc.seqR (fun y => x.hs.any (fun y => decide (40 < y.h.bs.length)) = false ∧ y.ds = [] ∧ y.e.length = 32 ∧ y.e.getD 1 .junk = .v (.c (.ref 0 0)) ∧ y.s.get 0 = some (.cells (x.pd.map .p) false)) ?_ ?_
  · refine Wc.seq ?_
    refine Wc.reg fun K hK => ?_; simp only [go_sem, ti3, ti9, ti4, ti35, ti22, ti23, ti24, ti26, ti32, ti34, ti45, ti53, ti55, ti57, ti64, Int.natCast_zero]; refine hK _ _ ?_; clear hK K
    refine Wc.block (Wc.loop (fun k y => ∃ i : Nat, k = x.hs.length - i ∧ i ≤ x.hs.length ∧ y.ds = [] ∧ y.e.length = 32 ∧ y.e.getD 1 .junk = .v (.c (.ref 0 0)) ∧ y.e.getD 3 .junk = P' (pI i) ∧ y.s.get 0 = some (.cells (x.pd.map .p) false) ∧ (x.hs.take i).any (fun y => decide (40 < y.h.bs.length)) = false) ?_ (k := x.hs.length) ?_)
    · rintro k ⟨e, ds, s1⟩ ⟨i, rfl, hi, rfl, hlen, h1, h3, g0, hn⟩
      simp only at hlen h1 h3 g0
      have g0' := g0
      simp only [List.map_cons, List.map_nil] at g0
      refine Wc.seq (Wc.seq ?_)
      refine Wc.reg fun K hK => ?_; simp only [go_sem, ti3, ti9, ti4, ti35, ti22, ti23, ti24, ti26, ti32, ti34, ti45, ti53, ti55, ti57, ti64, hlen, h1, h3, g0]; refine hK _ _ ?_; clear hK K
      refine Wc.cond (t := decide ((i : Int) < x.hs.length)) (by simp only [go_sem, ti3, ti9, ti4, ti35, ti22, ti23, ti24, ti26, ti32, ti34, ti45, ti53, ti55, ti57, ti64, hlen]) (fun hc => ?_) (fun hc => ?_)
      · have hil : i < x.hs.length := by have h9 : (i : Int) < x.hs.length := (by simpa using hc); omega
        obtain ⟨u, hu⟩ : ∃ u, x.hs[i]? = some u := ⟨x.hs[i], List.getElem?_eq_getElem hil⟩
        have hix := ixA ti24 rfl ti57 (j := i) (m := x.hs.length) (cs := x.hs.flatMap HSm.pd) hil hfl (by decide)
        have hcc := rpA (off := i * 7 + 1) (cs := x.hs.flatMap HSm.pd) (pre := u.h.pd) (rest := (x.hs.drop (i + 1)).flatMap HSm.pd) (by rw [← List.drop_drop, drop_flat (f := HSm.pd) (k := 7) (fun _ => rfl) hu]; rfl) (by rw [hfl]; omega)
        refine Wc.skip (Wc.seq (Wc.block (Wc.seq ?_)))
        refine Wc.reg fun K hK => ?_; simp only [go_sem, ti3, ti9, ti4, ti35, ti22, ti23, ti24, ti26, ti32, ti34, ti45, ti53, ti55, ti57, ti64, hlen, h1, h3, g0, hix, hcc]
        refine wpCall.pf (pf18 u.h) (by kernel_rfl) (by kernel_rfl) rfl rfl ?_
        simp only [go_sem, ti3, ti9, ti4, ti35, ti22, ti23, ti24, ti26, ti32, ti34, ti45, ti53, ti55, ti57, ti64, hlen, h1, h3, g0, hix, hcc]; refine hK _ _ ?_; clear hK K
        refine Wc.cond (t := decide (40 < u.h.bs.length)) (by simp only [go_sem, ti3, ti9, ti4, ti35, ti22, ti23, ti24, ti26, ti32, ti34, ti45, ti53, ti55, ti57, ti64, hlen]) (fun hc => ?_) (fun hc => ?_)
        · have e1 : serG x = true := by
            unfold serG
            rw [List.any_eq_true.2 ⟨u, List.mem_of_getElem? hu, hc⟩, Bool.true_or]
          refine Wc.seq ?_
          refine Wc.reg fun K hK => ?_; simp only [go_sem, ti3, ti9, ti4, ti35, ti22, ti23, ti24, ti26, ti32, ti34, ti45, ti53, ti55, ti57, ti64, hlen]; refine hK _ _ ?_; clear hK K
          rw [e1]
          exact Wc.ret (Pf.ret [.tmp 2] [.c (.p (.bool true))] rfl rfl (by simp only [resultsD, go_sem, ti3, ti9, ti4, ti35, ti22, ti23, ti24, ti26, ti32, ti34, ti45, ti53, ti55, ti57, ti64, hlen]) rfl)
        · refine Wc.skip ?_
          refine Wc.reg fun K hK => ?_; simp only [go_sem, ti3, ti9, ti4, ti35, ti22, ti23, ti24, ti26, ti32, ti34, ti45, ti53, ti55, ti57, ti64, hlen, h1, h3, i64n i (by omega)]; refine hK _ _ ?_; clear hK K
          refine ⟨x.hs.length - (i + 1), by omega, i + 1, rfl, by omega, rfl, by simp only [go_sem, ti3, ti9, ti4, ti35, ti22, ti23, ti24, ti26, ti32, ti34, ti45, ti53, ti55, ti57, ti64, hlen], by simp only [go_sem, ti3, ti9, ti4, ti35, ti22, ti23, ti24, ti26, ti32, ti34, ti45, ti53, ti55, ti57, ti64, hlen, h1], by simp only [go_sem, ti3, ti9, ti4, ti35, ti22, ti23, ti24, ti26, ti32, ti34, ti45, ti53, ti55, ti57, ti64, hlen], g0', ?_⟩
          rw [take_snoc hu, List.any_append, hn]
          simp only [List.any_cons, List.any_nil, hc, Bool.or_self]
      · have hil : i = x.hs.length := by have h9 : ¬ (i : Int) < x.hs.length := (by simpa using hc); omega
        subst hil
        rw [List.take_length] at hn
        exact Wc.exit ⟨hn, rfl, by simp only [go_sem, ti3, ti9, ti4, ti35, ti22, ti23, ti24, ti26, ti32, ti34, ti45, ti53, ti55, ti57, ti64, hlen], by simp only [go_sem, ti3, ti9, ti4, ti35, ti22, ti23, ti24, ti26, ti32, ti34, ti45, ti53, ti55, ti57, ti64, hlen, h1], g0'⟩
    · exact ⟨0, rfl, by omega, rfl, rfl, rfl, rfl, by simp only [go_sem, ti3, ti9, ti4, ti35, ti22, ti23, ti24, ti26, ti32, ti34, ti45, ti53, ti55, ti57, ti64], rfl⟩
  rintro ⟨e, ds, s1⟩ ⟨hn, rfl, hlen, h1, g0⟩
  simp only at hlen h1 g0
  simp only [List.map_cons, List.map_nil] at g0
  have e1 : serG x = (lbsG x.lb || (decide (24 < x.sm.length) || decide (6 < x.hs.length))) := by unfold serG; rw [hn, Bool.false_or]
  rw [e1]
  refine Wc.seq ?_
  refine Wc.reg fun K hK => ?_; simp only [go_sem, ti3, ti9, ti4, ti35, ti22, ti23, ti24, ti26, ti32, ti34, ti45, ti53, ti55, ti57, ti64, hlen, h1, g0]
  refine wpCall.pf (pf19 x.lb hlb) (by kernel_rfl) (by kernel_rfl) rfl rfl ?_
  cases z1 : lbsG x.lb with
  | true =>
    simp only [go_sem, ti3, ti9, ti4, ti35, ti22, ti23, ti24, ti26, ti32, ti34, ti45, ti53, ti55, ti57, ti64, hlen, h1, g0, z1]; refine hK _ _ ?_; clear hK K
    try rw [z1]
    rw [Bool.true_or]
    exact Wc.ret (Pf.ret [.tmp 2] [.c (.p (.bool true))] rfl rfl (by simp only [resultsD, go_sem, ti3, ti9, ti4, ti35, ti22, ti23, ti24, ti26, ti32, ti34, ti45, ti53, ti55, ti57, ti64, hlen]) rfl)
  | false =>
    simp only [go_sem, ti3, ti9, ti4, ti35, ti22, ti23, ti24, ti26, ti32, ti34, ti45, ti53, ti55, ti57, ti64, hlen, h1, g0, z1]
    refine wpCall.pf (pf20 x.sm) (by kernel_rfl) (by kernel_rfl) rfl rfl ?_
    cases z2 : decide (24 < x.sm.length) with
    | true =>
      simp only [go_sem, ti3, ti9, ti4, ti35, ti22, ti23, ti24, ti26, ti32, ti34, ti45, ti53, ti55, ti57, ti64, hlen, h1, g0, z1, z2]; refine hK _ _ ?_; clear hK K
      try rw [z1]
      try rw [z2]
      rw [Bool.false_or, Bool.true_or]
      exact Wc.ret (Pf.ret [.tmp 2] [.c (.p (.bool true))] rfl rfl (by simp only [resultsD, go_sem, ti3, ti9, ti4, ti35, ti22, ti23, ti24, ti26, ti32, ti34, ti45, ti53, ti55, ti57, ti64, hlen]) rfl)
    | false =>
      simp only [go_sem, ti3, ti9, ti4, ti35, ti22, ti23, ti24, ti26, ti32, ti34, ti45, ti53, ti55, ti57, ti64, hlen, h1, g0, z1, z2]; refine hK _ _ ?_; clear hK K
      try rw [z1]
      try rw [z2]
      rw [Bool.false_or, Bool.false_or, show decide (6 < x.hs.length) = decide ((6 : Int) < x.hs.length) by rw [decide_eq_decide]; omega]
      exact Wc.ret (Pf.ret [.tmp 2] [.c (.p (.bool (decide ((6 : Int) < x.hs.length))))] rfl rfl (by simp only [resultsD, go_sem, ti3, ti9, ti4, ti35, ti22, ti23, ti24, ti26, ti32, ti34, ti45, ti53, ti55, ti57, ti64, hlen]) rfl)
end Go.Proofs.YtafaoldmemcigaaGreat.Ab
namespace Go.Proofs.YtafaoldmemcigaaGreat.Ab
set_option maxRecDepth 100000
/-- What the closed check comes to. -/
noncomputable def aw : Option Bool := match bodyD E0 (runF E0 100) 100 8 [] { ob := [], nx := 0 } with
  | some (.v (.c (.p (.bool b))), _) => some b
  | _ => none
theorem aw_true : aw = some true := by kernel_rfl
/-- 8: the example of the chapter -/
theorem pf8 : Pf E0 8 [] (P' (.bool true)) := by
  have h := aw_true
  unfold aw at h
  split at h
  · rename_i b s hb
    cases h
    exact ⟨100, _, _, _, hb, rfl⟩
  · cases h
end Go.Proofs.YtafaoldmemcigaaGreat.Ab
namespace Go.Proofs.YtafaoldmemcigaaGreat.Ab
set_option maxHeartbeats 8000000
set_option maxRecDepth 10000
set_option linter.unusedSimpArgs false
set_option linter.unusedVariables false
theorem encS_form (x : Ser) (hx : x.lb.length < 2^60) : ∃ (sig : Int) (l : List Lb) (z : Zo) (d : List UInt8) (e : Int), l.length < 2^60 ∧ encS x = .tup [chV sig (.lst l.length (l.flatMap lbP)) z.pd d, .c (.p (pI e))] := by
  unfold encS
  split
  · exact ⟨0, [], Zo.none, [], 1, by decide, rfl⟩
  · rcases encC_cases 1 (.lst x.lb.length (x.lb.flatMap lbP)) (serZ x).pd (appV [] x.k).1 (serCs x) with h | ⟨d, h⟩
    · exact ⟨0, [], Zo.none, [], 4, by decide, by rw [h]; rfl⟩
    · exact ⟨1, x.lb, serZ x, d, 0, hx, by rw [h]⟩
theorem serG_sz {x : Ser} (h : serG x = false) : x.Sz := by
  simp only [serG, lbsG, Bool.or_eq_false_iff, decide_eq_false_iff_not] at h
  obtain ⟨h1, ⟨h2, h3⟩, h4, h5⟩ := h
  rw [List.any_eq_false] at h1 h2
  refine ⟨by omega, fun y hy => ?_, by omega, by omega, fun y hy => ?_⟩
  · have := h2 y hy
    simp only [lbG, Bool.or_eq_true, decide_eq_true_eq] at this
    omega
  · have := h1 y hy
    simp only [decide_eq_true_eq] at this
    omega
theorem thenD_ret {K : Fr → Prop} {Q : Ex → Fr → Prop} {y : Fr} (h : Q .ret y) : thenD K Q .ret y := h
/-- 3: the law -/
theorem law3 (x : Ser) (hh : x.hs.length < 2^60) (hlb : x.lb.length < 2^60) : ∃ s', Ev E0 (.o 3) [.agg (x.pd.map .p)] s00 (P' (.bool true)) s' := by
  have main : Wc E0 none (Tryz.f3.body.get rfl) { e := [V.agg (x.pd.map .p)].map .v ++ List.replicate (Tryz.f3.ntmps - 1) (.tup []), ds := [], s := s00 } (bodyQ E0 Tryz.f3 fun d _ => d = P' (.bool true)) := by
    show Wc E0 none _ _ _
    simp only [List.map_cons, List.map_nil, List.cons_append, List.nil_append, Tryz.ntmps3, List.replicate, Nat.reduceSub, Nat.reduceAdd, s00]
    refine Wc.seq ?_
    refine Wc.reg fun K hK => ?_; simp only [go_sem, ti3, ti9, ti4, ti35, ti22, ti26, ti32, ti34]; refine hK _ _ ?_; clear hK K
    refine Wc.seq (Wc.seq ?_)
    refine Wc.reg fun K hK => ?_; simp only [go_sem, ti3, ti9, ti4, ti35, ti22, ti26, ti32, ti34]
    refine wpCall.pf (pf7 x hh hlb) (by kernel_rfl) (by kernel_rfl) rfl rfl ?_
    simp only [go_sem, ti3, ti9, ti4, ti35, ti22, ti26, ti32, ti34]; refine hK _ _ ?_; clear hK K
    refine Wc.cond (t := serG x) (by simp only [go_sem, ti3, ti9, ti4, ti35, ti22, ti26, ti32, ti34]) (fun hc => ?_) (fun hc => ?_)
    · refine Wc.seq ?_
      refine Wc.reg fun K hK => ?_; simp only [go_sem, ti3, ti9, ti4, ti35, ti22, ti26, ti32, ti34]
      refine wpCall.pf pf8 (by kernel_rfl) (by kernel_rfl) rfl rfl ?_
      simp only [go_sem, ti3, ti9, ti4, ti35, ti22, ti26, ti32, ti34]; refine hK _ _ ?_; clear hK K
      refine Wc.ret (thenD_ret ?_)
      exact Op.ret [.tmp 2] [.c (.p (.bool true))] rfl rfl (by simp only [resultsD, go_sem, ti3, ti9, ti4, ti35, ti22, ti26, ti32, ti34]) rfl
    have z := serG_sz hc
    obtain ⟨sig, l, zo, d, e9, hl, hf⟩ := encS_form x hlb
    have p9 := pf9 x z
    have p10 := pf10 x z
    rw [hf] at p9 p10
    refine Wc.skip (Wc.seq ?_)
    refine Wc.reg fun K hK => ?_; simp only [go_sem, ti3, ti9, ti4, ti35, ti22, ti26, ti32, ti34]
    refine wpCall.pf p9 (by kernel_rfl) (by kernel_rfl) rfl rfl ?_
    simp only [go_sem, ti3, ti9, ti4, ti35, ti22, ti26, ti32, ti34]; refine hK _ _ ?_; clear hK K
    refine Wc.seq ?_
    refine Wc.reg fun K hK => ?_; simp only [go_sem, ti3, ti9, ti4, ti35, ti22, ti26, ti32, ti34]
    refine wpCall.pf p10 (by kernel_rfl) (by kernel_rfl) rfl rfl ?_
    simp only [go_sem, ti3, ti9, ti4, ti35, ti22, ti26, ti32, ti34]; refine hK _ _ ?_; clear hK K
    refine Wc.seq ?_
    refine Wc.reg fun K hK => ?_; simp only [go_sem, ti3, ti9, ti4, ti35, ti22, ti26, ti32, ti34]
    refine wpCall.pf (pf11 sig l hl zo d) (by kernel_rfl) (by kernel_rfl) rfl rfl ?_
    simp only [go_sem, ti3, ti9, ti4, ti35, ti22, ti26, ti32, ti34]
    refine wpCall.pf pf8 (by kernel_rfl) (by kernel_rfl) rfl rfl ?_
    simp only [go_sem, ti3, ti9, ti4, ti35, ti22, ti26, ti32, ti34]; refine hK _ _ ?_; clear hK K
    exact Wc.ret (Op.ret [.tmp 2] [.c (.p (.bool true))] rfl rfl (by simp only [resultsD, go_sem, ti3, ti9, ti4, ti35, ti22, ti26, ti32, ti34]) rfl)
  obtain ⟨n, d, s', h1, h2⟩ := Ev.body (g := 3) (args := [V.agg (x.pd.map .p)]) (by kernel_rfl) rfl main
  subst h2
  exact ⟨s', n + 1, h1⟩
end Go.Proofs.YtafaoldmemcigaaGreat.Ab
