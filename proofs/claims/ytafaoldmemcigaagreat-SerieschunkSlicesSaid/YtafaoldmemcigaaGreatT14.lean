/- A part of the proof: an evaluator of the code, its contracts, the law. No condition. -/
import Derived.Test.YtafaoldmemcigaaGreatT13
namespace Go.Proofs.YtafaoldmemcigaaGreat.Ab
set_option maxHeartbeats 8000000
set_option maxRecDepth 10000
set_option linter.unusedSimpArgs false
set_option linter.unusedVariables false
def mn (a b : Int) : Int := if b < a then b else a
def mx (a b : Int) : Int := if a < b then b else a
theorem ormn (a b : Int) : (if b < a then b else a) = mn a b := rfl
theorem ormx (a b : Int) : (if a < b then b else a) = mx a b := rfl
/-- 55: join, with the zone of nothing -/
theorem pf55a (c t1 t2 v1 v2 : Int) : Pf E0 55 [zV 0 0 0 0 0, zV c t1 t2 v1 v2] (.v (zV c t1 t2 v1 v2)) := by
  refine Pf.body (fn := Tryz.f55) (by kernel_rfl) rfl ?_; simp only [List.map_cons, List.map_nil, List.cons_append, List.nil_append, List.length_cons, List.length_nil, Tryz.ntmps55, List.replicate, Nat.reduceSub, Nat.reduceAdd]
  refine Wc.seq ?_
  refine Wc.reg fun K hK => ?_; simp only [go_sem, ti3, ti9, ti77, ti4, ti35, ti75, ti34, ti32, ti22, ti29, ti30, ti48]; refine hK _ _ ?_; clear hK K
  refine Wc.seq (Wc.seq ?_)
  refine Wc.reg fun K hK => ?_; simp only [go_sem, ti3, ti9, ti77, ti4, ti35, ti75, ti34, ti32, ti22, ti29, ti30, ti48, eqL, eqS]; refine hK _ _ ?_; clear hK K
  refine Wc.cond (t := true) (by simp only [go_sem, ti3, ti9, ti77, ti4, ti35, ti75, ti34, ti32, ti22, ti29, ti30, ti48]) (fun _ => ?_) (fun hc => by cases hc)
  refine Wc.seq ?_
  refine Wc.reg fun K hK => ?_; simp only [go_sem, ti3, ti9, ti77, ti4, ti35, ti75, ti34, ti32, ti22, ti29, ti30, ti48]; refine hK _ _ ?_; clear hK K
  exact Wc.ret (Pf.ret [.cell 4 32] [zV c t1 t2 v1 v2] rfl rfl (by simp only [resultsD, go_sem, ti3, ti9, ti77, ti4, ti35, ti75, ti34, ti32, ti22, ti29, ti30, ti48]) rfl)
/-- 55: join, with the zone of one more -/
theorem pf55b (c t1 t2 v1 v2 t v : Int) (h1 : 1 ≤ c) (h2 : c < 1152921504606846976) : Pf E0 55 [zV c t1 t2 v1 v2, zV 1 t t v v] (.v (zV (c + 1) (mn t1 t) (mx t2 t) (mn v1 v) (mx v2 v))) := by
  have b3 : (c == 0) = false := by simp; omega
  have b4 : ((1 : Int) == 0) = false := by decide
  have e1 : IntKind.i64.wrap (c + 1) = c + 1 := by rw [wi64]; omega
  have e2 : (if 1152921504606846976 < c + 1 then (1152921504606846976 : Int) else c + 1) = c + 1 := by rw [if_neg (by omega)]
  refine Pf.body (fn := Tryz.f55) (by kernel_rfl) rfl ?_; simp only [List.map_cons, List.map_nil, List.cons_append, List.nil_append, List.length_cons, List.length_nil, Tryz.ntmps55, List.replicate, Nat.reduceSub, Nat.reduceAdd]
  refine Wc.seq ?_
  refine Wc.reg fun K hK => ?_; simp only [go_sem, ti3, ti9, ti77, ti4, ti35, ti75, ti34, ti32, ti22, ti29, ti30, ti48]; refine hK _ _ ?_; clear hK K
  refine Wc.seq (Wc.seq ?_)
  refine Wc.reg fun K hK => ?_; simp only [go_sem, ti3, ti9, ti77, ti4, ti35, ti75, ti34, ti32, ti22, ti29, ti30, ti48, eqL, eqS, b3]; refine hK _ _ ?_; clear hK K
  refine Wc.cond (t := false) (by simp only [go_sem, ti3, ti9, ti77, ti4, ti35, ti75, ti34, ti32, ti22, ti29, ti30, ti48]) (fun hc => by cases hc) (fun _ => ?_)
  refine Wc.skip (Wc.seq (Wc.seq ?_))
  refine Wc.reg fun K hK => ?_; simp only [go_sem, ti3, ti9, ti77, ti4, ti35, ti75, ti34, ti32, ti22, ti29, ti30, ti48, eqL, eqS, b4]; refine hK _ _ ?_; clear hK K
  refine Wc.cond (t := false) (by simp only [go_sem, ti3, ti9, ti77, ti4, ti35, ti75, ti34, ti32, ti22, ti29, ti30, ti48]) (fun hc => by cases hc) (fun _ => ?_)
  refine Wc.skip (Wc.seq ?_)
  have e3 : ((1152921504606846976 : Int) < c + 1) = False := by simp; omega
  refine Wc.reg fun K hK => ?_; simp only [go_sem, ti3, ti9, ti77, ti4, ti35, ti75, ti34, ti32, ti22, ti29, ti30, ti48, foldO, e1, e3]; refine hK _ _ ?_; clear hK K
  refine Wc.seqA (fun y => y.ds = [] ∧ y.e.length = 61 ∧ y.e.getD 4 .junk = .v (.c (.ref 2 0)) ∧ y.e.getD 5 .junk = .v (.c (.ref 38 0)) ∧ y.s.get 38 = some (.cells (cellsV (zV (c + 1) (mn t1 t) (mx t2 t) (mn v1 v) (mx v2 v))) false) ∧ y.s.get 2 = some (.cells (cellsV (zV 0 0 0 0 0)) false)) ?_ ?_
  · refine Wc.seq ?_
    refine Wc.reg fun K hK => ?_; simp only [go_sem, ti3, ti9, ti77, ti4, ti35, ti75, ti34, ti32, ti22, ti29, ti30, ti48]; refine hK _ _ ?_; clear hK K
    have e5 : orI .u32 0 0 = 0 := by decide
    refine Wc.block (Wc.loop (fun k y => ∃ (i : Nat), k = 8 - i ∧ i ≤ 8 ∧ y.ds = [] ∧ y.e.length = 61 ∧ y.e.getD 4 .junk = .v (.c (.ref 2 0)) ∧ y.e.getD 5 .junk = .v (.c (.ref 38 0)) ∧ y.e.getD 46 .junk = .v (.agg [.p (.int .u32 0), .p (.int .u32 0), .p (.int .u32 0), .p (.int .u32 0), .p (.int .u32 0), .p (.int .u32 0), .p (.int .u32 0), .p (.int .u32 0)]) ∧ y.e.getD 47 .junk = P' (pI i) ∧
      y.s.get 38 = some (.cells (cellsV (zV (c + 1) (mn t1 t) (mx t2 t) (mn v1 v) (mx v2 v))) false) ∧ y.s.get 2 = some (.cells (cellsV (zV 0 0 0 0 0)) false)) ?_ (k := 8) ?_)
    · rintro k ⟨e, ds, s1⟩ ⟨i, rfl, hi, rfl, hlen, h4, h5, h46, h47, hs, hs2⟩
      simp only [cellsV] at hlen h4 h5 h46 h47 hs hs2
      rcases (by omega : i = 0 ∨ i = 1 ∨ i = 2 ∨ i = 3 ∨ i = 4 ∨ i = 5 ∨ i = 6 ∨ i = 7 ∨ i = 8) with h | h | h | h | h | h | h | h | h
      rotate_right
      · refine Wc.seq ?_
        refine Wc.reg fun K hK => ?_; simp only [go_sem, ti3, ti9, ti77, ti4, ti35, ti75, ti34, ti32, ti22, ti29, ti30, ti48, hlen, h4, h5, h46, h47, h, Int.cast_ofNat_Int]; refine hK _ _ ?_; clear hK K
        refine Wc.seq (Wc.cond (t := false) (by simp only [go_sem, ti3, ti9, ti77, ti4, ti35, ti75, ti34, ti32, ti22, ti29, ti30, ti48, hlen]) (fun hc => by cases hc) (fun _ => Wc.exit ?_))
        exact ⟨rfl, rfl, by simp only [go_sem, ti3, ti9, ti77, ti4, ti35, ti75, ti34, ti32, ti22, ti29, ti30, ti48, hlen], by simp only [go_sem, ti3, ti9, ti77, ti4, ti35, ti75, ti34, ti32, ti22, ti29, ti30, ti48, hlen, h4], by simp only [go_sem, ti3, ti9, ti77, ti4, ti35, ti75, ti34, ti32, ti22, ti29, ti30, ti48, hlen, h5], hs, hs2⟩
      all_goals
        refine Wc.seq ?_
        refine Wc.reg fun K hK => ?_; simp only [go_sem, ti3, ti9, ti77, ti4, ti35, ti75, ti34, ti32, ti22, ti29, ti30, ti48, hlen, h4, h5, h46, h47, h, Int.cast_ofNat_Int, Int.natCast_zero, Int.natCast_one]; refine hK _ _ ?_; clear hK K
        refine Wc.seq (Wc.cond (t := true) (by simp only [go_sem, ti3, ti9, ti77, ti4, ti35, ti75, ti34, ti32, ti22, ti29, ti30, ti48, hlen]) (fun _ => Wc.skip ?_) (fun hc => by cases hc))
        refine Wc.seq (Wc.block (Wc.seq ?_))
        refine Wc.reg fun K hK => ?_; simp only [go_sem, ti3, ti9, ti77, ti4, ti35, ti75, ti34, ti32, ti22, ti29, ti30, ti48, hlen, h4, h5, h46, h47, Int.cast_ofNat_Int, Int.natCast_zero, Int.natCast_one, h, indexD, Int.reduceToNat]; refine hK _ _ ?_; clear hK K
        refine Wc.reg fun K hK => ?_; simp only [go_sem, ti3, ti9, ti77, ti4, ti35, ti75, ti34, ti32, ti22, ti29, ti30, ti48, hlen, h4, h5, h46, h47, hs, hs2, e5, Int.cast_ofNat_Int, Int.natCast_zero, Int.natCast_one, h, indexAddrD, Int.reduceToNat]; refine hK _ _ ?_; clear hK K
        refine Wc.reg fun K hK => ?_; simp only [go_sem, ti3, ti9, ti77, ti4, ti35, ti75, ti34, ti32, ti22, ti29, ti30, ti48, hlen, h4, h5, h46, h47, hs, hs2, e5, Int.cast_ofNat_Int, Int.natCast_zero, Int.natCast_one, h]; refine hK _ _ ?_; clear hK K
        exact ⟨8 - (i + 1), by omega, i + 1, rfl, by omega, rfl, by simp only [go_sem, ti3, ti9, ti77, ti4, ti35, ti75, ti34, ti32, ti22, ti29, ti30, ti48, hlen], by simp only [go_sem, ti3, ti9, ti77, ti4, ti35, ti75, ti34, ti32, ti22, ti29, ti30, ti48, hlen, h4], by simp only [go_sem, ti3, ti9, ti77, ti4, ti35, ti75, ti34, ti32, ti22, ti29, ti30, ti48, hlen, h5], by simp only [go_sem, ti3, ti9, ti77, ti4, ti35, ti75, ti34, ti32, ti22, ti29, ti30, ti48, hlen, h46], by simp only [go_sem, ti3, ti9, ti77, ti4, ti35, ti75, ti34, ti32, ti22, ti29, ti30, ti48, hlen, h, wi64]; rfl, by simp only [go_sem, ti3, ti9, ti77, ti4, ti35, ti75, ti34, ti32, ti22, ti29, ti30, ti48, hs], by simp only [go_sem, ti3, ti9, ti77, ti4, ti35, ti75, ti34, ti32, ti22, ti29, ti30, ti48, hs2]⟩
    · exact ⟨0, rfl, by omega, rfl, rfl, rfl, rfl, rfl, rfl, by simp only [go_sem, ti3, ti9, ti77, ti4, ti35, ti75, ti34, ti32, ti22, ti29, ti30, ti48, ormn, ormx], by simp only [go_sem, ti3, ti9, ti77, ti4, ti35, ti75, ti34, ti32, ti22, ti29, ti30, ti48]⟩
  · rintro ⟨e, ds, s1⟩ ⟨rfl, hlen, h4, h5, hs, hs2⟩
    simp only [cellsV] at hlen h4 h5 hs hs2
    refine Wc.seq ?_
    refine Wc.reg fun K hK => ?_; simp only [go_sem, ti3, ti9, ti77, ti4, ti35, ti75, ti34, ti32, ti22, ti29, ti30, ti48, hlen, h4, h5, hs, hs2]; refine hK _ _ ?_; clear hK K
    exact Wc.ret (Pf.ret [.cell 4 32] [zV (c + 1) (mn t1 t) (mx t2 t) (mn v1 v) (mx v2 v)] rfl rfl (by simp only [resultsD, go_sem, ti3, ti9, ti77, ti4, ti35, ti75, ti34, ti32, ti22, ti29, ti30, ti48, hlen, h4]) rfl)
end Go.Proofs.YtafaoldmemcigaaGreat.Ab
namespace Go.Proofs.YtafaoldmemcigaaGreat.Ab
set_option maxHeartbeats 8000000
set_option maxRecDepth 10000
set_option linter.unusedSimpArgs false
set_option linter.unusedVariables false
/-- 23: Add, without strings -/
theorem pf23 {c t1 t2 v1 v2 t v c' a b m n : Int} (hz : Pf E0 17 [zV c t1 t2 v1 v2] (P' (.int .i64 0))) (hc : c < 1152921504606846976) (ht : isT t = true) (hv : isVl v = true)
    (hj : Pf E0 55 [zV c t1 t2 v1 v2, zV 1 t t v v] (.v (zV c' a b m n))) : Pf E0 23 [zV c t1 t2 v1 v2, .c (.p (pI t)), .c (.p (pI v)), .c (.p (.lst 0 []))] (.v (zV c' a b m n)) := by
  have b1 : (c == 1152921504606846976) = false := by simp; omega
  have b2 : ((0 : Int) != 0) = false := by decide
  refine Pf.body (fn := Tryz.f23) (by kernel_rfl) rfl ?_; simp only [List.map_cons, List.map_nil, List.cons_append, List.nil_append, List.length_cons, List.length_nil, Tryz.ntmps23, List.replicate, Nat.reduceSub, Nat.reduceAdd]
  refine Wc.seq ?_
  refine Wc.reg fun K hK => ?_; simp only [go_sem, ti3, ti9, ti77, ti4, ti35, ti75, ti34, ti32, ti22, ti29, ti30, ti48]; refine hK _ _ ?_; clear hK K
  refine Wc.seq (Wc.seq ?_)
  refine Wc.reg fun K hK => ?_; simp only [go_sem, ti3, ti9, ti77, ti4, ti35, ti75, ti34, ti32, ti22, ti29, ti30, ti48]
  refine wpCall.pf hz (by kernel_rfl) (by kernel_rfl) rfl rfl ?_
  simp only [go_sem, ti3, ti9, ti77, ti4, ti35, ti75, ti34, ti32, ti22, ti29, ti30, ti48, b2]
  refine wpCall.pf (pf43 t) (by kernel_rfl) (by kernel_rfl) rfl rfl ?_
  simp only [go_sem, ti3, ti9, ti77, ti4, ti35, ti75, ti34, ti32, ti22, ti29, ti30, ti48, ht]
  refine wpCall.pf (pf44 v) (by kernel_rfl) (by kernel_rfl) rfl rfl ?_
  simp only [go_sem, ti3, ti9, ti77, ti4, ti35, ti75, ti34, ti32, ti22, ti29, ti30, ti48, hv, b1]; refine hK _ _ ?_; clear hK K
  refine Wc.cond (t := false) (by simp only [go_sem, ti3, ti9, ti77, ti4, ti35, ti75, ti34, ti32, ti22, ti29, ti30, ti48, ht, hv, b1, b2]) (fun hc => by cases hc) (fun _ => ?_)
  refine Wc.skip (Wc.seq ?_)
  refine Wc.reg fun K hK => ?_; simp only [go_sem, ti3, ti9, ti77, ti4, ti35, ti75, ti34, ti32, ti22, ti29, ti30, ti48]; refine hK _ _ ?_; clear hK K
  refine Wc.seqA (fun y => y.ds = [] ∧ y.e.length = 61 ∧ y.e.getD 4 .junk = .v (.c (.ref 0 0)) ∧ y.e.getD 8 .junk = .v (.c (.ref 1 0)) ∧ y.e.getD 9 .junk = .v (.c (.ref 25 0)) ∧ y.s.get 0 = some (.cells (cellsV (zV c t1 t2 v1 v2)) false) ∧ y.s.get 1 = some (.cells (cellsV (zV 0 0 0 0 0)) false) ∧ y.s.get 25 = some (.cells (cellsV (zV 1 t t v v)) false)) ?_ ?_
  · refine Wc.seq ?_
    refine Wc.reg fun K hK => ?_; simp only [go_sem, ti3, ti9, ti77, ti4, ti35, ti75, ti34, ti32, ti22, ti29, ti30, ti48, Int.natCast_zero]; refine hK _ _ ?_; clear hK K
    refine Wc.block (Wc.loop (fun k y => y = { e := y.e, ds := [], s := y.s } ∧ y.e.getD 39 .junk = P' (pI 0) ∧ y.e.getD 38 .junk = P' (pI 0) ∧ y.e.length = 61 ∧ y.e.getD 4 .junk = .v (.c (.ref 0 0)) ∧ y.e.getD 8 .junk = .v (.c (.ref 1 0)) ∧ y.e.getD 9 .junk = .v (.c (.ref 25 0)) ∧ y.s.get 0 = some (.cells (cellsV (zV c t1 t2 v1 v2)) false) ∧ y.s.get 1 = some (.cells (cellsV (zV 0 0 0 0 0)) false) ∧ y.s.get 25 = some (.cells (cellsV (zV 1 t t v v)) false)) ?_ (k := 0) ?_)
    · rintro k ⟨e, ds, s1⟩ ⟨hds, h39, h38, hlen, h4, h8, h9, g0, g1, g25⟩
      simp only [Fr.mk.injEq, true_and, and_true] at hds h39 h38 hlen h4 h8 h9 g0 g1 g25
      subst hds
      refine Wc.seq ?_
      refine Wc.reg fun K hK => ?_; simp only [go_sem, ti3, ti9, ti77, ti4, ti35, ti75, ti34, ti32, ti22, ti29, ti30, ti48, hlen, h39, h38]; refine hK _ _ ?_; clear hK K
      refine Wc.seq (Wc.cond (t := false) (by simp only [go_sem, ti3, ti9, ti77, ti4, ti35, ti75, ti34, ti32, ti22, ti29, ti30, ti48, hlen]) (fun hc => by cases hc) (fun _ => Wc.exit ?_))
      exact ⟨rfl, rfl, by simp only [go_sem, ti3, ti9, ti77, ti4, ti35, ti75, ti34, ti32, ti22, ti29, ti30, ti48, hlen], by simp only [go_sem, ti3, ti9, ti77, ti4, ti35, ti75, ti34, ti32, ti22, ti29, ti30, ti48, hlen, h4], by simp only [go_sem, ti3, ti9, ti77, ti4, ti35, ti75, ti34, ti32, ti22, ti29, ti30, ti48, hlen, h8], by simp only [go_sem, ti3, ti9, ti77, ti4, ti35, ti75, ti34, ti32, ti22, ti29, ti30, ti48, hlen, h9], g0, g1, g25⟩
    · exact ⟨rfl, rfl, rfl, rfl, rfl, rfl, rfl, by simp only [go_sem, ti3, ti9, ti77, ti4, ti35, ti75, ti34, ti32, ti22, ti29, ti30, ti48], by simp only [go_sem, ti3, ti9, ti77, ti4, ti35, ti75, ti34, ti32, ti22, ti29, ti30, ti48], by simp only [go_sem, ti3, ti9, ti77, ti4, ti35, ti75, ti34, ti32, ti22, ti29, ti30, ti48]⟩
  · rintro ⟨e, ds, s1⟩ ⟨rfl, hlen, h4, h8, h9, g0, g1, g25⟩
    simp only [cellsV] at hlen h4 h8 h9 g0 g1 g25
    refine Wc.seq ?_
    refine Wc.reg fun K hK => ?_; simp only [go_sem, ti3, ti9, ti77, ti4, ti35, ti75, ti34, ti32, ti22, ti29, ti30, ti48, hlen, h4, h8, h9, g0, g1, g25]
    refine wpCall.pf hj (by kernel_rfl) (by kernel_rfl) rfl rfl ?_
    simp only [go_sem, ti3, ti9, ti77, ti4, ti35, ti75, ti34, ti32, ti22, ti29, ti30, ti48, hlen, h4, h8, h9, g0, g1, g25]; refine hK _ _ ?_; clear hK K
    exact Wc.ret (Pf.ret [.cell 8 32] [zV c' a b m n] rfl rfl (by simp only [resultsD, go_sem, ti3, ti9, ti77, ti4, ti35, ti75, ti34, ti32, ti22, ti29, ti30, ti48, hlen, h8]) rfl)
end Go.Proofs.YtafaoldmemcigaaGreat.Ab
namespace Go.Proofs.YtafaoldmemcigaaGreat.Ab
set_option maxHeartbeats 8000000
set_option maxRecDepth 10000
set_option linter.unusedSimpArgs false
set_option linter.unusedVariables false
def wthn (n a b : Int) : Bool := decide (a ≤ n) && decide (n ≤ b)
/-- 68: the reference's within -/
theorem pf68 (n a b : Int) : Pf E0 68 [.c (.p (pI n)), .c (.p (pI a)), .c (.p (pI b))] (P' (.bool (wthn n a b))) := by
  refine Pf.body (fn := Tryz.f68) (by kernel_rfl) rfl ?_; simp only [List.map_cons, List.map_nil, List.cons_append, List.nil_append, List.length_cons, List.length_nil, Tryz.ntmps68, List.replicate, Nat.reduceSub, Nat.reduceAdd]
  refine Wc.seq ?_
  refine Wc.reg fun K hK => ?_; simp only [go_sem, ti3, ti9, ti77, ti4, ti35, ti75, ti34, ti32, ti22, ti29, ti30, ti48]; refine hK _ _ ?_; clear hK K
  refine Wc.seq ?_
  by_cases h : a ≤ n
  · refine Wc.reg fun K hK => ?_; simp only [go_sem, ti3, ti9, ti77, ti4, ti35, ti75, ti34, ti32, ti22, ti29, ti30, ti48, h]; refine hK _ _ ?_; clear hK K
    exact Wc.ret (Pf.ret [.tmp 6] [.c (.p (.bool (wthn n a b)))] rfl rfl (by simp only [resultsD, go_sem, ti3, ti9, ti77, ti4, ti35, ti75, ti34, ti32, ti22, ti29, ti30, ti48, wthn, h, Bool.true_and]) rfl)
  · refine Wc.reg fun K hK => ?_; simp only [go_sem, ti3, ti9, ti77, ti4, ti35, ti75, ti34, ti32, ti22, ti29, ti30, ti48, h]; refine hK _ _ ?_; clear hK K
    exact Wc.ret (Pf.ret [.tmp 6] [.c (.p (.bool (wthn n a b)))] rfl rfl (by simp only [resultsD, go_sem, ti3, ti9, ti77, ti4, ti35, ti75, ti34, ti32, ti22, ti29, ti30, ti48, wthn, h, Bool.false_and]) rfl)
/-- 67: the reference's Check, of the zone of nothing -/
theorem pf67z : Pf E0 67 [zV 0 0 0 0 0] (P' (.int .i64 0)) := by
  have w0 : wthn 0 0 1152921504606846976 = true := by decide
  refine Pf.body (fn := Tryz.f67) (by kernel_rfl) rfl ?_; simp only [List.map_cons, List.map_nil, List.cons_append, List.nil_append, List.length_cons, List.length_nil, Tryz.ntmps67, List.replicate, Nat.reduceSub, Nat.reduceAdd]
  refine Wc.seq ?_
  refine Wc.reg fun K hK => ?_; simp only [go_sem, ti3, ti9, ti77, ti4, ti35, ti75, ti34, ti32, ti22, ti29, ti30, ti48]; refine hK _ _ ?_; clear hK K
  refine Wc.seq (Wc.seq ?_)
  refine Wc.reg fun K hK => ?_; simp only [go_sem, ti3, ti9, ti77, ti4, ti35, ti75, ti34, ti32, ti22, ti29, ti30, ti48]
  refine wpCall.pf (pf68 0 0 1152921504606846976) (by kernel_rfl) (by kernel_rfl) rfl rfl ?_
  simp only [go_sem, ti3, ti9, ti77, ti4, ti35, ti75, ti34, ti32, ti22, ti29, ti30, ti48, w0]; refine hK _ _ ?_; clear hK K
  refine Wc.cond (t := false) (by simp only [go_sem, ti3, ti9, ti77, ti4, ti35, ti75, ti34, ti32, ti22, ti29, ti30, ti48]) (fun hc => by cases hc) (fun _ => ?_)
  refine Wc.skip (Wc.seq (Wc.seq ?_))
  refine Wc.reg fun K hK => ?_; simp only [go_sem, ti3, ti9, ti77, ti4, ti35, ti75, ti34, ti32, ti22, ti29, ti30, ti48]; refine hK _ _ ?_; clear hK K
  refine Wc.cond (t := true) (by simp only [go_sem, ti3, ti9, ti77, ti4, ti35, ti75, ti34, ti32, ti22, ti29, ti30, ti48]) (fun _ => ?_) (fun hc => by cases hc)
  refine Wc.seq (Wc.seq ?_)
  refine Wc.reg fun K hK => ?_; simp only [go_sem, ti3, ti9, ti77, ti4, ti35, ti75, ti34, ti32, ti22, ti29, ti30, ti48, eqL, eqS]; refine hK _ _ ?_; clear hK K
  refine Wc.cond (t := false) (by simp only [go_sem, ti3, ti9, ti77, ti4, ti35, ti75, ti34, ti32, ti22, ti29, ti30, ti48]) (fun hc => by cases hc) (fun _ => ?_)
  refine Wc.skip (Wc.seq ?_)
  refine Wc.reg fun K hK => ?_; simp only [go_sem, ti3, ti9, ti77, ti4, ti35, ti75, ti34, ti32, ti22, ti29, ti30, ti48]; refine hK _ _ ?_; clear hK K
  exact Wc.ret (Pf.ret [.tmp 2] [.c (.p (.int .i64 0))] rfl rfl (by simp only [resultsD, go_sem, ti3, ti9, ti77, ti4, ti35, ti75, ti34, ti32, ti22, ti29, ti30, ti48]) rfl)
/-- 67: the reference's Check, of a valid zone -/
theorem pf67v {c t1 t2 v1 v2 : Int} (h : ZOk c t1 t2 v1 v2) : Pf E0 67 [zV c t1 t2 v1 v2] (P' (.int .i64 0)) := by
  have w0 : wthn c 0 1152921504606846976 = true := by have := h.c1; have := h.c2; simp [wthn]; omega
  have w1 : wthn t1 1 1099511627776 = true := h.a1
  have w2 : wthn t2 1 1099511627776 = true := h.a2
  have w3 : wthn v1 (-1099511627776) 1099511627776 = true := h.b1
  have w4 : wthn v2 (-1099511627776) 1099511627776 = true := h.b2
  have b3 : (c == 0) = false := by have := h.c1; simp; omega
  have b4 : (t2 < t1) = False := by have := h.a; simp; omega
  have b5 : (v2 < v1) = False := by have := h.b; simp; omega
  refine Pf.body (fn := Tryz.f67) (by kernel_rfl) rfl ?_; simp only [List.map_cons, List.map_nil, List.cons_append, List.nil_append, List.length_cons, List.length_nil, Tryz.ntmps67, List.replicate, Nat.reduceSub, Nat.reduceAdd]
  refine Wc.seq ?_
  refine Wc.reg fun K hK => ?_; simp only [go_sem, ti3, ti9, ti77, ti4, ti35, ti75, ti34, ti32, ti22, ti29, ti30, ti48]; refine hK _ _ ?_; clear hK K
  refine Wc.seq (Wc.seq ?_)
  refine Wc.reg fun K hK => ?_; simp only [go_sem, ti3, ti9, ti77, ti4, ti35, ti75, ti34, ti32, ti22, ti29, ti30, ti48]
  refine wpCall.pf (pf68 c 0 1152921504606846976) (by kernel_rfl) (by kernel_rfl) rfl rfl ?_
  simp only [go_sem, ti3, ti9, ti77, ti4, ti35, ti75, ti34, ti32, ti22, ti29, ti30, ti48, w0]; refine hK _ _ ?_; clear hK K
  refine Wc.cond (t := false) (by simp only [go_sem, ti3, ti9, ti77, ti4, ti35, ti75, ti34, ti32, ti22, ti29, ti30, ti48, w0]) (fun hc => by cases hc) (fun _ => ?_)
  refine Wc.skip (Wc.seq (Wc.seq ?_))
  refine Wc.reg fun K hK => ?_; simp only [go_sem, ti3, ti9, ti77, ti4, ti35, ti75, ti34, ti32, ti22, ti29, ti30, ti48, b3]; refine hK _ _ ?_; clear hK K
  refine Wc.cond (t := false) (by simp only [go_sem, ti3, ti9, ti77, ti4, ti35, ti75, ti34, ti32, ti22, ti29, ti30, ti48, b3]) (fun hc => by cases hc) (fun _ => ?_)
  refine Wc.skip (Wc.seq (Wc.seq ?_))
  refine Wc.reg fun K hK => ?_; simp only [go_sem, ti3, ti9, ti77, ti4, ti35, ti75, ti34, ti32, ti22, ti29, ti30, ti48]
  refine wpCall.pf (pf68 t1 1 1099511627776) (by kernel_rfl) (by kernel_rfl) rfl rfl ?_
  simp only [go_sem, ti3, ti9, ti77, ti4, ti35, ti75, ti34, ti32, ti22, ti29, ti30, ti48, w1]
  refine wpCall.pf (pf68 t2 1 1099511627776) (by kernel_rfl) (by kernel_rfl) rfl rfl ?_
  simp only [go_sem, ti3, ti9, ti77, ti4, ti35, ti75, ti34, ti32, ti22, ti29, ti30, ti48, w2]; refine hK _ _ ?_; clear hK K
  refine Wc.cond (t := false) (by simp only [go_sem, ti3, ti9, ti77, ti4, ti35, ti75, ti34, ti32, ti22, ti29, ti30, ti48, w1, w2]) (fun hc => by cases hc) (fun _ => ?_)
  refine Wc.skip (Wc.seq (Wc.seq ?_))
  refine Wc.reg fun K hK => ?_; simp only [go_sem, ti3, ti9, ti77, ti4, ti35, ti75, ti34, ti32, ti22, ti29, ti30, ti48, b4]; refine hK _ _ ?_; clear hK K
  refine Wc.cond (t := false) (by simp only [go_sem, ti3, ti9, ti77, ti4, ti35, ti75, ti34, ti32, ti22, ti29, ti30, ti48, b4]) (fun hc => by cases hc) (fun _ => ?_)
  refine Wc.skip (Wc.seq (Wc.seq ?_))
  refine Wc.reg fun K hK => ?_; simp only [go_sem, ti3, ti9, ti77, ti4, ti35, ti75, ti34, ti32, ti22, ti29, ti30, ti48]
  refine wpCall.pf (pf68 v1 (-1099511627776) 1099511627776) (by kernel_rfl) (by kernel_rfl) rfl rfl ?_
  simp only [go_sem, ti3, ti9, ti77, ti4, ti35, ti75, ti34, ti32, ti22, ti29, ti30, ti48, w3]
  refine wpCall.pf (pf68 v2 (-1099511627776) 1099511627776) (by kernel_rfl) (by kernel_rfl) rfl rfl ?_
  simp only [go_sem, ti3, ti9, ti77, ti4, ti35, ti75, ti34, ti32, ti22, ti29, ti30, ti48, w4]; refine hK _ _ ?_; clear hK K
  refine Wc.cond (t := false) (by simp only [go_sem, ti3, ti9, ti77, ti4, ti35, ti75, ti34, ti32, ti22, ti29, ti30, ti48, w3, w4]) (fun hc => by cases hc) (fun _ => ?_)
  refine Wc.skip (Wc.seq (Wc.seq ?_))
  refine Wc.reg fun K hK => ?_; simp only [go_sem, ti3, ti9, ti77, ti4, ti35, ti75, ti34, ti32, ti22, ti29, ti30, ti48, b5]; refine hK _ _ ?_; clear hK K
  refine Wc.cond (t := false) (by simp only [go_sem, ti3, ti9, ti77, ti4, ti35, ti75, ti34, ti32, ti22, ti29, ti30, ti48, b5]) (fun hc => by cases hc) (fun _ => ?_)
  refine Wc.skip (Wc.seq ?_)
  refine Wc.reg fun K hK => ?_; simp only [go_sem, ti3, ti9, ti77, ti4, ti35, ti75, ti34, ti32, ti22, ti29, ti30, ti48]; refine hK _ _ ?_; clear hK K
  exact Wc.ret (Pf.ret [.tmp 2] [.c (.p (.int .i64 0))] rfl rfl (by simp only [resultsD, go_sem, ti3, ti9, ti77, ti4, ti35, ti75, ti34, ti32, ti22, ti29, ti30, ti48]) rfl)
end Go.Proofs.YtafaoldmemcigaaGreat.Ab
namespace Go.Proofs.YtafaoldmemcigaaGreat.Ab
set_option maxHeartbeats 8000000
set_option maxRecDepth 10000
set_option linter.unusedSimpArgs false
set_option linter.unusedVariables false
/-- 70: Merge, with the zone of nothing -/
theorem pf70a {t v : Int} (hb : ZOk 1 t t v v) : Pf E0 70 [zV 0 0 0 0 0, zV 1 t t v v] (.v (zV 1 t t v v)) := by
  have b2 : ((0 : Int) != 0) = false := by decide
  refine Pf.body (fn := Tryz.f70) (by kernel_rfl) rfl ?_; simp only [List.map_cons, List.map_nil, List.cons_append, List.nil_append, List.length_cons, List.length_nil, Tryz.ntmps70, List.replicate, Nat.reduceSub, Nat.reduceAdd]
  refine Wc.seq ?_
  refine Wc.reg fun K hK => ?_; simp only [go_sem, ti3, ti9, ti77, ti4, ti35, ti75, ti34, ti32, ti22, ti29, ti30, ti48]; refine hK _ _ ?_; clear hK K
  refine Wc.seq (Wc.seq ?_)
  refine Wc.reg fun K hK => ?_; simp only [go_sem, ti3, ti9, ti77, ti4, ti35, ti75, ti34, ti32, ti22, ti29, ti30, ti48]
  refine wpCall.pf pf67z (by kernel_rfl) (by kernel_rfl) rfl rfl ?_
  simp only [go_sem, ti3, ti9, ti77, ti4, ti35, ti75, ti34, ti32, ti22, ti29, ti30, ti48, b2]
  refine wpCall.pf (pf67v hb) (by kernel_rfl) (by kernel_rfl) rfl rfl ?_
  simp only [go_sem, ti3, ti9, ti77, ti4, ti35, ti75, ti34, ti32, ti22, ti29, ti30, ti48, b2]; refine hK _ _ ?_; clear hK K
  refine Wc.cond (t := false) (by simp only [go_sem, ti3, ti9, ti77, ti4, ti35, ti75, ti34, ti32, ti22, ti29, ti30, ti48]) (fun hc => by cases hc) (fun _ => ?_)
  refine Wc.skip (Wc.seq (Wc.seq ?_))
  refine Wc.reg fun K hK => ?_; simp only [go_sem, ti3, ti9, ti77, ti4, ti35, ti75, ti34, ti32, ti22, ti29, ti30, ti48]; refine hK _ _ ?_; clear hK K
  refine Wc.cond (t := true) (by simp only [go_sem, ti3, ti9, ti77, ti4, ti35, ti75, ti34, ti32, ti22, ti29, ti30, ti48]) (fun _ => ?_) (fun hc => by cases hc)
  refine Wc.seq ?_
  refine Wc.reg fun K hK => ?_; simp only [go_sem, ti3, ti9, ti77, ti4, ti35, ti75, ti34, ti32, ti22, ti29, ti30, ti48]; refine hK _ _ ?_; clear hK K
  exact Wc.ret (Pf.ret [.cell 4 32] [zV 1 t t v v] rfl rfl (by simp only [resultsD, go_sem, ti3, ti9, ti77, ti4, ti35, ti75, ti34, ti32, ti22, ti29, ti30, ti48]) rfl)
/-- 70: Merge, with the zone of one more -/
theorem pf70b {c t1 t2 v1 v2 t v : Int} (ha : ZOk c t1 t2 v1 v2) (hc : c < 1152921504606846976) (hb : ZOk 1 t t v v) : Pf E0 70 [zV c t1 t2 v1 v2, zV 1 t t v v] (.v (zV (c + 1) (mn t1 t) (mx t2 t) (mn v1 v) (mx v2 v))) := by
  have h1 := ha.c1
  have b2 : ((0 : Int) != 0) = false := by decide
  have b3 : (c == 0) = false := by simp; omega
  have b4 : ((1 : Int) == 0) = false := by decide
  have e1 : IntKind.i64.wrap (c + 1) = c + 1 := by rw [wi64]; omega
  have e3 : ((1152921504606846976 : Int) < c + 1) = False := by simp; omega
  refine Pf.body (fn := Tryz.f70) (by kernel_rfl) rfl ?_; simp only [List.map_cons, List.map_nil, List.cons_append, List.nil_append, List.length_cons, List.length_nil, Tryz.ntmps70, List.replicate, Nat.reduceSub, Nat.reduceAdd]
  refine Wc.seq ?_
  refine Wc.reg fun K hK => ?_; simp only [go_sem, ti3, ti9, ti77, ti4, ti35, ti75, ti34, ti32, ti22, ti29, ti30, ti48]; refine hK _ _ ?_; clear hK K
  refine Wc.seq (Wc.seq ?_)
  refine Wc.reg fun K hK => ?_; simp only [go_sem, ti3, ti9, ti77, ti4, ti35, ti75, ti34, ti32, ti22, ti29, ti30, ti48]
  refine wpCall.pf (pf67v ha) (by kernel_rfl) (by kernel_rfl) rfl rfl ?_
  simp only [go_sem, ti3, ti9, ti77, ti4, ti35, ti75, ti34, ti32, ti22, ti29, ti30, ti48, b2]
  refine wpCall.pf (pf67v hb) (by kernel_rfl) (by kernel_rfl) rfl rfl ?_
  simp only [go_sem, ti3, ti9, ti77, ti4, ti35, ti75, ti34, ti32, ti22, ti29, ti30, ti48, b2]; refine hK _ _ ?_; clear hK K
  refine Wc.cond (t := false) (by simp only [go_sem, ti3, ti9, ti77, ti4, ti35, ti75, ti34, ti32, ti22, ti29, ti30, ti48]) (fun hc => by cases hc) (fun _ => ?_)
  refine Wc.skip (Wc.seq (Wc.seq ?_))
  refine Wc.reg fun K hK => ?_; simp only [go_sem, ti3, ti9, ti77, ti4, ti35, ti75, ti34, ti32, ti22, ti29, ti30, ti48, b3]; refine hK _ _ ?_; clear hK K
  refine Wc.cond (t := false) (by simp only [go_sem, ti3, ti9, ti77, ti4, ti35, ti75, ti34, ti32, ti22, ti29, ti30, ti48]) (fun hc => by cases hc) (fun _ => ?_)
  refine Wc.skip (Wc.seq (Wc.seq ?_))
  refine Wc.reg fun K hK => ?_; simp only [go_sem, ti3, ti9, ti77, ti4, ti35, ti75, ti34, ti32, ti22, ti29, ti30, ti48, b4]; refine hK _ _ ?_; clear hK K
  refine Wc.cond (t := false) (by simp only [go_sem, ti3, ti9, ti77, ti4, ti35, ti75, ti34, ti32, ti22, ti29, ti30, ti48]) (fun hc => by cases hc) (fun _ => ?_)
  refine Wc.skip (Wc.seq ?_)
  refine Wc.reg fun K hK => ?_; simp only [go_sem, ti3, ti9, ti77, ti4, ti35, ti75, ti34, ti32, ti22, ti29, ti30, ti48, foldO, e1, e3]; refine hK _ _ ?_; clear hK K
  refine Wc.seqA (fun y => y.ds = [] ∧ y.e.length = 68 ∧ y.e.getD 4 .junk = .v (.c (.ref 2 0)) ∧ y.e.getD 5 .junk = .v (.c (.ref 44 0)) ∧ y.s.get 44 = some (.cells (cellsV (zV (c + 1) (mn t1 t) (mx t2 t) (mn v1 v) (mx v2 v))) false) ∧ y.s.get 2 = some (.cells (cellsV (zV 0 0 0 0 0)) false)) ?_ ?_
  · refine Wc.seq ?_
    refine Wc.reg fun K hK => ?_; simp only [go_sem, ti3, ti9, ti77, ti4, ti35, ti75, ti34, ti32, ti22, ti29, ti30, ti48]; refine hK _ _ ?_; clear hK K
    have e5 : orI .u32 0 0 = 0 := by decide
    refine Wc.block (Wc.loop (fun k y => ∃ (i : Nat), k = 8 - i ∧ i ≤ 8 ∧ y.ds = [] ∧ y.e.length = 68 ∧ y.e.getD 2 .junk = .v (.c (.ref 0 0)) ∧ y.e.getD 3 .junk = .v (.c (.ref 1 0)) ∧ y.e.getD 4 .junk = .v (.c (.ref 2 0)) ∧ y.e.getD 5 .junk = .v (.c (.ref 44 0)) ∧ y.e.getD 6 .junk = P' (pI i) ∧
      y.s.get 44 = some (.cells (cellsV (zV (c + 1) (mn t1 t) (mx t2 t) (mn v1 v) (mx v2 v))) false) ∧ y.s.get 0 = some (.cells (cellsV (zV c t1 t2 v1 v2)) false) ∧ y.s.get 1 = some (.cells (cellsV (zV 1 t t v v)) false) ∧ y.s.get 2 = some (.cells (cellsV (zV 0 0 0 0 0)) false)) ?_ (k := 8) ?_)
    · rintro k ⟨e, ds, s1⟩ ⟨i, rfl, hi, rfl, hlen, h2, h3, h4, h5, h6, hs, hs0, hs1, hs2⟩
      simp only [cellsV] at hlen h2 h3 h4 h5 h6 hs hs0 hs1 hs2
      rcases (by omega : i = 0 ∨ i = 1 ∨ i = 2 ∨ i = 3 ∨ i = 4 ∨ i = 5 ∨ i = 6 ∨ i = 7 ∨ i = 8) with h | h | h | h | h | h | h | h | h
      rotate_right
      · refine Wc.seq (Wc.seq ?_)
        refine Wc.reg fun K hK => ?_; simp only [go_sem, ti3, ti9, ti77, ti4, ti35, ti75, ti34, ti32, ti22, ti29, ti30, ti48, hlen, h6, h, Int.cast_ofNat_Int]; refine hK _ _ ?_; clear hK K
        refine Wc.cond (t := false) (by simp only [go_sem, ti3, ti9, ti77, ti4, ti35, ti75, ti34, ti32, ti22, ti29, ti30, ti48, hlen]) (fun hc => by cases hc) (fun _ => Wc.exit ?_)
        exact ⟨rfl, rfl, by simp only [go_sem, ti3, ti9, ti77, ti4, ti35, ti75, ti34, ti32, ti22, ti29, ti30, ti48, hlen], by simp only [go_sem, ti3, ti9, ti77, ti4, ti35, ti75, ti34, ti32, ti22, ti29, ti30, ti48, hlen, h4], by simp only [go_sem, ti3, ti9, ti77, ti4, ti35, ti75, ti34, ti32, ti22, ti29, ti30, ti48, hlen, h5], hs, hs2⟩
      all_goals
        refine Wc.seq (Wc.seq ?_)
        refine Wc.reg fun K hK => ?_; simp only [go_sem, ti3, ti9, ti77, ti4, ti35, ti75, ti34, ti32, ti22, ti29, ti30, ti48, hlen, h6, h, Int.cast_ofNat_Int, Int.natCast_zero, Int.natCast_one]; refine hK _ _ ?_; clear hK K
        refine Wc.cond (t := true) (by simp only [go_sem, ti3, ti9, ti77, ti4, ti35, ti75, ti34, ti32, ti22, ti29, ti30, ti48, hlen]) (fun _ => Wc.skip ?_) (fun hc => by cases hc)
        refine Wc.seq (Wc.block ?_)
        refine Wc.regT fun K hK => ?_
        simp only [go_sem, ti3, ti9, ti77, ti4, ti35, ti75, ti34, ti32, ti22, ti29, ti30, ti48, hlen, h2, h3, h4, h5, h6, hs, hs0, hs1, hs2, e5, h, Int.cast_ofNat_Int, Int.natCast_zero, Int.natCast_one, indexAddrD]
        refine ⟨by rfl, hK _ _ ?_⟩
        clear hK K
        refine Wc.reg fun K hK => ?_; simp only [go_sem, ti3, ti9, ti77, ti4, ti35, ti75, ti34, ti32, ti22, ti29, ti30, ti48, hlen, h2, h3, h4, h5, h6, h, Int.cast_ofNat_Int, Int.natCast_zero, Int.natCast_one]; refine hK _ _ ?_; clear hK K
        exact ⟨8 - (i + 1), by omega, i + 1, rfl, by omega, rfl, by simp only [go_sem, ti3, ti9, ti77, ti4, ti35, ti75, ti34, ti32, ti22, ti29, ti30, ti48, hlen], by simp only [go_sem, ti3, ti9, ti77, ti4, ti35, ti75, ti34, ti32, ti22, ti29, ti30, ti48, hlen, h2], by simp only [go_sem, ti3, ti9, ti77, ti4, ti35, ti75, ti34, ti32, ti22, ti29, ti30, ti48, hlen, h3], by simp only [go_sem, ti3, ti9, ti77, ti4, ti35, ti75, ti34, ti32, ti22, ti29, ti30, ti48, hlen, h4], by simp only [go_sem, ti3, ti9, ti77, ti4, ti35, ti75, ti34, ti32, ti22, ti29, ti30, ti48, hlen, h5], by simp only [go_sem, ti3, ti9, ti77, ti4, ti35, ti75, ti34, ti32, ti22, ti29, ti30, ti48, hlen, h, wi64]; rfl, by simp only [go_sem, ti3, ti9, ti77, ti4, ti35, ti75, ti34, ti32, ti22, ti29, ti30, ti48, hs], by simp only [go_sem, ti3, ti9, ti77, ti4, ti35, ti75, ti34, ti32, ti22, ti29, ti30, ti48, hs0], by simp only [go_sem, ti3, ti9, ti77, ti4, ti35, ti75, ti34, ti32, ti22, ti29, ti30, ti48, hs1], by simp only [go_sem, ti3, ti9, ti77, ti4, ti35, ti75, ti34, ti32, ti22, ti29, ti30, ti48, hs2]⟩
    · exact ⟨0, rfl, by omega, rfl, rfl, rfl, rfl, rfl, rfl, rfl, by simp only [go_sem, ti3, ti9, ti77, ti4, ti35, ti75, ti34, ti32, ti22, ti29, ti30, ti48, ormn, ormx], by simp only [go_sem, ti3, ti9, ti77, ti4, ti35, ti75, ti34, ti32, ti22, ti29, ti30, ti48], by simp only [go_sem, ti3, ti9, ti77, ti4, ti35, ti75, ti34, ti32, ti22, ti29, ti30, ti48], by simp only [go_sem, ti3, ti9, ti77, ti4, ti35, ti75, ti34, ti32, ti22, ti29, ti30, ti48]⟩
  · rintro ⟨e, ds, s1⟩ ⟨rfl, hlen, h4, h5, hs, hs2⟩
    simp only [cellsV] at hlen h4 h5 hs hs2
    refine Wc.seq ?_
    refine Wc.reg fun K hK => ?_; simp only [go_sem, ti3, ti9, ti77, ti4, ti35, ti75, ti34, ti32, ti22, ti29, ti30, ti48, hlen, h4, h5, hs, hs2]; refine hK _ _ ?_; clear hK K
    exact Wc.ret (Pf.ret [.cell 4 32] [zV (c + 1) (mn t1 t) (mx t2 t) (mn v1 v) (mx v2 v)] rfl rfl (by simp only [resultsD, go_sem, ti3, ti9, ti77, ti4, ti35, ti75, ti34, ti32, ti22, ti29, ti30, ti48, hlen, h4]) rfl)
end Go.Proofs.YtafaoldmemcigaaGreat.Ab
namespace Go.Proofs.YtafaoldmemcigaaGreat.Ab
set_option maxHeartbeats 8000000
set_option maxRecDepth 10000
set_option linter.unusedSimpArgs false
set_option linter.unusedVariables false
/-- 30: the reference's Add, without strings -/
theorem pf30 {c t1 t2 v1 v2 t v c' a b m n : Int} (hz : Pf E0 67 [zV c t1 t2 v1 v2] (P' (.int .i64 0))) (hc : c < 1152921504606846976) (ht : isT t = true) (hv : isVl v = true)
    (hj : Pf E0 70 [zV c t1 t2 v1 v2, zV 1 t t v v] (.v (zV c' a b m n))) : Pf E0 30 [zV c t1 t2 v1 v2, .c (.p (pI t)), .c (.p (pI v)), .c (.p (.lst 0 []))] (.v (zV c' a b m n)) := by
  have b1 : (c == 1152921504606846976) = false := by simp; omega
  have b2 : ((0 : Int) != 0) = false := by decide
  have w1 : wthn t 1 1099511627776 = true := ht
  have w2 : wthn v (-1099511627776) 1099511627776 = true := hv
  refine Pf.body (fn := Tryz.f30) (by kernel_rfl) rfl ?_; simp only [List.map_cons, List.map_nil, List.cons_append, List.nil_append, List.length_cons, List.length_nil, Tryz.ntmps30, List.replicate, Nat.reduceSub, Nat.reduceAdd]
  refine Wc.seq ?_
  refine Wc.reg fun K hK => ?_; simp only [go_sem, ti3, ti9, ti77, ti4, ti35, ti75, ti34, ti32, ti22, ti29, ti30, ti48]; refine hK _ _ ?_; clear hK K
  refine Wc.seq (Wc.seq ?_)
  refine Wc.reg fun K hK => ?_; simp only [go_sem, ti3, ti9, ti77, ti4, ti35, ti75, ti34, ti32, ti22, ti29, ti30, ti48]
  refine wpCall.pf hz (by kernel_rfl) (by kernel_rfl) rfl rfl ?_
  simp only [go_sem, ti3, ti9, ti77, ti4, ti35, ti75, ti34, ti32, ti22, ti29, ti30, ti48, b2]
  refine wpCall.pf (pf68 t 1 1099511627776) (by kernel_rfl) (by kernel_rfl) rfl rfl ?_
  simp only [go_sem, ti3, ti9, ti77, ti4, ti35, ti75, ti34, ti32, ti22, ti29, ti30, ti48, w1]
  refine wpCall.pf (pf68 v (-1099511627776) 1099511627776) (by kernel_rfl) (by kernel_rfl) rfl rfl ?_
  simp only [go_sem, ti3, ti9, ti77, ti4, ti35, ti75, ti34, ti32, ti22, ti29, ti30, ti48, w2, b1]; refine hK _ _ ?_; clear hK K
  refine Wc.cond (t := false) (by simp only [go_sem, ti3, ti9, ti77, ti4, ti35, ti75, ti34, ti32, ti22, ti29, ti30, ti48, w1, w2, b1, b2]) (fun hc => by cases hc) (fun _ => ?_)
  refine Wc.skip (Wc.seq ?_)
  refine Wc.reg fun K hK => ?_; simp only [go_sem, ti3, ti9, ti77, ti4, ti35, ti75, ti34, ti32, ti22, ti29, ti30, ti48]; refine hK _ _ ?_; clear hK K
  refine Wc.seqA (fun y => y.ds = [] ∧ y.e.length = 69 ∧ y.e.getD 4 .junk = .v (.c (.ref 0 0)) ∧ y.e.getD 8 .junk = .v (.c (.ref 1 0)) ∧ y.e.getD 9 .junk = .v (.c (.ref 25 0)) ∧ y.s.get 0 = some (.cells (cellsV (zV c t1 t2 v1 v2)) false) ∧ y.s.get 1 = some (.cells (cellsV (zV 0 0 0 0 0)) false) ∧ y.s.get 25 = some (.cells (cellsV (zV 1 t t v v)) false)) ?_ ?_
  · refine Wc.seq ?_
    refine Wc.reg fun K hK => ?_; simp only [go_sem, ti3, ti9, ti77, ti4, ti35, ti75, ti34, ti32, ti22, ti29, ti30, ti48]; refine hK _ _ ?_; clear hK K
    refine Wc.block (Wc.loop (fun k y => y = { e := y.e, ds := [], s := y.s } ∧ y.e.getD 10 .junk = P' (pI 0) ∧ y.e.getD 3 .junk = P' (.lst 0 []) ∧ y.e.length = 69 ∧ y.e.getD 4 .junk = .v (.c (.ref 0 0)) ∧ y.e.getD 8 .junk = .v (.c (.ref 1 0)) ∧ y.e.getD 9 .junk = .v (.c (.ref 25 0)) ∧ y.s.get 0 = some (.cells (cellsV (zV c t1 t2 v1 v2)) false) ∧ y.s.get 1 = some (.cells (cellsV (zV 0 0 0 0 0)) false) ∧ y.s.get 25 = some (.cells (cellsV (zV 1 t t v v)) false)) ?_ (k := 0) ?_)
    · rintro k ⟨e, ds, s1⟩ ⟨hds, h10, h3, hlen, h4, h8, h9, g0, g1, g25⟩
      simp only [Fr.mk.injEq, true_and, and_true] at hds h10 h3 hlen h4 h8 h9 g0 g1 g25
      subst hds
      refine Wc.seq (Wc.seq ?_)
      refine Wc.reg fun K hK => ?_; simp only [go_sem, ti3, ti9, ti77, ti4, ti35, ti75, ti34, ti32, ti22, ti29, ti30, ti48, hlen, h10, h3, Int.natCast_zero]; refine hK _ _ ?_; clear hK K
      refine Wc.cond (t := false) (by simp only [go_sem, ti3, ti9, ti77, ti4, ti35, ti75, ti34, ti32, ti22, ti29, ti30, ti48, hlen]) (fun hc => by cases hc) (fun _ => Wc.exit ?_)
      exact ⟨rfl, rfl, by simp only [go_sem, ti3, ti9, ti77, ti4, ti35, ti75, ti34, ti32, ti22, ti29, ti30, ti48, hlen], by simp only [go_sem, ti3, ti9, ti77, ti4, ti35, ti75, ti34, ti32, ti22, ti29, ti30, ti48, hlen, h4], by simp only [go_sem, ti3, ti9, ti77, ti4, ti35, ti75, ti34, ti32, ti22, ti29, ti30, ti48, hlen, h8], by simp only [go_sem, ti3, ti9, ti77, ti4, ti35, ti75, ti34, ti32, ti22, ti29, ti30, ti48, hlen, h9], g0, g1, g25⟩
    · exact ⟨rfl, rfl, rfl, rfl, rfl, rfl, rfl, by simp only [go_sem, ti3, ti9, ti77, ti4, ti35, ti75, ti34, ti32, ti22, ti29, ti30, ti48], by simp only [go_sem, ti3, ti9, ti77, ti4, ti35, ti75, ti34, ti32, ti22, ti29, ti30, ti48], by simp only [go_sem, ti3, ti9, ti77, ti4, ti35, ti75, ti34, ti32, ti22, ti29, ti30, ti48]⟩
  · rintro ⟨e, ds, s1⟩ ⟨rfl, hlen, h4, h8, h9, g0, g1, g25⟩
    simp only [cellsV] at hlen h4 h8 h9 g0 g1 g25
    refine Wc.seq ?_
    refine Wc.reg fun K hK => ?_; simp only [go_sem, ti3, ti9, ti77, ti4, ti35, ti75, ti34, ti32, ti22, ti29, ti30, ti48, hlen, h4, h8, h9, g0, g1, g25]
    refine wpCall.pf hj (by kernel_rfl) (by kernel_rfl) rfl rfl ?_
    simp only [go_sem, ti3, ti9, ti77, ti4, ti35, ti75, ti34, ti32, ti22, ti29, ti30, ti48, hlen, h4, h8, h9, g0, g1, g25]; refine hK _ _ ?_; clear hK K
    exact Wc.ret (Pf.ret [.cell 8 32] [zV c' a b m n] rfl rfl (by simp only [resultsD, go_sem, ti3, ti9, ti77, ti4, ti35, ti75, ti34, ti32, ti22, ti29, ti30, ti48, hlen, h8]) rfl)
/-- The zone of elements, one behind the other. -/
structure Zo where
  c : Int
  t1 : Int
  t2 : Int
  v1 : Int
  v2 : Int
abbrev Zo.V (z : Zo) : Go.Proofs.YtafaoldmemcigaaGreat.Ab.V := zV z.c z.t1 z.t2 z.v1 z.v2
def Zo.none : Zo := ⟨0, 0, 0, 0, 0⟩
def Zo.add (z : Zo) (t v : Int) : Zo := if z.c = 0 then ⟨1, t, t, v, v⟩ else ⟨z.c + 1, mn z.t1 t, mx z.t2 t, mn z.v1 v, mx z.v2 v⟩
def Zo.ok (z : Zo) : Prop := z = Zo.none ∨ ZOk z.c z.t1 z.t2 z.v1 z.v2
theorem ZOk.one {t v : Int} (ht : isT t = true) (hv : isVl v = true) : ZOk 1 t t v v := ⟨by decide, by decide, ht, ht, Int.le_refl _, hv, hv, Int.le_refl _⟩
theorem Zo.add_ok {z : Zo} (h : z.ok) (hc : z.c < 1152921504606846976) {t v : Int} (ht : isT t = true) (hv : isVl v = true) : (z.add t v).ok ∧ (z.add t v).c = z.c + 1 := by
  rcases h with rfl | h
  · exact ⟨.inr (ZOk.one ht hv), rfl⟩
  · have h0 : ¬ z.c = 0 := by have := h.c1; omega
    unfold Zo.add
    rw [if_neg h0]
    refine ⟨.inr ⟨by have := h.c1; simp only; omega, by simp only; omega, ?_, ?_, ?_, ?_, ?_, ?_⟩, rfl⟩
    · simp only [mn]; split <;> first | exact ht | exact h.a1
    · simp only [mx]; split <;> first | exact ht | exact h.a2
    · have := h.a; simp only [mn, mx]; split <;> split <;> omega
    · simp only [mn]; split <;> first | exact hv | exact h.b1
    · simp only [mx]; split <;> first | exact hv | exact h.b2
    · have := h.b; simp only [mn, mx]; split <;> split <;> omega
/-- 23 and 30: both add alike. -/
theorem pfAdd {z : Zo} (h : z.ok) (hc : z.c < 1152921504606846976) {t v : Int} (ht : isT t = true) (hv : isVl v = true) :
    Pf E0 23 [z.V, .c (.p (pI t)), .c (.p (pI v)), .c (.p (.lst 0 []))] (.v (z.add t v).V) ∧ Pf E0 30 [z.V, .c (.p (pI t)), .c (.p (pI v)), .c (.p (.lst 0 []))] (.v (z.add t v).V) := by
  have h1 := ZOk.one ht hv
  rcases h with rfl | h
  · exact ⟨pf23 pf17z (by decide) ht hv (pf55a 1 t t v v), pf30 pf67z (by decide) ht hv (pf70a h1)⟩
  · have h0 : ¬ z.c = 0 := by have := h.c1; omega
    unfold Zo.add
    rw [if_neg h0]
    exact ⟨pf23 (pf17v h) hc ht hv (pf55b _ _ _ _ _ t v h.c1 hc), pf30 (pf67v h) hc ht hv (pf70b h hc h1)⟩
end Go.Proofs.YtafaoldmemcigaaGreat.Ab
namespace Go.Proofs.YtafaoldmemcigaaGreat.Ab
set_option maxHeartbeats 4000000
set_option maxRecDepth 10000
set_option linter.unusedSimpArgs false
set_option linter.unusedVariables false
theorem stepK_elim {r : Option (D × St)} {k : D → St → Prop} (h : stepK r k) : ∃ d s', r = some (d, s') ∧ k d s' := by
  cases r with
  | none => exact h.elim
  | some x => exact ⟨x.1, x.2, rfl, h⟩
/-- A Builder's bytes: none, or a row of bytes. -/
def Tg (s : St) (b : C) : Prop := b = .nils ∨ ∃ n cs id, b = .own n cs id ∧ (0 < n ∧ n ≤ 140737488355328) ∧ ∃ m, s.get id = some (.front 1 m 5)
theorem Tg.adv {s : St} {b : C} (h : Tg s b) (n : Nat) : Tg (s.adv n) b := h
theorem Tg.put {s : St} {b : C} (h : Tg s b) {k : Nat} {o : Ob} (hk : ∀ m, s.get k ≠ some (.front 1 m 5)) : Tg (s.put k o) b := by
  rcases h with h | ⟨n, cs, id, h1, h2, m, h3⟩
  · exact .inl h
  · refine .inr ⟨n, cs, id, h1, h2, m, ?_⟩
    rw [St.get_put, if_neg]; exact h3
    rintro rfl
    exact hk _ h3
theorem appT_of {s s' : St} {b : C} {n key : Nat} {cs : List Pd} {t : List UInt8} {d : D} (ho : Own s 1 (.v (.c b)) n cs) (htg : Tg s b) (hn : n + t.length ≤ 140737488355328)
    (h : appendD E0 key [111, 9] (.v (.c b)) (P' (.str t)) s = some (d, s')) : ∃ b', d = .v (.c b') ∧ Tg s' b' := by
  obtain ⟨hl, h2⟩ := ho
  unfold appendD at h
  simp only [ti111, ti5, srcD, ti9, P', List.length_map, Nat.mul_one, if_true] at h
  rcases h2 with ⟨h2, rfl⟩ | ⟨id, h2, tg, hid⟩
  · cases h2
    by_cases ht : t.length = 0
    · rw [if_pos ht] at h
      cases h
      exact ⟨_, rfl, .inl rfl⟩
    · rw [if_neg ht] at h
      simp only at h
      split at h
      · cases h
        exact ⟨_, rfl, .inr ⟨_, _, _, rfl, ⟨by omega, by omega⟩, _, St.get_put_same _ _ _⟩⟩
      · cases h
  · cases h2
    rcases htg with htg | ⟨n', cs', id', h1, h2, m, h3⟩
    · cases htg
    · cases h1
      rw [hid] at h3
      cases h3
      by_cases ht : t.length = 0
      · rw [if_pos ht] at h
        cases h
        exact ⟨_, rfl, .inr ⟨_, _, _, rfl, h2, _, hid⟩⟩
      · rw [if_neg ht] at h
        simp only [hid] at h
        split at h
        · cases h
          exact ⟨_, rfl, .inr ⟨_, _, _, rfl, ⟨by omega, hn⟩, n + t.length, by rw [St.get_put_same, if_pos trivial]⟩⟩
        · cases h
theorem appT {bb key : Nat} {s : St} {L1 L2 : List (Nat × D × Nat × List Pd)} {M : List (Nat × Ob)} {b : C} {n : Nat} {cs : List Pd} {t : List UInt8} {k : D → St → Prop} (h : OA bb s (L1 ++ (1, .v (.c b), n, cs) :: L2) M) (hkey : bb ≤ key) (htg : Tg s b)
    (hn : n + t.length ≤ 140737488355328) (hk : ∀ b' s', OA (key + 1) s' (L1 ++ (1, .v (.c b'), n + t.length, cs ++ t.map pdOfByte) :: L2) M → s'.nx = s.nx → Tg s' b' → k (.v (.c b')) s') : stepK (appendD E0 key [111, 9] (.v (.c b)) (.v (.c (.p (.str t)))) s) k := by
  have ho : Own s 1 (.v (.c b)) n cs := h.own (1, .v (.c b), n, cs) (by simp)
  obtain ⟨d, s1, hap, hoa, hnx⟩ := stepK_elim (OA.app (E := E0) (key := key) (t := 111) (u := 9) (e := 5) (by_ := 1) (n := n) (m := t.length) (ys := t.map pdOfByte) (y := P' (.str t)) (k := fun x' s' => OA (key + 1) s' (L1 ++ (1, x', n + t.length, cs ++ t.map pdOfByte) :: L2) M ∧ s'.nx = s.nx) h hkey ⟨_, ti111, rfl⟩ ti5 rfl rfl rfl (by decide) (by decide) (by simp only [srcD, ti9, P']) (by simp) (by omega) fun x' s' h1 h2 => ⟨h1, h2⟩)
  obtain ⟨b', rfl, hc⟩ := appT_of ho htg hn hap
  rw [show D.v (.c (.p (.str t))) = P' (.str t) from rfl, hap]
  exact hk b' s1 hoa hnx hc
/-- 130: copyCheck -/
theorem call130 {bb : Nat} {s : St} {L : List (Nat × D × Nat × List Pd)} {M1 M2 : List (Nat × Ob)} {r : Nat} {a b : C} {K : D → St → Prop} (h : OA bb s L (M1 ++ (r, .tc 150 [a, b]) :: M2)) (ha : isOwner r 0 a = true)
    (hK : ∀ s', OA bb s' L (M1 ++ (r, .tc 150 [.ref r 0, b]) :: M2) → s'.nx = s.nx → (∀ c, Tg s c → Tg s' c) → K (.tup []) s') : wpCall E0 (.v (.c (.p (.fnc 130)))) [.v (.c (.ref r 0))] s K := by
  have hr : s.get r = some (.tc 150 [a, b]) := h.at_ (r, .tc 150 [a, b]) (by simp)
  unfold isOwner at ha
  split at ha
  · refine wpCall.xt (h := bldK) (by kernel_rfl) rfl (s' := s.put r (.tc 150 [.ref r 0, b])) (d := .tup []) (by simp only [bldK, hr, and_self, if_true]) (hK _ (h.set rfl) rfl fun c hc => hc.put fun m e => ?_)
    rw [hr] at e; cases e
  · simp only [Bool.and_eq_true, beq_iff_eq] at ha
    obtain ⟨rfl, rfl⟩ := ha
    exact wpCall.xt (h := bldK) (by kernel_rfl) rfl (s' := s) (d := .tup []) (by simp only [bldK, hr, and_self, if_true]) (hK _ h rfl fun c hc => hc)
  · cases ha
/-- 107: WriteString -/
theorem call107 {bb : Nat} {s : St} {L1 L2 : List (Nat × D × Nat × List Pd)} {M1 M2 : List (Nat × Ob)} {r : Nat} {a b : C} {n : Nat} {cs : List Pd} {t : List UInt8} {K : D → St → Prop} (h : OA bb s (L1 ++ (1, .v (.c b), n, cs) :: L2) (M1 ++ (r, .tc 150 [a, b]) :: M2)) (hbb : bb ≤ s.nx) (htg : Tg s b) (ha : isOwner r 0 a = true) (hn : n + t.length ≤ 140737488355328)
    (hK : ∀ b' s', OA s'.nx s' (L1 ++ (1, .v (.c b'), n + t.length, cs ++ t.map pdOfByte) :: L2) (M1 ++ (r, .tc 150 [.ref r 0, b']) :: M2) → Tg s' b' → s.nx ≤ s'.nx → K (.tup [.c (.p (.int .i64 t.length)), .c (.p .nili)]) s') :
    wpCall E0 (.v (.c (.p (.fnc 107)))) [.v (.c (.ref r 0)), .v (.c (.p (.str t)))] s K := by
  refine wpCall.opn (fn := Tryz.f107) (by kernel_rfl) (by kernel_rfl) rfl (by kernel_rfl) rfl ?_; simp only [List.map_cons, List.map_nil, List.cons_append, List.nil_append, List.length_cons, List.length_nil, Tryz.ntmps107, List.replicate, Nat.reduceSub, Nat.reduceAdd]
  refine Wc.seq ?_
  refine Wc.reg fun K hK => ?_; simp only [go_sem, ti3, ti113, ti9, ti5, ti111, ti77, ti4, ti35, ti150]; refine hK _ _ ?_; clear hK K
  refine Wc.seq ?_
  refine Wc.reg fun K hK => ?_; simp only [go_sem, ti3, ti113, ti9, ti5, ti111, ti77, ti4, ti35, ti150]
  refine call130 (h.adv.adv) ha fun s1 h1 hnx1 htg1 => ?_
  have htg2 := htg1 b htg
  have hr : s1.get r = some (.tc 150 [.ref r 0, b]) := h1.at_ (r, .tc 150 [.ref r 0, b]) (by simp)
  simp only [go_sem, ti3, ti113, ti9, ti5, ti111, ti77, ti4, ti35, ti150]; refine hK _ _ ?_; clear hK K
  refine Wc.seq ?_
  refine Wc.reg fun K hK => ?_; simp only [go_sem, ti3, ti113, ti9, ti5, ti111, ti77, ti4, ti35, ti150, hr]
  refine appT (h1.adv (n := 10)) (by simp only [St.nx_adv] at hnx1; omega) htg2 hn fun b' s2 h2 hnx2 htg3 => ?_
  have hr2 : s2.get r = some (.tc 150 [.ref r 0, b]) := h2.at_ (r, .tc 150 [.ref r 0, b]) (by simp)
  simp only [go_sem, ti3, ti113, ti9, ti5, ti111, ti77, ti4, ti35, ti150, hr2]; refine hK _ _ ?_; clear hK K
  refine Wc.seq ?_
  refine Wc.reg fun K hK => ?_; simp only [go_sem, ti3, ti113, ti9, ti5, ti111, ti77, ti4, ti35, ti150]; refine hK _ _ ?_; clear hK K
  refine Wc.ret (Op.ret [.tmp 4, .tmp 5] [.c (.p (.int .i64 t.length)), .c (.p .nili)] rfl rfl (by simp only [resultsD, go_sem, ti3, ti113, ti9, ti5, ti111, ti77, ti4, ti35, ti150]) (hK b' _ ?_ ?_ ?_))
  · refine OA.adv (OA.mono (OA.set h2 rfl) ?_)
    simp only [St.nx_put, St.nx_adv] at hnx1 hnx2 ⊢; omega
  · exact (htg3.put fun m e => by rw [hr2] at e; cases e).adv _
  · simp only [St.nx_put, St.nx_adv] at hnx1 hnx2 ⊢; omega
end Go.Proofs.YtafaoldmemcigaaGreat.Ab
namespace Go.Proofs.YtafaoldmemcigaaGreat.Ab
set_option maxHeartbeats 4000000
set_option maxRecDepth 10000
set_option linter.unusedSimpArgs false
set_option linter.unusedVariables false
/-- 109: String -/
theorem call109 {bb : Nat} {s : St} {L1 L2 : List (Nat × D × Nat × List Pd)} {M1 M2 : List (Nat × Ob)} {r : Nat} {a b : C} {n : Nat} {t : List UInt8} {K : D → St → Prop} (h : OA bb s (L1 ++ (1, .v (.c b), n, t.map pdOfByte) :: L2) (M1 ++ (r, .tc 150 [a, b]) :: M2)) (htg : Tg s b)
    (hK : K (P' (.str t)) s) : wpCall E0 (.v (.c (.p (.fnc 109)))) [.v (.c (.ref r 0))] s K := by
  have hr : s.get r = some (.tc 150 [a, b]) := h.at_ (r, .tc 150 [a, b]) (by simp)
  obtain ⟨hl, h2⟩ := h.own (1, .v (.c b), n, t.map pdOfByte) (by simp)
  simp only [List.length_map, Nat.mul_one] at hl
  simp only [D.v.injEq, V.c.injEq] at h2
  refine wpCall.xt (h := bldS) (by kernel_rfl) rfl (s' := s) (d := P' (.str t)) ?_ hK
  rcases h2 with ⟨h2, h3⟩ | ⟨id, h2, tg, hid⟩
  · subst h2
    have : t = [] := List.length_eq_zero_iff.1 (by omega)
    subst this
    simp only [bldS, hr, and_self, if_true]
  · subst h2
    rcases htg with htg | ⟨n', cs', id', h1, h2, m, h3⟩
    · cases htg
    · cases h1
      rw [hid] at h3
      cases h3
      simp only [bldS, hr, hid, allM_byteS_of, hl, h2.1, h2.2, and_self, if_true]
/-- 108: Len -/
theorem call108 {bb : Nat} {s : St} {L1 L2 : List (Nat × D × Nat × List Pd)} {M1 M2 : List (Nat × Ob)} {r : Nat} {a b : C} {n : Nat} {cs : List Pd} {K : D → St → Prop} (h : OA bb s (L1 ++ (1, .v (.c b), n, cs) :: L2) (M1 ++ (r, .tc 150 [a, b]) :: M2))
    (hK : ∀ m, K (P' (.int .i64 n)) (s.adv m)) : wpCall E0 (.v (.c (.p (.fnc 108)))) [.v (.c (.ref r 0))] s K := by
  have hr : s.get r = some (.tc 150 [a, b]) := h.at_ (r, .tc 150 [a, b]) (by simp)
  obtain ⟨hl, h2⟩ := h.own (1, .v (.c b), n, cs) (by simp)
  simp only [D.v.injEq, V.c.injEq] at h2
  refine wpCall.opn (fn := Tryz.f108) (by kernel_rfl) (by kernel_rfl) rfl (by kernel_rfl) rfl ?_; simp only [List.map_cons, List.map_nil, List.cons_append, List.nil_append, List.length_cons, List.length_nil, Tryz.ntmps108, List.replicate, Nat.reduceSub, Nat.reduceAdd]
  rcases h2 with ⟨h2, h3⟩ | ⟨id, h2, tg, hid⟩
  · subst h2 h3
    refine Wc.seq ?_
    refine Wc.reg fun K hK => ?_; simp only [go_sem, ti3, ti113, ti9, ti5, ti111, ti77, ti4, ti35, ti150]; refine hK _ _ ?_; clear hK K
    refine Wc.seq ?_
    refine Wc.reg fun K hK => ?_; simp only [go_sem, ti3, ti113, ti9, ti5, ti111, ti77, ti4, ti35, ti150, hr]; refine hK _ _ ?_; clear hK K
    exact Wc.ret (Op.ret [.tmp 2] [.c (.p (.int .i64 0))] rfl rfl (by simp only [resultsD, go_sem, ti3, ti113, ti9, ti5, ti111, ti77, ti4, ti35, ti150]; try rfl) (hK 7))
  · subst h2
    refine Wc.seq ?_
    refine Wc.reg fun K hK => ?_; simp only [go_sem, ti3, ti113, ti9, ti5, ti111, ti77, ti4, ti35, ti150]; refine hK _ _ ?_; clear hK K
    refine Wc.seq ?_
    refine Wc.reg fun K hK => ?_; simp only [go_sem, ti3, ti113, ti9, ti5, ti111, ti77, ti4, ti35, ti150, hr]; refine hK _ _ ?_; clear hK K
    exact Wc.ret (Op.ret [.tmp 2] [.c (.p (.int .i64 n))] rfl rfl (by simp only [resultsD, go_sem, ti3, ti113, ti9, ti5, ti111, ti77, ti4, ti35, ti150]; try rfl) (hK 7))
end Go.Proofs.YtafaoldmemcigaaGreat.Ab
