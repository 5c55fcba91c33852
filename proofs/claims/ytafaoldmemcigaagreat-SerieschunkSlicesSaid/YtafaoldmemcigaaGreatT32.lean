/- A part of the proof: an evaluator of the code, its contracts, the law. No condition. -/
import Derived.Test.YtafaoldmemcigaaGreatT31
namespace Go.Proofs.YtafaoldmemcigaaGreat.Ab
set_option maxHeartbeats 8000000
set_option maxRecDepth 10000
set_option linter.unusedSimpArgs false
set_option linter.unusedVariables false
/-- 41: Same, of equal samples -/
theorem pf41 (l : List I2) (hl : l.length < 2^40) : Pf E0 41 [.c (.p (.lst l.length (l.flatMap p2))), .c (.p (.lst l.length (l.flatMap p2)))] (P' (.bool true)) := by
  have hfl : (l.flatMap p2).length = l.length * 2 := flat_len (k := 2) (fun _ => rfl) _
  refine Pf.body (fn := Tryz.f41) (by kernel_rfl) rfl ?_; simp only [List.map_cons, List.map_nil, List.cons_append, List.nil_append, List.length_cons, List.length_nil, Tryz.ntmps41, List.replicate, Nat.reduceSub, Nat.reduceAdd]
  refine Wc.seq ?_
  refine Wc.reg fun K hK => ?_; simp only [go_sem, ti3, ti9, ti4, ti35, ti22, ti23, ti24, ti26, ti32, ti34, ti45, ti48, ti53, ti55, ti57, ti64, ti83]; refine hK _ _ ?_; clear hK K
  refine Wc.seq (Wc.seq ?_)
  refine Wc.reg fun K hK => ?_; simp only [go_sem, ti3, ti9, ti4, ti35, ti22, ti23, ti24, ti26, ti32, ti34, ti45, ti48, ti53, ti55, ti57, ti64, ti83, bne_self_eq_false]; refine hK _ _ ?_; clear hK K
  refine Wc.cond (t := false) (by simp only [go_sem, ti3, ti9, ti4, ti35, ti22, ti23, ti24, ti26, ti32, ti34, ti45, ti48, ti53, ti55, ti57, ti64, ti83]) (fun hc => by cases hc) (fun _ => Wc.skip ?_)
  refine Wc.seqR (fun y => y.ds = [] ∧ Fs y.e 26 []) ?_ ?_
  · refine Wc.seq ?_
    refine Wc.reg fun K hK => ?_; simp only [go_sem, ti3, ti9, ti4, ti35, ti22, ti23, ti24, ti26, ti32, ti34, ti45, ti48, ti53, ti55, ti57, ti64, ti83]; refine hK _ _ ?_; clear hK K
    refine Wc.block (Wc.loop (fun k y => ∃ i : Nat, k = l.length - i ∧ i ≤ l.length ∧ y.ds = [] ∧ Fs y.e 26 [(0, P' (.lst l.length (l.flatMap p2))), (1, P' (.lst l.length (l.flatMap p2))), (5, P' (pI i))]) ?_ (k := l.length) ?_)
    · rintro k ⟨e, ds, s1⟩ ⟨i, rfl, hi, rfl, hF⟩
      simp only [Fs] at hF
      refine Wc.seq (Wc.seq ?_)
      refine Wc.reg fun K hK => ?_; simp only [go_sem, ti3, ti9, ti4, ti35, ti22, ti23, ti24, ti26, ti32, ti34, ti45, ti48, ti53, ti55, ti57, ti64, ti83, hF]; refine hK _ _ ?_; clear hK K
      refine Wc.cond (t := decide ((i : Int) < l.length)) (by simp only [go_sem, ti3, ti9, ti4, ti35, ti22, ti23, ti24, ti26, ti32, ti34, ti45, ti48, ti53, ti55, ti57, ti64, ti83, hF]) (fun hc => ?_) (fun hc => ?_)
      · have hil : i < l.length := by have : (i : Int) < l.length := by simpa using hc
                                      omega
        obtain ⟨x, hx⟩ : ∃ x, l[i]? = some x := ⟨l[i], List.getElem?_eq_getElem hil⟩
        have hix := ixA ti23 rfl ti45 (j := i) (m := l.length) (cs := l.flatMap p2) hil hfl (by decide)
        have hca := rpA (off := i * 2) (drop_flat (f := p2) (k := 2) (fun _ => rfl) hx) (by rw [hfl]; omega)
        refine Wc.skip (Wc.seq (Wc.block (Wc.seq ?_)))
        refine Wc.regD fun K hK => ?_; simp only [go_sem, ti3, ti9, ti4, ti35, ti22, ti23, ti24, ti26, ti32, ti34, ti45, ti48, ti53, ti55, ti57, ti64, ti83, hF, hix, hca, eqL, eqS]; refine hK _ _ ?_; clear hK K
        refine Wc.cond (t := false) (by simp only [go_sem, ti3, ti9, ti4, ti35, ti22, ti23, ti24, ti26, ti32, ti34, ti45, ti48, ti53, ti55, ti57, ti64, ti83, hF]) (fun hc => by cases hc) (fun _ => Wc.skip ?_)
        refine Wc.reg fun K hK => ?_; simp only [go_sem, ti3, ti9, ti4, ti35, ti22, ti23, ti24, ti26, ti32, ti34, ti45, ti48, ti53, ti55, ti57, ti64, ti83, hF, i64n i (by omega)]; refine hK _ _ ?_; clear hK K
        exact ⟨l.length - (i + 1), by omega, i + 1, rfl, by omega, rfl, by simp only [Fs, Int.natCast_zero, go_sem, ti3, ti9, ti4, ti35, ti22, ti23, ti24, ti26, ti32, ti34, ti45, ti48, ti53, ti55, ti57, ti64, ti83, hF]⟩
      · exact Wc.exit ⟨rfl, by simp only [Fs, Int.natCast_zero, go_sem, ti3, ti9, ti4, ti35, ti22, ti23, ti24, ti26, ti32, ti34, ti45, ti48, ti53, ti55, ti57, ti64, ti83, hF]⟩
    · exact ⟨0, rfl, by omega, rfl, by simp only [Fs, Int.natCast_zero, go_sem, ti3, ti9, ti4, ti35, ti22, ti23, ti24, ti26, ti32, ti34, ti45, ti48, ti53, ti55, ti57, ti64, ti83]⟩
  rintro ⟨e, ds, s1⟩ ⟨rfl, hF⟩
  simp only [Fs] at hF
  refine Wc.seq ?_
  refine Wc.reg fun K hK => ?_; simp only [go_sem, ti3, ti9, ti4, ti35, ti22, ti23, ti24, ti26, ti32, ti34, ti45, ti48, ti53, ti55, ti57, ti64, ti83, hF]; refine hK _ _ ?_; clear hK K
  exact Wc.ret (Pf.ret [.tmp 4] [.c (.p (.bool true))] rfl rfl (by simp only [resultsD, go_sem, ti3, ti9, ti4, ti35, ti22, ti23, ti24, ti26, ti32, ti34, ti45, ti48, ti53, ti55, ti57, ti64, ti83, hF]) rfl)
/-- 40: Same, of equal histograms -/
theorem pf40 (h : Hst) (hl : h.bs.length < 2^40) : Pf E0 40 [.agg (h.pd.map .p), .agg (h.pd.map .p)] (P' (.bool true)) := by
  have hfl : (h.bs.flatMap p2).length = h.bs.length * 2 := flat_len (k := 2) (fun _ => rfl) _
  refine Pf.body (fn := Tryz.f40) (by kernel_rfl) rfl ?_; simp only [List.map_cons, List.map_nil, List.cons_append, List.nil_append, List.length_cons, List.length_nil, Tryz.ntmps40, List.replicate, Nat.reduceSub, Nat.reduceAdd]
  refine Wc.seq ?_
  refine Wc.reg fun K hK => ?_; simp only [go_sem, ti3, ti9, ti4, ti35, ti22, ti23, ti24, ti26, ti32, ti34, ti45, ti48, ti53, ti55, ti57, ti64, ti83]; refine hK _ _ ?_; clear hK K
  refine Wc.seq (Wc.seq ?_)
  refine Wc.reg fun K hK => ?_; simp only [go_sem, ti3, ti9, ti4, ti35, ti22, ti23, ti24, ti26, ti32, ti34, ti45, ti48, ti53, ti55, ti57, ti64, ti83, bne_self_eq_false]; refine hK _ _ ?_; clear hK K
  refine Wc.cond (t := false) (by simp only [go_sem, ti3, ti9, ti4, ti35, ti22, ti23, ti24, ti26, ti32, ti34, ti45, ti48, ti53, ti55, ti57, ti64, ti83]) (fun hc => by cases hc) (fun _ => Wc.skip ?_)
  refine Wc.seqR (fun y => y.ds = [] ∧ Fs y.e 66 []) ?_ ?_
  · refine Wc.seq ?_
    refine Wc.reg fun K hK => ?_; simp only [go_sem, ti3, ti9, ti4, ti35, ti22, ti23, ti24, ti26, ti32, ti34, ti45, ti48, ti53, ti55, ti57, ti64, ti83]; refine hK _ _ ?_; clear hK K
    refine Wc.block (Wc.loop (fun k y => ∃ i : Nat, k = h.bs.length - i ∧ i ≤ h.bs.length ∧ y.ds = [] ∧ Fs y.e 66 [(2, .v (.c (.ref 0 0))), (3, .v (.c (.ref 1 0))), (5, P' (pI i))] ∧ OA y.s.nx y.s [] [(1, .cells (h.pd.map .p) false), (0, .cells (h.pd.map .p) false)]) ?_ (k := h.bs.length) ?_)
    · rintro k ⟨e, ds, s1⟩ ⟨i, rfl, hi, rfl, hF, ho⟩
      simp only [Fs] at hF ho
      have g0 := ho.at_ (0, .cells (h.pd.map .p) false) (by simp)
      have g1 := ho.at_ (1, .cells (h.pd.map .p) false) (by simp)
      simp only [List.map_cons, List.map_nil] at g0 g1
      refine Wc.seq (Wc.seq ?_)
      refine Wc.reg fun K hK => ?_; simp only [go_sem, ti3, ti9, ti4, ti35, ti22, ti23, ti24, ti26, ti32, ti34, ti45, ti48, ti53, ti55, ti57, ti64, ti83, hF, g0, g1]; refine hK _ _ ?_; clear hK K
      refine Wc.cond (t := decide ((i : Int) < h.bs.length)) (by simp only [go_sem, ti3, ti9, ti4, ti35, ti22, ti23, ti24, ti26, ti32, ti34, ti45, ti48, ti53, ti55, ti57, ti64, ti83, hF]) (fun hc => ?_) (fun hc => ?_)
      · have hil : i < h.bs.length := by have : (i : Int) < h.bs.length := by simpa using hc
                                         omega
        obtain ⟨x, hx⟩ : ∃ x, h.bs[i]? = some x := ⟨h.bs[i], List.getElem?_eq_getElem hil⟩
        have hix := ixA ti53 rfl ti83 (j := i) (m := h.bs.length) (cs := h.bs.flatMap p2) hil hfl (by decide)
        have hca := rpA (off := i * 2) (drop_flat (f := p2) (k := 2) (fun _ => rfl) hx) (by rw [hfl]; omega)
        refine Wc.skip (Wc.seq (Wc.block (Wc.seq ?_)))
        refine Wc.regD fun K hK => ?_; simp only [go_sem, ti3, ti9, ti4, ti35, ti22, ti23, ti24, ti26, ti32, ti34, ti45, ti48, ti53, ti55, ti57, ti64, ti83, hF, g0, g1, hix, hca, eqL, eqS]; refine hK _ _ ?_; clear hK K
        refine Wc.cond (t := false) (by simp only [go_sem, ti3, ti9, ti4, ti35, ti22, ti23, ti24, ti26, ti32, ti34, ti45, ti48, ti53, ti55, ti57, ti64, ti83, hF]) (fun hc => by cases hc) (fun _ => Wc.skip ?_)
        refine Wc.reg fun K hK => ?_; simp only [go_sem, ti3, ti9, ti4, ti35, ti22, ti23, ti24, ti26, ti32, ti34, ti45, ti48, ti53, ti55, ti57, ti64, ti83, hF, i64n i (by omega)]; refine hK _ _ ?_; clear hK K
        exact ⟨h.bs.length - (i + 1), by omega, i + 1, rfl, by omega, rfl, by simp only [Fs, Int.natCast_zero, go_sem, ti3, ti9, ti4, ti35, ti22, ti23, ti24, ti26, ti32, ti34, ti45, ti48, ti53, ti55, ti57, ti64, ti83, hF], by simp only [St.nx_put, St.nx_adv]; repeat (first | exact OA.mono ho (by omega) | refine OA.newB ?_ (by omega) rfl | refine OA.advB ?_)⟩
      · exact Wc.exit ⟨rfl, by simp only [Fs, Int.natCast_zero, go_sem, ti3, ti9, ti4, ti35, ti22, ti23, ti24, ti26, ti32, ti34, ti45, ti48, ti53, ti55, ti57, ti64, ti83, hF]⟩
    · exact ⟨0, rfl, by omega, rfl, by simp only [Fs, Int.natCast_zero, go_sem, ti3, ti9, ti4, ti35, ti22, ti23, ti24, ti26, ti32, ti34, ti45, ti48, ti53, ti55, ti57, ti64, ti83], by simp only [St.nx_put, St.nx_adv]; repeat (first | exact OA.mono s00_oa (by omega) | refine OA.newB ?_ (by omega) rfl | refine OA.advB ?_)⟩
  rintro ⟨e, ds, s1⟩ ⟨rfl, hF⟩
  simp only [Fs] at hF
  refine Wc.seq ?_
  refine Wc.reg fun K hK => ?_; simp only [go_sem, ti3, ti9, ti4, ti35, ti22, ti23, ti24, ti26, ti32, ti34, ti45, ti48, ti53, ti55, ti57, ti64, ti83, hF]; refine hK _ _ ?_; clear hK K
  exact Wc.ret (Pf.ret [.tmp 4] [.c (.p (.bool true))] rfl rfl (by simp only [resultsD, go_sem, ti3, ti9, ti4, ti35, ti22, ti23, ti24, ti26, ti32, ti34, ti45, ti48, ti53, ti55, ti57, ti64, ti83, hF]) rfl)
theorem o40 : E0.opn 40 = false := by kernel_rfl
theorem x40 : E0.xt 40 = none := by kernel_rfl
/-- 14: SameSeries, of equal series -/
theorem pf14 (x : Ser) (z : x.Sz) : Pf E0 14 [.agg (x.pd.map .p), .agg (x.pd.map .p)] (P' (.bool true)) := by
  have hfl : (x.hs.flatMap HSm.pd).length = x.hs.length * 7 := flat_len (k := 7) (fun _ => rfl) _
  have hb2 := z.hs
  refine Pf.body (fn := Tryz.f14) (by kernel_rfl) rfl ?_; simp only [List.map_cons, List.map_nil, List.cons_append, List.nil_append, List.length_cons, List.length_nil, Tryz.ntmps14, List.replicate, Nat.reduceSub, Nat.reduceAdd]
  refine Wc.seq ?_
  refine Wc.reg fun K hK => ?_; simp only [go_sem, ti3, ti9, ti4, ti35, ti22, ti23, ti24, ti26, ti32, ti34, ti45, ti48, ti53, ti55, ti57, ti64, ti83]; refine hK _ _ ?_; clear hK K
  refine Wc.seq (Wc.seq ?_)
  refine Wc.reg fun K hK => ?_; simp only [go_sem, ti3, ti9, ti4, ti35, ti22, ti23, ti24, ti26, ti32, ti34, ti45, ti48, ti53, ti55, ti57, ti64, ti83, bne_self_eq_false]; refine hK _ _ ?_; clear hK K
  refine Wc.cond (t := false) (by simp only [go_sem, ti3, ti9, ti4, ti35, ti22, ti23, ti24, ti26, ti32, ti34, ti45, ti48, ti53, ti55, ti57, ti64, ti83]) (fun hc => by cases hc) (fun _ => Wc.skip ?_)
  refine Wc.seqR (fun y => y.ds = [] ∧ Fs y.e 68 [(2, .v (.c (.ref 0 0))), (3, .v (.c (.ref 1 0)))] ∧ OA y.s.nx y.s [] [(1, .cells (x.pd.map .p) false), (0, .cells (x.pd.map .p) false)]) ?_ ?_
  · refine Wc.seq ?_
    refine Wc.reg fun K hK => ?_; simp only [go_sem, ti3, ti9, ti4, ti35, ti22, ti23, ti24, ti26, ti32, ti34, ti45, ti48, ti53, ti55, ti57, ti64, ti83]; refine hK _ _ ?_; clear hK K
    refine Wc.block (Wc.loop (fun k y => ∃ i : Nat, k = x.hs.length - i ∧ i ≤ x.hs.length ∧ y.ds = [] ∧ Fs y.e 68 [(2, .v (.c (.ref 0 0))), (3, .v (.c (.ref 1 0))), (5, P' (pI i))] ∧ OA y.s.nx y.s [] [(1, .cells (x.pd.map .p) false), (0, .cells (x.pd.map .p) false)]) ?_ (k := x.hs.length) ?_)
    · rintro k ⟨e, ds, s1⟩ ⟨i, rfl, hi, rfl, hF, ho⟩
      simp only [Fs] at hF ho
      have g0 := ho.at_ (0, .cells (x.pd.map .p) false) (by simp)
      have g1 := ho.at_ (1, .cells (x.pd.map .p) false) (by simp)
      simp only [List.map_cons, List.map_nil] at g0 g1
      refine Wc.seq (Wc.seq ?_)
      refine Wc.reg fun K hK => ?_; simp only [go_sem, ti3, ti9, ti4, ti35, ti22, ti23, ti24, ti26, ti32, ti34, ti45, ti48, ti53, ti55, ti57, ti64, ti83, hF, g0, g1]; refine hK _ _ ?_; clear hK K
      refine Wc.cond (t := decide ((i : Int) < x.hs.length)) (by simp only [go_sem, ti3, ti9, ti4, ti35, ti22, ti23, ti24, ti26, ti32, ti34, ti45, ti48, ti53, ti55, ti57, ti64, ti83, hF]) (fun hc => ?_) (fun hc => ?_)
      · have hil : i < x.hs.length := by have : (i : Int) < x.hs.length := by simpa using hc
                                         omega
        obtain ⟨b, hb⟩ : ∃ b, x.hs[i]? = some b := ⟨x.hs[i], List.getElem?_eq_getElem hil⟩
        have hbl := z.hb b (List.mem_of_getElem? hb)
        have hix := ixA ti24 rfl ti57 (j := i) (m := x.hs.length) (cs := x.hs.flatMap HSm.pd) hil hfl (by decide)
        have hca := rpA (off := i * 7) (drop_flat (f := HSm.pd) (k := 7) (fun _ => rfl) hb) (by rw [hfl]; omega)
        have hcb : ∀ s, cellsAt s (.v (.c (.rp (x.hs.flatMap HSm.pd) (i * 7 + 1)))) = some (((Hst.pd b.h) ++ (x.hs.drop (i + 1)).flatMap HSm.pd).map .p) := fun s => by
          refine rpA ?_ (by rw [hfl]; omega) s
          rw [← List.drop_drop, drop_flat (f := HSm.pd) (k := 7) (fun _ => rfl) hb]
          rfl
        refine Wc.skip (Wc.seq (Wc.block (Wc.seq ?_)))
        refine Wc.regD fun K hK => ?_; simp only [go_sem, ti3, ti9, ti4, ti35, ti22, ti23, ti24, ti26, ti32, ti34, ti45, ti48, ti53, ti55, ti57, ti64, ti83, hF, g0, g1, hix, hca, hcb, bne_self_eq_false]
        refine ⟨by simp [o40, x40, plainD, plainV, plainC], ?_⟩
        refine wpCall.pf (pf40 b.h hbl) x40 o40 rfl rfl ?_
        simp only [go_sem, ti3, ti9, ti4, ti35, ti22, ti23, ti24, ti26, ti32, ti34, ti45, ti48, ti53, ti55, ti57, ti64, ti83, hF]; refine hK _ _ ?_; clear hK K
        refine Wc.cond (t := false) (by simp only [go_sem, ti3, ti9, ti4, ti35, ti22, ti23, ti24, ti26, ti32, ti34, ti45, ti48, ti53, ti55, ti57, ti64, ti83, hF]) (fun hc => by cases hc) (fun _ => Wc.skip ?_)
        refine Wc.reg fun K hK => ?_; simp only [go_sem, ti3, ti9, ti4, ti35, ti22, ti23, ti24, ti26, ti32, ti34, ti45, ti48, ti53, ti55, ti57, ti64, ti83, hF, i64n i (by omega)]; refine hK _ _ ?_; clear hK K
        exact ⟨x.hs.length - (i + 1), by omega, i + 1, rfl, by omega, rfl, by simp only [Fs, Int.natCast_zero, go_sem, ti3, ti9, ti4, ti35, ti22, ti23, ti24, ti26, ti32, ti34, ti45, ti48, ti53, ti55, ti57, ti64, ti83, hF], by simp only [St.nx_put, St.nx_adv]; repeat (first | exact OA.mono ho (by omega) | refine OA.newB ?_ (by omega) rfl | refine OA.advB ?_)⟩
      · exact Wc.exit ⟨rfl, by simp only [Fs, Int.natCast_zero, go_sem, ti3, ti9, ti4, ti35, ti22, ti23, ti24, ti26, ti32, ti34, ti45, ti48, ti53, ti55, ti57, ti64, ti83, hF], by simp only [St.nx_put, St.nx_adv]; repeat (first | exact OA.mono ho (by omega) | refine OA.newB ?_ (by omega) rfl | refine OA.advB ?_)⟩
    · exact ⟨0, rfl, by omega, rfl, by simp only [Fs, Int.natCast_zero, go_sem, ti3, ti9, ti4, ti35, ti22, ti23, ti24, ti26, ti32, ti34, ti45, ti48, ti53, ti55, ti57, ti64, ti83], by simp only [St.nx_put, St.nx_adv]; repeat (first | exact OA.mono s00_oa (by omega) | refine OA.newB ?_ (by omega) rfl | refine OA.advB ?_)⟩
  rintro ⟨e, ds, s1⟩ ⟨rfl, hF, ho⟩
  simp only [Fs] at hF ho
  have g0 := ho.at_ (0, .cells (x.pd.map .p) false) (by simp)
  have g1 := ho.at_ (1, .cells (x.pd.map .p) false) (by simp)
  simp only [List.map_cons, List.map_nil] at g0 g1
  refine Wc.seq ?_
  refine Wc.reg fun K hK => ?_; simp only [go_sem, ti3, ti9, ti4, ti35, ti22, ti23, ti24, ti26, ti32, ti34, ti45, ti48, ti53, ti55, ti57, ti64, ti83, hF, g0, g1]
  refine wpCall.pf (pf36 x.lb (by have := z.lb; omega)) (by kernel_rfl) (by kernel_rfl) rfl rfl ?_
  simp only [go_sem, ti3, ti9, ti4, ti35, ti22, ti23, ti24, ti26, ti32, ti34, ti45, ti48, ti53, ti55, ti57, ti64, ti83, hF, g0, g1]
  refine wpCall.pf (pf41 x.sm z.sm) (by kernel_rfl) (by kernel_rfl) rfl rfl ?_
  simp only [go_sem, ti3, ti9, ti4, ti35, ti22, ti23, ti24, ti26, ti32, ti34, ti45, ti48, ti53, ti55, ti57, ti64, ti83, hF, g0, g1]; refine hK _ _ ?_; clear hK K
  exact Wc.ret (Pf.ret [.tmp 4] [.c (.p (.bool true))] rfl rfl (by simp only [resultsD, go_sem, ti3, ti9, ti4, ti35, ti22, ti23, ti24, ti26, ti32, ti34, ti45, ti48, ti53, ti55, ti57, ti64, ti83, hF]) rfl)
end Go.Proofs.YtafaoldmemcigaaGreat.Ab
namespace Go.Proofs.YtafaoldmemcigaaGreat.Ab
set_option maxHeartbeats 8000000
set_option maxRecDepth 10000
set_option linter.unusedSimpArgs false
set_option linter.unusedVariables false
/-- The same, the edges looked up first. -/
def trOK2 (ops : Array Oper) : List Tr → Bool
  | [] => true
  | x :: r => (r.all fun y => hasEdge ops y.i x.i || freeOK x y) && trOK2 ops r
theorem trOK_eq (ops : Array Oper) : ∀ l, trOK ops l = trOK2 ops l
  | [] => rfl
  | x :: r => by
    rw [trOK, trOK2, trOK_eq ops r]
    congr 2
    funext y
    exact Bool.or_comm _ _
end Go.Proofs.YtafaoldmemcigaaGreat.Ab
namespace Go.Proofs.YtafaoldmemcigaaGreat.Ab
set_option maxHeartbeats 8000000
set_option maxRecDepth 10000
set_option linter.unusedSimpArgs false
set_option linter.unusedVariables false
/-- 5: the law -/
theorem law5 (x : Ser) (hh : x.hs.length < 2^60) (hlb : x.lb.length < 2^60) (q : Int) : ∃ s', Ev E0 (.o 5) [.agg (x.pd.map .p), .c (.p (pI q))] s00 (P' (.bool true)) s' := by
  have main : Wc E0 none (Tryz.f5.body.get rfl) { e := [V.agg (x.pd.map .p), V.c (.p (pI q))].map .v ++ List.replicate (Tryz.f5.ntmps - 2) (.tup []), ds := [], s := s00 } (bodyQ E0 Tryz.f5 fun d _ => d = P' (.bool true)) := by
    show Wc E0 none _ _ _
    have o00 : OA 0 { ob := [], nx := 0 } [] [] := s00_oa
    simp only [List.map_cons, List.map_nil, List.cons_append, List.nil_append, Tryz.ntmps5, List.replicate, Nat.reduceSub, Nat.reduceAdd, s00]
    refine Wc.seq ?_
    refine Wc.reg fun K hK => ?_; simp only [go_sem, ti3, ti9, ti4, ti35, ti22, ti23, ti24, ti26, ti32, ti34, ti45, ti48, ti53, ti55, ti57, ti64]; refine hK _ _ ?_; clear hK K
    have p7 := pf7 x hh hlb
    refine Wc.seqR (fun y => serG x = false ∧ y.ds = [] ∧ Fs y.e 93 [(1, P' (pI q)), (2, .v (.c (.ref 0 0)))] ∧ OA y.s.nx y.s [] [(0, .cells (x.pd.map .p) false)]) ?_ ?_
    · refine Wc.seq ?_
      refine Wc.reg fun K hK => ?_; simp only [go_sem, ti3, ti9, ti4, ti35, ti22, ti23, ti24, ti26, ti32, ti34, ti45, ti48, ti53, ti55, ti57, ti64]
      refine wpCall.pf p7 (by kernel_rfl) (by kernel_rfl) rfl rfl ?_
      simp only [go_sem, ti3, ti9, ti4, ti35, ti22, ti23, ti24, ti26, ti32, ti34, ti45, ti48, ti53, ti55, ti57, ti64]; refine hK _ _ ?_; clear hK K
      refine Wc.cond (t := serG x) (by simp only [go_sem, ti3, ti9, ti4, ti35, ti22, ti23, ti24, ti26, ti32, ti34, ti45, ti48, ti53, ti55, ti57, ti64]) (fun _ => ?_) (fun hc => ?_)
      · refine Wc.seq ?_
        refine Wc.reg fun K hK => ?_; simp only [go_sem, ti3, ti9, ti4, ti35, ti22, ti23, ti24, ti26, ti32, ti34, ti45, ti48, ti53, ti55, ti57, ti64]
        refine wpCall.pf pf8 (by kernel_rfl) (by kernel_rfl) rfl rfl ?_
        simp only [go_sem, ti3, ti9, ti4, ti35, ti22, ti23, ti24, ti26, ti32, ti34, ti45, ti48, ti53, ti55, ti57, ti64]; refine hK _ _ ?_; clear hK K
        refine Wc.ret (thenD_ret ?_)
        exact Op.ret [.tmp 4] [.c (.p (.bool true))] rfl rfl (by simp only [resultsD, go_sem, ti3, ti9, ti4, ti35, ti22, ti23, ti24, ti26, ti32, ti34, ti45, ti48, ti53, ti55, ti57, ti64]) rfl
      · exact Wc.skip ⟨hc, rfl, by simp only [Fs, Int.natCast_zero, go_sem, ti3, ti9, ti4, ti35, ti22, ti23, ti24, ti26, ti32, ti34, ti45, ti48, ti53, ti55, ti57, ti64], by (try simp only [St.nx_put, St.nx_adv]); repeat (first | exact OA.mono o00 (by omega) | refine OA.newB ?_ (by omega) rfl | refine OA.advB ?_)⟩
    rintro ⟨e, ds, s1⟩ ⟨hg, rfl, hF, ho⟩
    simp only [Fs] at hF ho
    have hz := serG_sz hg
    have g0 := ho.at_ (0, .cells (x.pd.map .p) false) (by simp)
    simp only [List.map_cons, List.map_nil] at g0
    have p9 := pf9 x hz
    cases hd : encO x with
    | none =>
      obtain ⟨er, hne, he⟩ := encS_none hd
      rw [he] at p9
      refine Wc.seq ?_
      refine Wc.reg fun K hK => ?_; simp only [go_sem, ti3, ti9, ti4, ti35, ti22, ti23, ti24, ti26, ti32, ti34, ti45, ti48, ti53, ti55, ti57, ti64, hF, g0]
      refine wpCall.pf p9 (by kernel_rfl) (by kernel_rfl) rfl rfl ?_
      simp only [go_sem, ti3, ti9, ti4, ti35, ti22, ti23, ti24, ti26, ti32, ti34, ti45, ti48, ti53, ti55, ti57, ti64, hF, g0]; refine hK _ _ ?_; clear hK K
      refine Wc.seq (Wc.seq ?_)
      refine Wc.reg fun K hK => ?_; simp only [go_sem, ti3, ti9, ti4, ti35, ti22, ti23, ti24, ti26, ti32, ti34, ti45, ti48, ti53, ti55, ti57, ti64, hF]; refine hK _ _ ?_; clear hK K
      refine Wc.cond (t := true) (by simp only [go_sem, ti3, ti9, ti4, ti35, ti22, ti23, ti24, ti26, ti32, ti34, ti45, ti48, ti53, ti55, ti57, ti64, hF]; simp [hne]) (fun _ => ?_) (fun hc => by cases hc)
      refine Wc.seq ?_
      refine Wc.reg fun K hK => ?_; simp only [go_sem, ti3, ti9, ti4, ti35, ti22, ti23, ti24, ti26, ti32, ti34, ti45, ti48, ti53, ti55, ti57, ti64, hF]
      refine wpCall.pf pf8 (by kernel_rfl) (by kernel_rfl) rfl rfl ?_
      simp only [go_sem, ti3, ti9, ti4, ti35, ti22, ti23, ti24, ti26, ti32, ti34, ti45, ti48, ti53, ti55, ti57, ti64, hF]; refine hK _ _ ?_; clear hK K
      refine Wc.ret (thenD_ret ?_)
      exact Op.ret [.tmp 4] [.c (.p (.bool true))] rfl rfl (by simp only [resultsD, go_sem, ti3, ti9, ti4, ti35, ti22, ti23, ti24, ti26, ti32, ti34, ti45, ti48, ti53, ti55, ti57, ti64, hF]) rfl
    | some d =>
      rw [encS_some hd] at p9
      obtain ⟨hok, _, _, _, _, hdl⟩ := encO_some hd
      have hdec := dec_enc hd
      have hsm := hz.sm
      have hhs := hz.hs
      have hlb40 := hz.lb
      obtain ⟨m, hm⟩ : ∃ m, (if q < 0 then (0 : Int) else q) = m := ⟨_, rfl⟩
      have pA := pf13 x x.lb hz.lb hz.ls (serZ x) d (by omega) hdec 0 q hsm hhs
      have pB := pf13 x x.lb hz.lb hz.ls (serZ x) d (by omega) hdec m 1099511627776 hsm hhs
      obtain ⟨sp1, sp2⟩ := ser_split hok q
      rw [show (if 0 > q then (0 : Int) else q) = m from hm] at sp1 sp2
      have hA1 := slc_len (fun a : I2 => a.1) 0 q x.sm
      have hB1 := slc_len (fun a : I2 => a.1) m 1099511627776 x.sm
      have hA2 := slc_len (fun a : HSm => a.t) 0 q x.hs
      have hB2 := slc_len (fun a : HSm => a.t) m 1099511627776 x.hs
      have hle := slc_le (fun a : I2 => a.1) 0 q x.sm
      generalize slc (fun a : I2 => a.1) 0 q x.sm = A1 at *
      generalize slc (fun a : I2 => a.1) m 1099511627776 x.sm = B1 at *
      generalize slc (fun a : HSm => a.t) 0 q x.hs = A2 at *
      generalize slc (fun a : HSm => a.t) m 1099511627776 x.hs = B2 at *
      refine Wc.seqA (fun y => ∃ k, y.ds = [] ∧ Fs y.e 93 [(1, P' (pI q)), (2, .v (.c (.ref 0 0))), (5, .v (.c (.ref k 0))), (6, P' (pI 0))] ∧ OA y.s.nx y.s [] [(k, .cells ([.p (pI 1), .p (.lst x.lb.length (x.lb.flatMap lbP)), .p (pI (serZ x).c), .p (pI (serZ x).t1), .p (pI (serZ x).t2), .p (pI (serZ x).v1), .p (pI (serZ x).v2), .p (.int .u32 0), .p (.int .u32 0), .p (.int .u32 0), .p (.int .u32 0), .p (.int .u32 0), .p (.int .u32 0), .p (.int .u32 0), .p (.int .u32 0)] ++ [.p (.str d)]) false), (0, .cells (x.pd.map .p) false)]) ?_ ?_
      · refine Wc.reg fun K hK => ?_; simp only [go_sem, ti3, ti9, ti4, ti35, ti22, ti23, ti24, ti26, ti32, ti34, ti45, ti48, ti53, ti55, ti57, ti64, hF, g0]
        refine wpCall.pf p9 (by kernel_rfl) (by kernel_rfl) rfl rfl ?_
        simp only [go_sem, ti3, ti9, ti4, ti35, ti22, ti23, ti24, ti26, ti32, ti34, ti45, ti48, ti53, ti55, ti57, ti64, hF, g0]; refine hK _ _ ?_; clear hK K
        exact ⟨rfl, s1.nx + 5, rfl, by simp only [Fs, Int.natCast_zero, go_sem, ti3, ti9, ti4, ti35, ti22, ti23, ti24, ti26, ti32, ti34, ti45, ti48, ti53, ti55, ti57, ti64, hF], by (try simp only [St.nx_put, St.nx_adv]); repeat (first | exact OA.mono ho (by omega) | refine OA.newB ?_ (by omega) rfl | refine OA.advB ?_)⟩
      clear hF ho g0 e s1
      rintro ⟨e, ds, s1⟩ ⟨k, rfl, hF, ho⟩
      simp only [Fs] at hF ho
      have gk := ho.at_ (k, .cells ([.p (pI 1), .p (.lst x.lb.length (x.lb.flatMap lbP)), .p (pI (serZ x).c), .p (pI (serZ x).t1), .p (pI (serZ x).t2), .p (pI (serZ x).v1), .p (pI (serZ x).v2), .p (.int .u32 0), .p (.int .u32 0), .p (.int .u32 0), .p (.int .u32 0), .p (.int .u32 0), .p (.int .u32 0), .p (.int .u32 0), .p (.int .u32 0)] ++ [.p (.str d)]) false) (by simp)
      simp only [List.map_cons, List.map_nil, List.cons_append, List.nil_append] at gk
      refine Wc.seq (Wc.seq ?_)
      refine Wc.reg fun K hK => ?_; simp only [go_sem, ti3, ti9, ti4, ti35, ti22, ti23, ti24, ti26, ti32, ti34, ti45, ti48, ti53, ti55, ti57, ti64, hF]; refine hK _ _ ?_; clear hK K
      refine Wc.cond (t := false) (by simp only [go_sem, ti3, ti9, ti4, ti35, ti22, ti23, ti24, ti26, ti32, ti34, ti45, ti48, ti53, ti55, ti57, ti64, hF]; rfl) (fun hc => by cases hc) (fun _ => Wc.skip ?_)
      refine Wc.seqA (fun y => ∃ k7, y.ds = [] ∧ Fs y.e 93 [(1, P' (pI q)), (2, .v (.c (.ref 0 0))), (5, .v (.c (.ref k 0))), (7, .v (.c (.ref k7 0))), (8, P' (pI 0))] ∧ OA y.s.nx y.s [] [(k7, .cells ((Ser.pd ⟨x.lb, x.k, A1, A2⟩).map .p) false), (k, .cells ([.p (pI 1), .p (.lst x.lb.length (x.lb.flatMap lbP)), .p (pI (serZ x).c), .p (pI (serZ x).t1), .p (pI (serZ x).t2), .p (pI (serZ x).v1), .p (pI (serZ x).v2), .p (.int .u32 0), .p (.int .u32 0), .p (.int .u32 0), .p (.int .u32 0), .p (.int .u32 0), .p (.int .u32 0), .p (.int .u32 0), .p (.int .u32 0)] ++ [.p (.str d)]) false), (0, .cells (x.pd.map .p) false)]) ?_ ?_
      · refine Wc.reg fun K hK => ?_; simp only [go_sem, ti3, ti9, ti4, ti35, ti22, ti23, ti24, ti26, ti32, ti34, ti45, ti48, ti53, ti55, ti57, ti64, hF, gk]
        refine wpCall.pf pA (by kernel_rfl) (by kernel_rfl) rfl rfl ?_
        simp only [go_sem, ti3, ti9, ti4, ti35, ti22, ti23, ti24, ti26, ti32, ti34, ti45, ti48, ti53, ti55, ti57, ti64, hF, gk]; refine hK _ _ ?_; clear hK K
        exact ⟨rfl, s1.nx + 8, rfl, by simp only [Fs, Int.natCast_zero, go_sem, ti3, ti9, ti4, ti35, ti22, ti23, ti24, ti26, ti32, ti34, ti45, ti48, ti53, ti55, ti57, ti64, hF], by (try simp only [St.nx_put, St.nx_adv]); repeat (first | exact OA.mono ho (by omega) | refine OA.newB ?_ (by omega) rfl | refine OA.advB ?_)⟩
      clear hF ho gk e s1
      rintro ⟨e, ds, s1⟩ ⟨k7, rfl, hF, ho⟩
      simp only [Fs] at hF ho
      have gk := ho.at_ (k, .cells ([.p (pI 1), .p (.lst x.lb.length (x.lb.flatMap lbP)), .p (pI (serZ x).c), .p (pI (serZ x).t1), .p (pI (serZ x).t2), .p (pI (serZ x).v1), .p (pI (serZ x).v2), .p (.int .u32 0), .p (.int .u32 0), .p (.int .u32 0), .p (.int .u32 0), .p (.int .u32 0), .p (.int .u32 0), .p (.int .u32 0), .p (.int .u32 0)] ++ [.p (.str d)]) false) (by simp)
      simp only [List.map_cons, List.map_nil, List.cons_append, List.nil_append] at gk
      refine Wc.seqA (fun y => ∃ k9, y.ds = [] ∧ Fs y.e 93 [(1, P' (pI q)), (2, .v (.c (.ref 0 0))), (7, .v (.c (.ref k7 0))), (9, .v (.c (.ref k9 0))), (8, P' (pI 0)), (10, P' (pI 0))] ∧ OA y.s.nx y.s [] [(k9, .cells ((Ser.pd ⟨x.lb, x.k, B1, B2⟩).map .p) false), (k7, .cells ((Ser.pd ⟨x.lb, x.k, A1, A2⟩).map .p) false), (0, .cells (x.pd.map .p) false)]) ?_ ?_
      · refine Wc.reg fun K hK => ?_; simp only [go_sem, ti3, ti9, ti4, ti35, ti22, ti23, ti24, ti26, ti32, ti34, ti45, ti48, ti53, ti55, ti57, ti64, hF, gk, foldO, hm]
        refine wpCall.pf pB (by kernel_rfl) (by kernel_rfl) rfl rfl ?_
        simp only [go_sem, ti3, ti9, ti4, ti35, ti22, ti23, ti24, ti26, ti32, ti34, ti45, ti48, ti53, ti55, ti57, ti64, hF, gk]; refine hK _ _ ?_; clear hK K
        have hs := ho.sub (L1 := []) (M1 := [(k7, .cells ((Ser.pd ⟨x.lb, x.k, A1, A2⟩).map .p) false), (0, .cells (x.pd.map .p) false)]) (List.Sublist.refl _) (((List.sublist_cons_self _ _)).cons_cons _)
        exact ⟨rfl, s1.nx + 7, rfl, by simp only [Fs, Int.natCast_zero, go_sem, ti3, ti9, ti4, ti35, ti22, ti23, ti24, ti26, ti32, ti34, ti45, ti48, ti53, ti55, ti57, ti64, hF], by (try simp only [St.nx_put, St.nx_adv]); repeat (first | exact OA.mono hs (by omega) | refine OA.newB ?_ (by omega) rfl | refine OA.advB ?_)⟩
      clear hF ho gk e s1
      rintro ⟨e, ds, s1⟩ ⟨k9, rfl, hF, ho⟩
      simp only [Fs] at hF ho
      have g7 := ho.at_ (k7, .cells ((Ser.pd ⟨x.lb, x.k, A1, A2⟩).map .p) false) (by simp)
      have g9 := ho.at_ (k9, .cells ((Ser.pd ⟨x.lb, x.k, B1, B2⟩).map .p) false) (by simp)
      have g0 := ho.at_ (0, .cells (x.pd.map .p) false) (by simp)
      simp only [List.map_cons, List.map_nil] at g7 g9 g0
      have d0 : ((0 : Int) != 0) = false := by decide
      refine Wc.seq (Wc.seq ?_)
      refine Wc.reg fun K hK => ?_; simp only [go_sem, ti3, ti9, ti4, ti35, ti22, ti23, ti24, ti26, ti32, ti34, ti45, ti48, ti53, ti55, ti57, ti64, hF, g7, g9, g0, d0, bne_self_eq_false]; refine hK _ _ ?_; clear hK K
      refine Wc.cond (t := false) (by simp only [go_sem, ti3, ti9, ti4, ti35, ti22, ti23, ti24, ti26, ti32, ti34, ti45, ti48, ti53, ti55, ti57, ti64, hF, d0, bne_self_eq_false]) (fun hc => by cases hc) (fun _ => Wc.skip ?_)
      have hfl : (A1.flatMap p2).length = A1.length * 2 := flat_len (k := 2) (fun _ => rfl) _
      refine Wc.seqA (fun y => y.ds = [] ∧ Fs y.e 93 [(1, P' (pI q)), (2, .v (.c (.ref 0 0))), (7, .v (.c (.ref k7 0))), (9, .v (.c (.ref k9 0)))] ∧ OA y.s.nx y.s [] [(k9, .cells ((Ser.pd ⟨x.lb, x.k, B1, B2⟩).map .p) false), (k7, .cells ((Ser.pd ⟨x.lb, x.k, A1, A2⟩).map .p) false), (0, .cells (x.pd.map .p) false)]) ?_ ?_
      · refine Wc.seq ?_
        refine Wc.reg fun K hK => ?_; simp only [go_sem, ti3, ti9, ti4, ti35, ti22, ti23, ti24, ti26, ti32, ti34, ti45, ti48, ti53, ti55, ti57, ti64, hF, g7, Int.natCast_zero]; refine hK _ _ ?_; clear hK K
        refine Wc.block (Wc.loop (fun c y => ∃ i : Nat, c = A1.length - i ∧ i ≤ A1.length ∧ y.ds = [] ∧ Fs y.e 93 [(1, P' (pI q)), (2, .v (.c (.ref 0 0))), (7, .v (.c (.ref k7 0))), (9, .v (.c (.ref k9 0))), (59, P' (.lst A1.length (A1.flatMap p2))), (60, P' (pI A1.length)), (61, P' (pI i))] ∧ OA y.s.nx y.s [] [(k9, .cells ((Ser.pd ⟨x.lb, x.k, B1, B2⟩).map .p) false), (k7, .cells ((Ser.pd ⟨x.lb, x.k, A1, A2⟩).map .p) false), (0, .cells (x.pd.map .p) false)]) ?_ (k := A1.length) ?_)
        · clear hF ho g7 g9 g0 e s1
          rintro c ⟨e, ds, s1⟩ ⟨i, rfl, hi, rfl, hF, ho⟩
          simp only [Fs] at hF ho
          refine Wc.seq ?_
          refine Wc.reg fun K hK => ?_; simp only [go_sem, ti3, ti9, ti4, ti35, ti22, ti23, ti24, ti26, ti32, ti34, ti45, ti48, ti53, ti55, ti57, ti64, hF]; refine hK _ _ ?_; clear hK K
          refine Wc.seq (Wc.cond (t := decide ((i : Int) < A1.length)) (by simp only [go_sem, ti3, ti9, ti4, ti35, ti22, ti23, ti24, ti26, ti32, ti34, ti45, ti48, ti53, ti55, ti57, ti64, hF]) (fun hc => ?_) (fun hc => ?_))
          · have hil : i < A1.length := by have : (i : Int) < A1.length := by simpa using hc
                                           omega
            obtain ⟨b, hb⟩ : ∃ b, A1[i]? = some b := ⟨A1[i], List.getElem?_eq_getElem hil⟩
            have hix := ixA ti23 rfl ti45 (j := i) (m := A1.length) (cs := A1.flatMap p2) hil hfl (by decide)
            have hca := rpA (off := i * 2) (drop_flat (f := p2) (k := 2) (fun _ => rfl) hb) (by rw [hfl]; omega)
            have hbq := hle b (List.mem_of_getElem? hb)
            have d1 : (q < b.1) = False := by simp; omega
            refine Wc.skip (Wc.seq (Wc.block (Wc.seqA (fun y => ∃ k12, y.ds = [] ∧ Fs y.e 93 [(1, P' (pI q)), (2, .v (.c (.ref 0 0))), (7, .v (.c (.ref k7 0))), (9, .v (.c (.ref k9 0))), (59, P' (.lst A1.length (A1.flatMap p2))), (60, P' (pI A1.length)), (61, P' (pI i)), (12, .v (.c (.ref k12 0)))] ∧ OA y.s.nx y.s [] [(k12, .cells ((p2 b).map .p) false), (k9, .cells ((Ser.pd ⟨x.lb, x.k, B1, B2⟩).map .p) false), (k7, .cells ((Ser.pd ⟨x.lb, x.k, A1, A2⟩).map .p) false), (0, .cells (x.pd.map .p) false)]) ?_ ?_)))
            · refine Wc.reg fun K hK => ?_; simp only [go_sem, ti3, ti9, ti4, ti35, ti22, ti23, ti24, ti26, ti32, ti34, ti45, ti48, ti53, ti55, ti57, ti64, hF, hix, hca]; refine hK _ _ ?_; clear hK K
              exact ⟨rfl, s1.nx + 3, rfl, by simp only [Fs, Int.natCast_zero, go_sem, ti3, ti9, ti4, ti35, ti22, ti23, ti24, ti26, ti32, ti34, ti45, ti48, ti53, ti55, ti57, ti64, hF], by (try simp only [St.nx_put, St.nx_adv]); repeat (first | exact OA.mono ho (by omega) | refine OA.newB ?_ (by omega) rfl | refine OA.advB ?_)⟩
            clear hF ho e s1
            rintro ⟨e, ds, s1⟩ ⟨k12, rfl, hF, ho⟩
            simp only [Fs] at hF ho
            have g12 := ho.at_ (k12, .cells ((p2 b).map .p) false) (by simp)
            simp only [List.map_cons, List.map_nil] at g12
            refine Wc.seq ?_
            refine Wc.reg fun K hK => ?_; simp only [go_sem, ti3, ti9, ti4, ti35, ti22, ti23, ti24, ti26, ti32, ti34, ti45, ti48, ti53, ti55, ti57, ti64, hF, g12, d1]; refine hK _ _ ?_; clear hK K
            refine Wc.cond (t := false) (by simp only [go_sem, ti3, ti9, ti4, ti35, ti22, ti23, ti24, ti26, ti32, ti34, ti45, ti48, ti53, ti55, ti57, ti64, hF]) (fun hc => by cases hc) (fun _ => Wc.skip ?_)
            refine Wc.reg fun K hK => ?_; simp only [go_sem, ti3, ti9, ti4, ti35, ti22, ti23, ti24, ti26, ti32, ti34, ti45, ti48, ti53, ti55, ti57, ti64, hF, i64n i (by omega)]; refine hK _ _ ?_; clear hK K
            exact ⟨A1.length - (i + 1), by omega, i + 1, rfl, by omega, rfl, by simp only [Fs, Int.natCast_zero, go_sem, ti3, ti9, ti4, ti35, ti22, ti23, ti24, ti26, ti32, ti34, ti45, ti48, ti53, ti55, ti57, ti64, hF], by (try simp only [St.nx_put, St.nx_adv]); repeat (first | exact OA.mono (ho.sub (List.Sublist.refl _) (List.sublist_cons_self _ _)) (by omega) | refine OA.newB ?_ (by omega) rfl | refine OA.advB ?_)⟩
          · exact Wc.exit ⟨rfl, rfl, by simp only [Fs, Int.natCast_zero, go_sem, ti3, ti9, ti4, ti35, ti22, ti23, ti24, ti26, ti32, ti34, ti45, ti48, ti53, ti55, ti57, ti64, hF], by (try simp only [St.nx_put, St.nx_adv]); repeat (first | exact OA.mono ho (by omega) | refine OA.newB ?_ (by omega) rfl | refine OA.advB ?_)⟩
        · exact ⟨0, rfl, by omega, rfl, by simp only [Fs, Int.natCast_zero, go_sem, ti3, ti9, ti4, ti35, ti22, ti23, ti24, ti26, ti32, ti34, ti45, ti48, ti53, ti55, ti57, ti64, hF], by (try simp only [St.nx_put, St.nx_adv]); repeat (first | exact OA.mono ho (by omega) | refine OA.newB ?_ (by omega) rfl | refine OA.advB ?_)⟩
      clear hF ho g7 g9 g0 e s1
      rintro ⟨e, ds, s1⟩ ⟨rfl, hF, ho⟩
      simp only [Fs] at hF ho
      have g7 := ho.at_ (k7, .cells ((Ser.pd ⟨x.lb, x.k, A1, A2⟩).map .p) false) (by simp)
      simp only [List.map_cons, List.map_nil] at g7
      refine Wc.seqA (fun y => ∃ k13, y.ds = [] ∧ Fs y.e 93 [(1, P' (pI q)), (2, .v (.c (.ref 0 0))), (7, .v (.c (.ref k7 0))), (9, .v (.c (.ref k9 0))), (13, .v (.c (.ref k13 0)))] ∧ OA y.s.nx y.s [] [(k13, .cells ((Ser.pd ⟨x.lb, x.k, A1, A2⟩).map .p) false), (k9, .cells ((Ser.pd ⟨x.lb, x.k, B1, B2⟩).map .p) false), (k7, .cells ((Ser.pd ⟨x.lb, x.k, A1, A2⟩).map .p) false), (0, .cells (x.pd.map .p) false)]) ?_ ?_
      · refine Wc.reg fun K hK => ?_; simp only [go_sem, ti3, ti9, ti4, ti35, ti22, ti23, ti24, ti26, ti32, ti34, ti45, ti48, ti53, ti55, ti57, ti64, hF, g7]; refine hK _ _ ?_; clear hK K
        exact ⟨rfl, s1.nx + 1, rfl, by simp only [Fs, Int.natCast_zero, go_sem, ti3, ti9, ti4, ti35, ti22, ti23, ti24, ti26, ti32, ti34, ti45, ti48, ti53, ti55, ti57, ti64, hF], by (try simp only [St.nx_put, St.nx_adv]); repeat (first | exact OA.mono ho (by omega) | refine OA.newB ?_ (by omega) rfl | refine OA.advB ?_)⟩
      clear hF ho g7 e s1
      rintro ⟨e, ds, s1⟩ ⟨k13, rfl, hF, ho⟩
      simp only [Fs] at hF ho
      refine Wc.seqA (fun y => ∃ c17, y.ds = [] ∧ Fs y.e 93 [(1, P' (pI q)), (2, .v (.c (.ref 0 0))), (7, .v (.c (.ref k7 0))), (9, .v (.c (.ref k9 0))), (13, .v (.c (.ref k13 0)))] ∧ OA y.s.nx y.s [(2, .v (.c c17), x.sm.length, x.sm.flatMap p2)] [(k13, .cells [.p (.lst x.lb.length (x.lb.flatMap lbP)), .p (pI x.k), c17, .p (.lst A2.length (A2.flatMap HSm.pd))] false), (k9, .cells ((Ser.pd ⟨x.lb, x.k, B1, B2⟩).map .p) false), (k7, .cells ((Ser.pd ⟨x.lb, x.k, A1, A2⟩).map .p) false), (0, .cells (x.pd.map .p) false)]) ?_ ?_
      · have g7 := ho.at_ (k7, .cells ((Ser.pd ⟨x.lb, x.k, A1, A2⟩).map .p) false) (by simp)
        have g9 := ho.at_ (k9, .cells ((Ser.pd ⟨x.lb, x.k, B1, B2⟩).map .p) false) (by simp)
        have g13 := ho.at_ (k13, .cells ((Ser.pd ⟨x.lb, x.k, A1, A2⟩).map .p) false) (by simp)
        have hn7 := ho.lt g7
        have hn9 := ho.lt g9
        have hn13 := ho.lt g13
        simp only [List.map_cons, List.map_nil] at g7 g9 g13
        have hput : ∀ o, ((s1.adv 9).put s1.nx o).get k7 = s1.get k7 := fun o => by rw [St.get_put, if_neg (by omega), St.get_adv]
        have hf0 := OA.front (k := s1.nx) (es := 2) (n := 0) (cs := []) (tg := 0) (ho.adv (n := 9)) (Nat.le_refl _) rfl
        have e1 : 0 + A1.length + B1.length = x.sm.length := by rw [← sp1, List.length_append]; omega
        have hflA : (A1.flatMap p2).length = A1.length * 2 := flat_len (k := 2) (fun _ => rfl) _
        have hflB : (B1.flatMap p2).length = B1.length * 2 := flat_len (k := 2) (fun _ => rfl) _
        refine Wc.regT fun K hK => ?_; simp only [go_sem, ti3, ti9, ti4, ti35, ti22, ti23, ti24, ti26, ti32, ti34, ti45, ti48, ti53, ti55, ti57, ti64, hF, hput, g7, g9, g13]
        refine OA.app (L1 := []) (L2 := []) (by_ := 16) (n := 0) (m := A1.length) (ys := A1.flatMap p2) hf0 (by omega) ⟨_, ti23, rfl⟩ ti45 rfl rfl rfl (by decide) (by decide) (by simp only [go_sem, ti3, ti9, ti4, ti35, ti22, ti23, ti24, ti26, ti32, ti34, ti45, ti48, ti53, ti55, ti57, ti64]) hflA (by omega) fun b1 s2 hb1 hnx1 => ?_
        obtain ⟨c1, rfl⟩ := (hb1.own _ (List.mem_cons_self ..)).v
        have g9' := hb1.at_ (k9, .cells ((Ser.pd ⟨x.lb, x.k, B1, B2⟩).map .p) false) (by simp)
        simp only [List.map_cons, List.map_nil] at g9'
        simp only [go_sem, ti3, ti9, ti4, ti35, ti22, ti23, ti24, ti26, ti32, ti34, ti45, ti48, ti53, ti55, ti57, ti64, hF, g9']
        refine OA.app (L1 := []) (L2 := []) (by_ := 16) (n := 0 + A1.length) (m := B1.length) (ys := B1.flatMap p2) hb1 (by omega) ⟨_, ti23, rfl⟩ ti45 rfl rfl rfl (by decide) (by decide) (by simp only [go_sem, ti3, ti9, ti4, ti35, ti22, ti23, ti24, ti26, ti32, ti34, ti45, ti48, ti53, ti55, ti57, ti64]) hflB (by omega) fun b2 s3 hb2 hnx2 => ?_
        obtain ⟨c2, rfl⟩ := (hb2.own _ (List.mem_cons_self ..)).v
        have g13' := hb2.at_ (k13, .cells ((Ser.pd ⟨x.lb, x.k, A1, A2⟩).map .p) false) (by simp)
        simp only [List.map_cons, List.map_nil] at g13'
        simp only [go_sem, ti3, ti9, ti4, ti35, ti22, ti23, ti24, ti26, ti32, ti34, ti45, ti48, ti53, ti55, ti57, ti64, hF, g13']
        refine ⟨by rw [trOK_eq]; rfl, hK _ _ ?_⟩; clear hK K
        have e2 : [] ++ A1.flatMap p2 ++ B1.flatMap p2 = x.sm.flatMap p2 := by rw [← sp1, List.flatMap_append]; rfl
        rw [e1, e2] at hb2
        refine ⟨rfl, c2, rfl, by simp only [Fs, Int.natCast_zero, go_sem, ti3, ti9, ti4, ti35, ti22, ti23, ti24, ti26, ti32, ti34, ti45, ti48, ti53, ti55, ti57, ti64, hF], ?_⟩
        exact (OA.set (M1 := []) (k := k13) (o' := .cells [.p (.lst x.lb.length (x.lb.flatMap lbP)), .p (pI x.k), c2, .p (.lst A2.length (A2.flatMap HSm.pd))] false) hb2 rfl).mono (by simp only [St.nx_put, hnx2, hnx1, St.nx_adv]; omega)
      clear hF ho e s1
      rintro ⟨e, ds, s1⟩ ⟨c17, rfl, hF, ho⟩
      simp only [Fs] at hF ho
      refine Wc.seqA (fun y => ∃ c18, y.ds = [] ∧ Fs y.e 93 [(2, .v (.c (.ref 0 0))), (13, .v (.c (.ref k13 0)))] ∧ OA y.s.nx y.s [(7, .v (.c c18), x.hs.length, x.hs.flatMap HSm.pd), (2, .v (.c c17), x.sm.length, x.sm.flatMap p2)] [(k13, .cells [.p (.lst x.lb.length (x.lb.flatMap lbP)), .p (pI x.k), c17, c18] false), (k9, .cells ((Ser.pd ⟨x.lb, x.k, B1, B2⟩).map .p) false), (k7, .cells ((Ser.pd ⟨x.lb, x.k, A1, A2⟩).map .p) false), (0, .cells (x.pd.map .p) false)]) ?_ ?_
      · have g7 := ho.at_ (k7, .cells ((Ser.pd ⟨x.lb, x.k, A1, A2⟩).map .p) false) (by simp)
        have g9 := ho.at_ (k9, .cells ((Ser.pd ⟨x.lb, x.k, B1, B2⟩).map .p) false) (by simp)
        have g13 := ho.at_ (k13, .cells [.p (.lst x.lb.length (x.lb.flatMap lbP)), .p (pI x.k), c17, .p (.lst A2.length (A2.flatMap HSm.pd))] false) (by simp)
        have hn7 := ho.lt g7
        have hn9 := ho.lt g9
        have hn13 := ho.lt g13
        simp only [List.map_cons, List.map_nil] at g7 g9 g13
        have hput : ∀ o, ((s1.adv 9).put s1.nx o).get k7 = s1.get k7 := fun o => by rw [St.get_put, if_neg (by omega), St.get_adv]
        have hf0 := OA.front (k := s1.nx) (es := 7) (n := 0) (cs := []) (tg := 0) (ho.adv (n := 9)) (Nat.le_refl _) rfl
        have e1 : 0 + A2.length + B2.length = x.hs.length := by rw [← sp2, List.length_append]; omega
        have hflA : (A2.flatMap HSm.pd).length = A2.length * 7 := flat_len (k := 7) (fun _ => rfl) _
        have hflB : (B2.flatMap HSm.pd).length = B2.length * 7 := flat_len (k := 7) (fun _ => rfl) _
        refine Wc.regT fun K hK => ?_; simp only [go_sem, ti3, ti9, ti4, ti35, ti22, ti23, ti24, ti26, ti32, ti34, ti45, ti48, ti53, ti55, ti57, ti64, hF, hput, g7, g9, g13]
        refine OA.app (L1 := []) (L2 := [(2, .v (.c c17), x.sm.length, x.sm.flatMap p2)]) (by_ := 72) (n := 0) (m := A2.length) (ys := A2.flatMap HSm.pd) hf0 (by omega) ⟨_, ti24, rfl⟩ ti57 rfl rfl rfl (by decide) (by decide) (by simp only [go_sem, ti3, ti9, ti4, ti35, ti22, ti23, ti24, ti26, ti32, ti34, ti45, ti48, ti53, ti55, ti57, ti64]) hflA (by omega) fun b1 s2 hb1 hnx1 => ?_
        obtain ⟨c1, rfl⟩ := (hb1.own _ (List.mem_cons_self ..)).v
        have g9' := hb1.at_ (k9, .cells ((Ser.pd ⟨x.lb, x.k, B1, B2⟩).map .p) false) (by simp)
        simp only [List.map_cons, List.map_nil] at g9'
        simp only [go_sem, ti3, ti9, ti4, ti35, ti22, ti23, ti24, ti26, ti32, ti34, ti45, ti48, ti53, ti55, ti57, ti64, hF, g9']
        refine OA.app (L1 := []) (L2 := [(2, .v (.c c17), x.sm.length, x.sm.flatMap p2)]) (by_ := 72) (n := 0 + A2.length) (m := B2.length) (ys := B2.flatMap HSm.pd) hb1 (by omega) ⟨_, ti24, rfl⟩ ti57 rfl rfl rfl (by decide) (by decide) (by simp only [go_sem, ti3, ti9, ti4, ti35, ti22, ti23, ti24, ti26, ti32, ti34, ti45, ti48, ti53, ti55, ti57, ti64]) hflB (by omega) fun b2 s3 hb2 hnx2 => ?_
        obtain ⟨c2, rfl⟩ := (hb2.own _ (List.mem_cons_self ..)).v
        have g13' := hb2.at_ (k13, .cells [.p (.lst x.lb.length (x.lb.flatMap lbP)), .p (pI x.k), c17, .p (.lst A2.length (A2.flatMap HSm.pd))] false) (by simp)
        simp only [List.map_cons, List.map_nil] at g13'
        simp only [go_sem, ti3, ti9, ti4, ti35, ti22, ti23, ti24, ti26, ti32, ti34, ti45, ti48, ti53, ti55, ti57, ti64, hF, g13']
        refine ⟨by rw [trOK_eq]; rfl, hK _ _ ?_⟩; clear hK K
        have e2 : [] ++ A2.flatMap HSm.pd ++ B2.flatMap HSm.pd = x.hs.flatMap HSm.pd := by rw [← sp2, List.flatMap_append]; rfl
        rw [e1, e2] at hb2
        refine ⟨rfl, c2, rfl, by simp only [Fs, Int.natCast_zero, go_sem, ti3, ti9, ti4, ti35, ti22, ti23, ti24, ti26, ti32, ti34, ti45, ti48, ti53, ti55, ti57, ti64, hF], ?_⟩
        exact (OA.set (M1 := []) (k := k13) (o' := .cells [.p (.lst x.lb.length (x.lb.flatMap lbP)), .p (pI x.k), c17, c2] false) hb2 rfl).mono (by simp only [St.nx_put, hnx2, hnx1, St.nx_adv]; omega)
      clear hF ho e s1
      rintro ⟨e, ds, s1⟩ ⟨c18, rfl, hF, ho⟩
      simp only [Fs] at hF ho
      have g0 := ho.at_ (0, .cells (x.pd.map .p) false) (by simp)
      have g13 := ho.at_ (k13, .cells [.p (.lst x.lb.length (x.lb.flatMap lbP)), .p (pI x.k), c17, c18] false) (by simp)
      have hp18 := (ho.own (7, .v (.c c18), x.hs.length, x.hs.flatMap HSm.pd) (by simp)).purS
      have hp17 := (ho.own (2, .v (.c c17), x.sm.length, x.sm.flatMap p2) (by simp)).purS
      simp only [List.map_cons, List.map_nil] at g0 g13
      refine Wc.seq ?_
      refine Wc.reg fun K hK => ?_; simp only [go_sem, ti3, ti9, ti4, ti35, ti22, ti23, ti24, ti26, ti32, ti34, ti45, ti48, ti53, ti55, ti57, ti64, hF, g0, g13]
      refine wpCall.pf (pf14 x hz) (by kernel_rfl) (by kernel_rfl) rfl (s' := s1.adv 7) (by simp only [purVs, purV, purCs, purC_p, purC_S hp17, purC_S hp18]) ?_
      simp only [go_sem, ti3, ti9, ti4, ti35, ti22, ti23, ti24, ti26, ti32, ti34, ti45, ti48, ti53, ti55, ti57, ti64, hF, g0, g13]
      refine wpCall.pf pf8 (by kernel_rfl) (by kernel_rfl) rfl rfl ?_
      simp only [go_sem, ti3, ti9, ti4, ti35, ti22, ti23, ti24, ti26, ti32, ti34, ti45, ti48, ti53, ti55, ti57, ti64, hF, g0, g13]; refine hK _ _ ?_; clear hK K
      exact Wc.ret (Op.ret [.tmp 4] [.c (.p (.bool true))] rfl rfl (by simp only [resultsD, go_sem, ti3, ti9, ti4, ti35, ti22, ti23, ti24, ti26, ti32, ti34, ti45, ti48, ti53, ti55, ti57, ti64, hF]) rfl)
  obtain ⟨n, d, s', h1, h2⟩ := Ev.body (g := 5) (args := [V.agg (x.pd.map .p), V.c (.p (pI q))]) (by kernel_rfl) rfl main
  subst h2
  exact ⟨s', n + 1, h1⟩
end Go.Proofs.YtafaoldmemcigaaGreat.Ab
