/- A part of the proof: an evaluator of the code, its contracts, the law. No condition. -/
import Derived.Test.YtedcnhbblgmdnaaGreatT28
namespace Go.Proofs.YtedcnhbblgmdnaaGreat.Ab
set_option maxHeartbeats 8000000
set_option maxRecDepth 10000
set_option linter.unusedSimpArgs false
set_option linter.unusedVariables false
/-- The rollup of a valid series. -/
def OF (x : Ser) (w : Int) : Rlp := ⟨x.lb, x.k, w, ofB x.k w x.sm⟩
theorem OF_of {x : Ser} {w : Int} (hok : serOK x = true) (hk : ¬ x.k = 3) (h1 : 1 ≤ w) (h2 : w ≤ 1099511627776) : ofC x w = 0 ∧ ofR x w = OF x w := by
  have e : ofC x w = 0 := by unfold ofC; rw [if_neg (by simp [hok]), if_neg hk, if_neg (by simp [btw]; omega)]
  exact ⟨e, by rw [ofR, if_pos e]; rfl⟩
theorem ofC_inv {x : Ser} {w : Int} (h : ofC x w = 0) : serOK x = true ∧ ¬ x.k = 3 ∧ 1 ≤ w ∧ w ≤ 1099511627776 := by
  unfold ofC at h
  split at h
  · cases h
  · rename_i h1
    split at h
    · cases h
    · rename_i h2
      split at h
      · cases h
      · rename_i h3
        simp only [btw, Bool.not_eq_false, Bool.and_eq_true, decide_eq_true_eq] at h3
        exact ⟨by simpa using h1, h2, h3.1, h3.2⟩
theorem OF_big {x : Ser} (v : Sv x) {w : Int} (h1 : 1 ≤ w) : limB (OF x w) = false := by
  have hl := ofB_len x.k w x.sm
  have hv := v.len
  rw [limB, Bool.or_eq_false_iff, decide_eq_false_iff_not]
  refine ⟨?_, by show ¬ 2000 < (ofB x.k w x.sm).length; omega⟩
  show bigB (ofB x.k w x.sm) = false
  unfold bigB
  rw [List.any_eq_false]
  intro b hb
  have := (ofB_good h1 _ x.sm rfl v.srt v.ok b hb).c2
  simp; omega
theorem OF_ok {x : Ser} (v : Sv x) {w : Int} (h1 : 1 ≤ w) (h2 : w ≤ 1099511627776) : rlpOK (OF x w) = true := of_valid v.lb v.k ⟨h1, h2⟩ v.ne v.len v.srt v.ok
theorem co_of {x : Ser} (v : Sv x) {w f : Int} (hw : 1 ≤ w) (hf : 1 ≤ f) (hwf : w * f ≤ 1099511627776) : coC (OF x w) f = 0 ∧ coR (OF x w) f = OF x (w * f) := by
  have h1 : w * 1 ≤ w * f := Int.mul_le_mul_of_nonneg_left hf (by omega)
  have hok := OF_ok v hw (by omega)
  have hq : f ≤ Int.tdiv 1099511627776 w := by
    rw [Int.tdiv_eq_ediv_of_nonneg (by omega)]
    exact Int.le_ediv_of_mul_le (by omega) (by rw [Int.mul_comm]; exact hwf)
  have hP : coP (OF x w) f = OF x (w * f) := by
    unfold coP
    show Rlp.mk x.lb x.k (w * f) (coarB x.k (w * f) (ofB x.k w x.sm)) = Rlp.mk x.lb x.k (w * f) (ofB x.k (w * f) x.sm)
    rw [coar_of hw hf (fun y hy => (v.ok y hy).1.1)]
  have e : coC (OF x w) f = 0 := by
    unfold coC
    rw [if_neg (by simp [hok]), if_neg (by show ¬ (f < 1 ∨ Int.tdiv 1099511627776 w < f); omega), hP, if_neg (by rw [OF_big v (by omega)]; simp)]
  exact ⟨e, by rw [coR, if_pos e, hP]⟩
theorem OF_z {x : Ser} (z : x.Sz) (w : Int) : Rz (OF x w) := ⟨z.lb, z.ls, by have := ofB_len x.k w x.sm; have := z.sm; show (ofB _ _ _).length < _; omega⟩
theorem tmod20 {f : Int} (h : 0 ≤ f ∧ f < 256) : IntKind.i64.wrap f = f ∧ IntKind.i64.wrap (1 + f.tmod 20) = 1 + f.tmod 20 ∧ 0 ≤ f.tmod 20 ∧ f.tmod 20 < 20 := by
  have h1 := Int.tmod_nonneg 20 h.1
  have h2 := Int.tmod_lt_of_pos f (show (0 : Int) < 20 by omega)
  exact ⟨by rw [wi64]; omega, by rw [wi64]; omega, h1, h2⟩
/-- 5: DownsampleCoarsens -/
theorem law5 (x : Ser) (w f g : Int) (hlb : x.lb.length < 2^60) (hb : ∀ y ∈ x.hs, y.h.bs.length < 2^60) (hf : 0 ≤ f ∧ f < 256) (hg : 0 ≤ g ∧ g < 256) : ∃ s', Ev E0 (.o 5) [.agg (x.pd.map .p), .c (.p (pI w)), .c (.p (.int .u8 f)), .c (.p (.int .u8 g))] s00 (P' (.bool true)) s' := by
  obtain ⟨f1, f2, f3, f4⟩ := tmod20 hf
  obtain ⟨g1, g2, g3, g4⟩ := tmod20 hg
  have main : Wc E0 none (Tryz.f5.body.get rfl) { e := [V.agg (x.pd.map .p), .c (.p (pI w)), .c (.p (.int .u8 f)), .c (.p (.int .u8 g))].map .v ++ List.replicate (Tryz.f5.ntmps - 4) (.tup []), ds := [], s := s00 } (bodyQ E0 Tryz.f5 fun d _ => d = P' (.bool true)) := by
    show Wc E0 none _ _ _
    simp only [List.map_cons, List.map_nil, List.cons_append, List.nil_append, Tryz.ntmps5, List.replicate, Nat.reduceSub, Nat.reduceAdd, s00]
    refine Wc.seq ?_
    refine Wc.reg fun K hK => ?_; simp only [go_sem, ti3, ti4, ti5, ti32, ti39, ti41, ti31, ti96, ti87, ti29, ti22, ti26, ti23, ti24, Int.natCast_zero]; refine hK _ _ ?_; clear hK K
    refine Wc.seq ?_
    refine Wc.reg fun K hK => ?_; simp only [go_sem, ti3, ti4, ti5, ti32, ti39, ti41, ti31, ti96, ti87, ti29, ti22, ti26, ti23, ti24, Int.natCast_zero, f1, f2, g1, g2]; refine hK _ _ ?_; clear hK K
    obtain ⟨a, ha⟩ : ∃ a, 1 + f.tmod 20 = a := ⟨_, rfl⟩
    obtain ⟨b, hbb⟩ : ∃ b, 1 + g.tmod 20 = b := ⟨_, rfl⟩
    rw [ha, hbb]
    refine Wc.seq (Wc.seq ?_)
    refine Wc.reg fun K hK => ?_; simp only [go_sem, ti3, ti4, ti5, ti32, ti39, ti41, ti31, ti96, ti87, ti29, ti22, ti26, ti23, ti24, Int.natCast_zero]
    refine wpCall.pf (pf11 x hlb) (by kernel_rfl) (by kernel_rfl) rfl rfl ?_
    cases hgr : grS x with
    | true =>
      simp only [go_sem, ti3, ti4, ti5, ti32, ti39, ti41, ti31, ti96, ti87, ti29, ti22, ti26, ti23, ti24, Int.natCast_zero]; refine hK _ _ ?_; clear hK K
      refine Wc.cond (t := true) (by simp only [go_sem, ti3, ti4, ti5, ti32, ti39, ti41, ti31, ti96, ti87, ti29, ti22, ti26, ti23, ti24, Int.natCast_zero]) (fun _ => ?_) (fun hc => by cases hc)
      refine Wc.seq ?_
      refine Wc.reg fun K hK => ?_; simp only [go_sem, ti3, ti4, ti5, ti32, ti39, ti41, ti31, ti96, ti87, ti29, ti22, ti26, ti23, ti24, Int.natCast_zero]
      refine wpCall.pf (pf12) (by kernel_rfl) (by kernel_rfl) rfl rfl ?_
      simp only [go_sem, ti3, ti4, ti5, ti32, ti39, ti41, ti31, ti96, ti87, ti29, ti22, ti26, ti23, ti24, Int.natCast_zero]; refine hK _ _ ?_; clear hK K
      refine Wc.ret (thenD_ret ?_)
      exact Op.ret [.tmp 8] [.c (.p (.bool true))] rfl rfl (by simp only [resultsD, go_sem, ti3, ti4, ti5, ti32, ti39, ti41, ti31, ti96, ti87, ti29, ti22, ti26, ti23, ti24, Int.natCast_zero]) rfl
    | false =>
    simp only [go_sem, ti3, ti4, ti5, ti32, ti39, ti41, ti31, ti96, ti87, ti29, ti22, ti26, ti23, ti24, Int.natCast_zero]; refine hK _ _ ?_; clear hK K
    refine Wc.cond (t := decide (1073741824 < w)) (by simp only [go_sem, ti3, ti4, ti5, ti32, ti39, ti41, ti31, ti96, ti87, ti29, ti22, ti26, ti23, ti24, Int.natCast_zero]) (fun hc => ?_) (fun hc => ?_)
    · refine Wc.seq ?_
      refine Wc.reg fun K hK => ?_; simp only [go_sem, ti3, ti4, ti5, ti32, ti39, ti41, ti31, ti96, ti87, ti29, ti22, ti26, ti23, ti24, Int.natCast_zero]
      refine wpCall.pf (pf12) (by kernel_rfl) (by kernel_rfl) rfl rfl ?_
      simp only [go_sem, ti3, ti4, ti5, ti32, ti39, ti41, ti31, ti96, ti87, ti29, ti22, ti26, ti23, ti24, Int.natCast_zero]; refine hK _ _ ?_; clear hK K
      refine Wc.ret (thenD_ret ?_)
      exact Op.ret [.tmp 8] [.c (.p (.bool true))] rfl rfl (by simp only [resultsD, go_sem, ti3, ti4, ti5, ti32, ti39, ti41, ti31, ti96, ti87, ti29, ti22, ti26, ti23, ti24, Int.natCast_zero]) rfl
    have hw2 := of_decide_eq_false hc
    have z := grS_sz hgr hb
    refine Wc.skip (Wc.seq ?_)
    refine Wc.reg fun K hK => ?_; simp only [go_sem, ti3, ti4, ti5, ti32, ti39, ti41, ti31, ti96, ti87, ti29, ti22, ti26, ti23, ti24, Int.natCast_zero]
    refine wpCall.pf (pf13 x z w) (by kernel_rfl) (by kernel_rfl) rfl rfl ?_
    simp only [go_sem, ti3, ti4, ti5, ti32, ti39, ti41, ti31, ti96, ti87, ti29, ti22, ti26, ti23, ti24, Int.natCast_zero]; refine hK _ _ ?_; clear hK K
    refine Wc.seq (Wc.seq ?_)
    refine Wc.reg fun K hK => ?_; simp only [go_sem, ti3, ti4, ti5, ti32, ti39, ti41, ti31, ti96, ti87, ti29, ti22, ti26, ti23, ti24, Int.natCast_zero]; refine hK _ _ ?_; clear hK K
    refine Wc.cond (t := ofC x w != 0) (by simp only [go_sem, ti3, ti4, ti5, ti32, ti39, ti41, ti31, ti96, ti87, ti29, ti22, ti26, ti23, ti24, Int.natCast_zero]) (fun hc => ?_) (fun hc => ?_)
    · refine Wc.seq ?_
      refine Wc.reg fun K hK => ?_; simp only [go_sem, ti3, ti4, ti5, ti32, ti39, ti41, ti31, ti96, ti87, ti29, ti22, ti26, ti23, ti24, Int.natCast_zero]
      refine wpCall.pf (pf12) (by kernel_rfl) (by kernel_rfl) rfl rfl ?_
      simp only [go_sem, ti3, ti4, ti5, ti32, ti39, ti41, ti31, ti96, ti87, ti29, ti22, ti26, ti23, ti24, Int.natCast_zero]; refine hK _ _ ?_; clear hK K
      refine Wc.ret (thenD_ret ?_)
      exact Op.ret [.tmp 8] [.c (.p (.bool true))] rfl rfl (by simp only [resultsD, go_sem, ti3, ti4, ti5, ti32, ti39, ti41, ti31, ti96, ti87, ti29, ti22, ti26, ti23, ti24, Int.natCast_zero]) rfl
    have hc0 : ofC x w = 0 := by simpa using hc
    obtain ⟨hok, hk, w1, w2⟩ := ofC_inv hc0
    have v := serOK_v hok hk
    have bnd : ∀ n m : Int, 0 ≤ n → n ≤ 1073741824 → 0 ≤ m → m ≤ 400 → n * m ≤ 429496729600 := fun n m h1 h2 h3 h4 => by
      have a1 : n * m ≤ 1073741824 * m := Int.mul_le_mul_of_nonneg_right h2 h3
      omega
    have p1 : ∀ n m : Int, 1 ≤ n → 1 ≤ m → 1 ≤ n * m := fun n m h1 h2 => by
      have a1 : n * 1 ≤ n * m := Int.mul_le_mul_of_nonneg_left h2 (by omega)
      omega
    have hab : a * b ≤ 400 := by
      have a1 : a * b ≤ 20 * b := Int.mul_le_mul_of_nonneg_right (by omega) (by omega)
      omega
    have hwa := bnd w a (by omega) (by omega) (by omega) (by omega)
    have hwab := bnd w (a * b) (by omega) (by omega) (by have := p1 a b (by omega) (by omega); omega) hab
    have pwa := p1 w a w1 (by omega)
    have pab := p1 a b (by omega) (by omega)
    have hassoc : w * a * b = w * (a * b) := Int.mul_assoc w a b
    obtain ⟨c1, r1⟩ := co_of v w1 (show 1 ≤ a by omega) (by omega)
    obtain ⟨c2, r2⟩ := co_of v pwa (show 1 ≤ b by omega) (by rw [hassoc]; omega)
    obtain ⟨c3, r3⟩ := co_of v w1 pab (by omega)
    obtain ⟨c4, r4⟩ := OF_of hok hk pwa (show w * a ≤ 1099511627776 by omega)
    obtain ⟨c0, r0⟩ := OF_of hok hk w1 w2
    have z1 := OF_z z w
    have z2 := OF_z z (w * a)
    have z3 := OF_z z (w * (a * b))
    have q1 := pf15 (OF x w) z1.lb z1.ls a
    have q2 := pf13 x z (w * a)
    have q3 := pf15 (OF x (w * a)) z2.lb z2.ls b
    have q4 := pf15 (OF x w) z1.lb z1.ls (a * b)
    rw [c1, r1] at q1
    rw [c4, r4] at q2
    rw [c2, r2, hassoc] at q3
    rw [c3, r3] at q4
    rw [hc0, r0]
    have ewa : IntKind.i64.wrap (w * a) = w * a := by rw [wi64]; omega
    have eab : IntKind.i64.wrap (a * b) = a * b := by rw [wi64]; omega
    generalize OF x w = R1 at *
    generalize OF x (w * a) = R2 at *
    generalize OF x (w * (a * b)) = R3 at *
    refine Wc.skip (Wc.seq ?_)
    refine Wc.reg fun K hK => ?_; simp only [go_sem, ti3, ti4, ti5, ti32, ti39, ti41, ti31, ti96, ti87, ti29, ti22, ti26, ti23, ti24, Int.natCast_zero]
    refine wpCall.pf (q1) (by kernel_rfl) (by kernel_rfl) rfl rfl ?_
    simp only [go_sem, ti3, ti4, ti5, ti32, ti39, ti41, ti31, ti96, ti87, ti29, ti22, ti26, ti23, ti24, Int.natCast_zero]; refine hK _ _ ?_; clear hK K
    refine Wc.seq ?_
    refine Wc.reg fun K hK => ?_; simp only [go_sem, ti3, ti4, ti5, ti32, ti39, ti41, ti31, ti96, ti87, ti29, ti22, ti26, ti23, ti24, Int.natCast_zero, ewa]
    refine wpCall.pf (q2) (by kernel_rfl) (by kernel_rfl) rfl rfl ?_
    simp only [go_sem, ti3, ti4, ti5, ti32, ti39, ti41, ti31, ti96, ti87, ti29, ti22, ti26, ti23, ti24, Int.natCast_zero]; refine hK _ _ ?_; clear hK K
    refine Wc.seq ?_
    refine Wc.reg fun K hK => ?_; simp only [go_sem, ti3, ti4, ti5, ti32, ti39, ti41, ti31, ti96, ti87, ti29, ti22, ti26, ti23, ti24, Int.natCast_zero]
    refine wpCall.pf (q3) (by kernel_rfl) (by kernel_rfl) rfl rfl ?_
    simp only [go_sem, ti3, ti4, ti5, ti32, ti39, ti41, ti31, ti96, ti87, ti29, ti22, ti26, ti23, ti24, Int.natCast_zero]; refine hK _ _ ?_; clear hK K
    refine Wc.seq ?_
    refine Wc.reg fun K hK => ?_; simp only [go_sem, ti3, ti4, ti5, ti32, ti39, ti41, ti31, ti96, ti87, ti29, ti22, ti26, ti23, ti24, Int.natCast_zero, eab]
    refine wpCall.pf (q4) (by kernel_rfl) (by kernel_rfl) rfl rfl ?_
    simp only [go_sem, ti3, ti4, ti5, ti32, ti39, ti41, ti31, ti96, ti87, ti29, ti22, ti26, ti23, ti24, Int.natCast_zero]; refine hK _ _ ?_; clear hK K
    refine Wc.seq ?_
    refine Wc.reg fun K hK => ?_; simp only [go_sem, ti3, ti4, ti5, ti32, ti39, ti41, ti31, ti96, ti87, ti29, ti22, ti26, ti23, ti24, Int.natCast_zero]
    refine wpCall.pf (z2.same) (by kernel_rfl) (by kernel_rfl) rfl rfl ?_
    simp only [go_sem, ti3, ti4, ti5, ti32, ti39, ti41, ti31, ti96, ti87, ti29, ti22, ti26, ti23, ti24, Int.natCast_zero]
    refine wpCall.pf (z3.same) (by kernel_rfl) (by kernel_rfl) rfl rfl ?_
    simp only [go_sem, ti3, ti4, ti5, ti32, ti39, ti41, ti31, ti96, ti87, ti29, ti22, ti26, ti23, ti24, Int.natCast_zero]
    refine wpCall.pf (pf12) (by kernel_rfl) (by kernel_rfl) rfl rfl ?_
    simp only [go_sem, ti3, ti4, ti5, ti32, ti39, ti41, ti31, ti96, ti87, ti29, ti22, ti26, ti23, ti24, Int.natCast_zero]; refine hK _ _ ?_; clear hK K
    exact Wc.ret (Op.ret [.tmp 8] [.c (.p (.bool true))] rfl rfl (by simp only [resultsD, go_sem, ti3, ti4, ti5, ti32, ti39, ti41, ti31, ti96, ti87, ti29, ti22, ti26, ti23, ti24, Int.natCast_zero]) rfl)
  obtain ⟨n, d, s', h1, h2⟩ := Ev.body (g := 5) (args := [V.agg (x.pd.map .p), .c (.p (pI w)), .c (.p (.int .u8 f)), .c (.p (.int .u8 g))]) (by kernel_rfl) rfl main
  subst h2
  exact ⟨s', n + 1, h1⟩
end Go.Proofs.YtedcnhbblgmdnaaGreat.Ab
