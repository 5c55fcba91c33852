/- A part of the proof: an evaluator of the code, its contracts, the law. No condition. -/
import Derived.Test.YtafaoldmemcigaaGreatT30
import Derived.Test.YtafaoldmemcigaaGreatT9
namespace Go.Proofs.YtafaoldmemcigaaGreat.Ab
set_option maxHeartbeats 8000000
set_option maxRecDepth 10000
set_option linter.unusedSimpArgs false
set_option linter.unusedVariables false
/-- 82: slices.Equal, of equal labels -/
theorem pf82 (l : List Lb) (hl : l.length < 2^60) : Pf E0 82 [.c (.p (.lst l.length (l.flatMap lbP))), .c (.p (.lst l.length (l.flatMap lbP)))] (P' (.bool true)) := by
  have hfl : (l.flatMap lbP).length = l.length * 2 := flat_len (k := 2) (fun _ => rfl) _
  have d0 : ((l.length : Int) != (l.length : Int)) = false := by simp
  refine Pf.body (fn := Tryz.f82) (by kernel_rfl) rfl ?_; simp only [List.map_cons, List.map_nil, List.cons_append, List.nil_append, List.length_cons, List.length_nil, Tryz.ntmps82, List.replicate, Nat.reduceSub, Nat.reduceAdd]
  refine Wc.seq ?_
  refine Wc.reg fun K hK => ?_; simp only [go_sem, ti3, ti9, ti4, ti35, ti22, ti23, ti24, ti26, ti32, ti34, ti45, ti48, ti53, ti55, ti57, ti64]; refine hK _ _ ?_; clear hK K
  refine Wc.seq (Wc.seq ?_)
  refine Wc.reg fun K hK => ?_; simp only [go_sem, ti3, ti9, ti4, ti35, ti22, ti23, ti24, ti26, ti32, ti34, ti45, ti48, ti53, ti55, ti57, ti64, d0]; refine hK _ _ ?_; clear hK K
  refine Wc.cond (t := false) (by simp only [go_sem, ti3, ti9, ti4, ti35, ti22, ti23, ti24, ti26, ti32, ti34, ti45, ti48, ti53, ti55, ti57, ti64, d0]) (fun hc => by cases hc) (fun _ => Wc.skip ?_)
  refine Wc.seqR (fun y => y.ds = [] ∧ Fs y.e 26 []) ?_ ?_
  · refine Wc.seq ?_
    refine Wc.reg fun K hK => ?_; simp only [go_sem, ti3, ti9, ti4, ti35, ti22, ti23, ti24, ti26, ti32, ti34, ti45, ti48, ti53, ti55, ti57, ti64, Int.natCast_zero]; refine hK _ _ ?_; clear hK K
    refine Wc.block (Wc.loop (fun k y => ∃ i : Nat, k = l.length - i ∧ i ≤ l.length ∧ y.ds = [] ∧ Fs y.e 26 [(0, P' (.lst l.length (l.flatMap lbP))), (1, P' (.lst l.length (l.flatMap lbP))), (12, P' (pI l.length)), (13, P' (pI i))]) ?_ (k := l.length) ?_)
    · rintro k ⟨e, ds, s1⟩ ⟨i, rfl, hi, rfl, hF⟩
      simp only [Fs] at hF
      refine Wc.seq ?_
      refine Wc.reg fun K hK => ?_; simp only [go_sem, ti3, ti9, ti4, ti35, ti22, ti23, ti24, ti26, ti32, ti34, ti45, ti48, ti53, ti55, ti57, ti64, hF]; refine hK _ _ ?_; clear hK K
      refine Wc.seq (Wc.cond (t := decide ((i : Int) < l.length)) (by simp only [go_sem, ti3, ti9, ti4, ti35, ti22, ti23, ti24, ti26, ti32, ti34, ti45, ti48, ti53, ti55, ti57, ti64, hF]) (fun hc => ?_) (fun hc => ?_))
      · have hil : i < l.length := by have : (i : Int) < l.length := by simpa using hc
                                      omega
        obtain ⟨x, hx⟩ : ∃ x, l[i]? = some x := ⟨l[i], List.getElem?_eq_getElem hil⟩
        have hix := ixA ti22 rfl ti64 (j := i) (m := l.length) (cs := l.flatMap lbP) hil hfl (by decide)
        have hca := rpA (off := i * 2) (drop_flat (f := lbP) (k := 2) (fun _ => rfl) hx) (by rw [hfl]; omega)
        refine Wc.skip (Wc.seq (Wc.block (Wc.seq ?_)))
        refine Wc.reg fun K hK => ?_; simp only [go_sem, ti3, ti9, ti4, ti35, ti22, ti23, ti24, ti26, ti32, ti34, ti45, ti48, ti53, ti55, ti57, ti64, hF]; refine hK _ _ ?_; clear hK K
        refine Wc.seq ?_
        refine Wc.regD fun K hK => ?_; simp only [go_sem, ti3, ti9, ti4, ti35, ti22, ti23, ti24, ti26, ti32, ti34, ti45, ti48, ti53, ti55, ti57, ti64, hF, hix, hca, eqL, eqS]; refine hK _ _ ?_; clear hK K
        refine Wc.cond (t := false) (by simp only [go_sem, ti3, ti9, ti4, ti35, ti22, ti23, ti24, ti26, ti32, ti34, ti45, ti48, ti53, ti55, ti57, ti64, hF]) (fun hc => by cases hc) (fun _ => Wc.skip ?_)
        refine Wc.reg fun K hK => ?_; simp only [go_sem, ti3, ti9, ti4, ti35, ti22, ti23, ti24, ti26, ti32, ti34, ti45, ti48, ti53, ti55, ti57, ti64, hF, i64n i (by omega)]; refine hK _ _ ?_; clear hK K
        exact ⟨l.length - (i + 1), by omega, i + 1, rfl, by omega, rfl, by simp only [Fs, Int.natCast_zero, go_sem, ti3, ti9, ti4, ti35, ti22, ti23, ti24, ti26, ti32, ti34, ti45, ti48, ti53, ti55, ti57, ti64, hF]⟩
      · exact Wc.exit ⟨rfl, by simp only [Fs, Int.natCast_zero, go_sem, ti3, ti9, ti4, ti35, ti22, ti23, ti24, ti26, ti32, ti34, ti45, ti48, ti53, ti55, ti57, ti64, hF]⟩
    · exact ⟨0, rfl, by omega, rfl, by simp only [Fs, Int.natCast_zero, go_sem, ti3, ti9, ti4, ti35, ti22, ti23, ti24, ti26, ti32, ti34, ti45, ti48, ti53, ti55, ti57, ti64]⟩
  rintro ⟨e, ds, s1⟩ ⟨rfl, hF⟩
  simp only [Fs] at hF
  refine Wc.seq ?_
  refine Wc.reg fun K hK => ?_; simp only [go_sem, ti3, ti9, ti4, ti35, ti22, ti23, ti24, ti26, ti32, ti34, ti45, ti48, ti53, ti55, ti57, ti64, hF]; refine hK _ _ ?_; clear hK K
  exact Wc.ret (Pf.ret [.tmp 4] [.c (.p (.bool true))] rfl rfl (by simp only [resultsD, go_sem, ti3, ti9, ti4, ti35, ti22, ti23, ti24, ti26, ti32, ti34, ti45, ti48, ti53, ti55, ti57, ti64, hF]) rfl)
/-- 38: same -/
theorem pf38 (lb : List Lb) (hlb : lb.length < 2^60) (z z' : Zo) (d d' : List UInt8) : Pf E0 38 [chV 1 (.lst lb.length (lb.flatMap lbP)) z.pd d, chV 1 (.lst lb.length (lb.flatMap lbP)) z'.pd d'] (P' (.bool (decide (d = d' ∧ z = z')))) := by
  refine Pf.body (fn := Tryz.f38) (by kernel_rfl) rfl ?_; simp only [List.map_cons, List.map_nil, List.cons_append, List.nil_append, List.length_cons, List.length_nil, Tryz.ntmps38, List.replicate, Nat.reduceSub, Nat.reduceAdd]
  refine Wc.seq ?_
  refine Wc.reg fun K hK => ?_; simp only [go_sem, ti3, ti9, ti4, ti35, ti22, ti23, ti24, ti26, ti32, ti34, ti45, ti48, ti53, ti55, ti57, ti64]; refine hK _ _ ?_; clear hK K
  refine Wc.seq ?_
  by_cases hz : z = z'
  · subst hz
    have e : decide (d = d' ∧ z = z) = (d == d') := by
      by_cases h : d = d'
      · simp [h]
      · simp [h]
    rw [e]
    refine Wc.reg fun K hK => ?_; simp only [go_sem, ti3, ti9, ti4, ti35, ti22, ti23, ti24, ti26, ti32, ti34, ti45, ti48, ti53, ti55, ti57, ti64]
    refine wpCall.pf (pf82 lb hlb) (by kernel_rfl) (by kernel_rfl) rfl rfl ?_
    simp only [go_sem, ti3, ti9, ti4, ti35, ti22, ti23, ti24, ti26, ti32, ti34, ti45, ti48, ti53, ti55, ti57, ti64, eqL, eqS]; refine hK _ _ ?_; clear hK K
    exact Wc.ret (Pf.ret [.tmp 4] [.c (.p (.bool (d == d')))] rfl rfl (by simp only [resultsD, go_sem, ti3, ti9, ti4, ti35, ti22, ti23, ti24, ti26, ti32, ti34, ti45, ti48, ti53, ti55, ti57, ti64]) rfl)
  · have e : decide (d = d' ∧ z = z') = false := by simp [hz]
    rw [e]
    have hne : ((z.c == z'.c) && ((z.t1 == z'.t1) && ((z.t2 == z'.t2) && ((z.v1 == z'.v1) && (z.v2 == z'.v2))))) = false := by
      cases hh : ((z.c == z'.c) && ((z.t1 == z'.t1) && ((z.t2 == z'.t2) && ((z.v1 == z'.v1) && (z.v2 == z'.v2))))) with
      | false => rfl
      | true =>
        exfalso
        simp only [Bool.and_eq_true, beq_iff_eq] at hh
        apply hz
        cases z
        cases z'
        simp only [Zo.mk.injEq]
        exact hh
    refine Wc.reg fun K hK => ?_; simp only [go_sem, ti3, ti9, ti4, ti35, ti22, ti23, ti24, ti26, ti32, ti34, ti45, ti48, ti53, ti55, ti57, ti64]
    refine wpCall.pf (pf82 lb hlb) (by kernel_rfl) (by kernel_rfl) rfl rfl ?_
    simp only [go_sem, ti3, ti9, ti4, ti35, ti22, ti23, ti24, ti26, ti32, ti34, ti45, ti48, ti53, ti55, ti57, ti64, eqL, eqS, hne]; refine hK _ _ ?_; clear hK K
    exact Wc.ret (Pf.ret [.tmp 4] [.c (.p (.bool false))] rfl rfl (by simp only [resultsD, go_sem, ti3, ti9, ti4, ti35, ti22, ti23, ti24, ti26, ti32, ti34, ti45, ti48, ti53, ti55, ti57, ti64]) rfl)
theorem distH_bs : ∀ {l : List HSm} {ns ss : List Int} {bs : List I2} {r : List HSm}, distH l ns ss bs = some r → r.length ≤ l.length ∧ ∀ y ∈ r, y.h.bs.length ≤ bs.length
  | x :: l, n :: ns, s :: ss, bs, r, h => by
    rw [distH] at h
    split at h
    · cases h
    · cases hr : distH l ns ss (bs.drop n.toNat) with
      | none => rw [hr] at h; cases h
      | some q =>
        rw [hr] at h; cases h
        obtain ⟨h1, h2⟩ := distH_bs hr
        refine ⟨by simp only [List.length_cons]; omega, fun y hy => ?_⟩
        rcases List.mem_cons.1 hy with rfl | hy
        · simp only [List.length_take]; omega
        · have := h2 y hy
          rw [List.length_drop] at this; omega
  | [], ns, ss, bs, r, h => by
    simp only [distH] at h
    split at h
    · cases h; exact ⟨by simp, fun y hy => by cases hy⟩
    · cases h
  | x :: l, [], ss, bs, r, h => by
    simp only [distH] at h
    split at h
    · cases h; exact ⟨by simp, fun y hy => by cases hy⟩
    · cases h
  | x :: l, n :: ns, [], bs, r, h => by
    simp only [distH] at h
    split at h
    · cases h; exact ⟨by simp, fun y hy => by cases hy⟩
    · cases h
theorem unpH_bs {ss : List (List UInt8)} {r : List HSm} (h : unpH ss = some r) : r.length ≤ 20001 ∧ ∀ y ∈ r, y.h.bs.length ≤ 20001 := by
  unfold unpH at h
  split at h
  · split at h
    · cases h
    · rename_i l hl
      split at h
      · cases h
      · split at h
        · cases h
        · rename_i bs hb
          split at h
          · cases h
          · obtain ⟨h1, h2⟩ := distH_bs h
            have := unpk_len hl
            have := unpk_len hb
            exact ⟨by omega, fun y hy => by have := h2 y hy; omega⟩
  · cases h
theorem parse_sz {lb : List Lb} {d : List UInt8} {x : Ser} (h : parseS lb d = some x) (h1 : lb.length < 2^40) (h2 : ∀ y ∈ lb, y.1.length < 2^50 ∧ y.2.length < 2^50) : x.Sz ∧ x.lb = lb := by
  unfold parseS at h
  split at h
  · cases h
  · split at h
    · split at h
      · cases h
      · rename_i ss hss
        cases hu : unpH ss with
        | none => rw [hu] at h; cases h
        | some l =>
          rw [hu] at h; cases h
          obtain ⟨h3, h4⟩ := unpH_bs hu
          exact ⟨⟨h1, h2, by simp, by simp only; omega, fun y hy => by have := h4 y hy; omega⟩, rfl⟩
    · split at h
      · cases h
      · rename_i ss hss
        cases hu : unpk (0, 0) smpR ss with
        | none => rw [hu] at h; cases h
        | some l =>
          rw [hu] at h; cases h
          have := unpk_len hu
          exact ⟨⟨h1, h2, by simp only; omega, by simp, fun y hy => by cases hy⟩, rfl⟩
/-- What Decode returns. -/
def decD : Option Ser → D
  | none => .tup [.agg [.p (.lst 0 []), .p (pI 0), .p (.lst 0 []), .p (.lst 0 [])], .c (.p (pI 12))]
  | some x => .tup [.agg (x.pd.map .p), .c (.p (pI 0))]
/-- 12: Decode -/
theorem pf12 (lb : List Lb) (h1 : lb.length < 2^40) (h2 : ∀ y ∈ lb, y.1.length < 2^50 ∧ y.2.length < 2^50) (z : Zo) (d : List UInt8) (hd : d.length < 2^40) : Pf E0 12 [chV 1 (.lst lb.length (lb.flatMap lbP)) z.pd d] (decD (decR lb z d)) := by
  obtain ⟨D, p37, hpar⟩ := pf37 1 lb z d hd
  have d1 : ((1 : Int) != 1) = false := by decide
  have dz : ((0 : Int) != 0) = false := by decide
  generalize hR : decR lb z d = R
  unfold decR at hR
  refine Pf.body (fn := Tryz.f12) (by kernel_rfl) rfl ?_; simp only [List.map_cons, List.map_nil, List.cons_append, List.nil_append, List.length_cons, List.length_nil, Tryz.ntmps12, List.replicate, Nat.reduceSub, Nat.reduceAdd]
  refine Wc.seq ?_
  refine Wc.reg fun K hK => ?_; simp only [go_sem, ti3, ti9, ti4, ti35, ti22, ti23, ti24, ti26, ti32, ti34, ti45, ti48, ti53, ti55, ti57, ti64]; refine hK _ _ ?_; clear hK K
  refine Wc.seq (Wc.seq ?_)
  refine Wc.reg fun K hK => ?_; simp only [go_sem, ti3, ti9, ti4, ti35, ti22, ti23, ti24, ti26, ti32, ti34, ti45, ti48, ti53, ti55, ti57, ti64, d1]; refine hK _ _ ?_; clear hK K
  refine Wc.cond (t := false) (by simp only [go_sem, ti3, ti9, ti4, ti35, ti22, ti23, ti24, ti26, ti32, ti34, ti45, ti48, ti53, ti55, ti57, ti64, d1]) (fun hc => by cases hc) (fun _ => Wc.skip ?_)
  cases hp : parseS lb d with
  | none =>
    rw [hp] at hR hpar
    simp only at hR
    subst hR
    obtain ⟨q0, q1, q2, q3, rfl⟩ := hpar
    refine Wc.seq ?_
    refine Wc.reg fun K hK => ?_; simp only [go_sem, ti3, ti9, ti4, ti35, ti22, ti23, ti24, ti26, ti32, ti34, ti45, ti48, ti53, ti55, ti57, ti64]
    refine wpCall.pf p37 (by kernel_rfl) (by kernel_rfl) rfl rfl ?_
    simp only [go_sem, ti3, ti9, ti4, ti35, ti22, ti23, ti24, ti26, ti32, ti34, ti45, ti48, ti53, ti55, ti57, ti64]; refine hK _ _ ?_; clear hK K
    refine Wc.seq (Wc.seq ?_)
    refine Wc.reg fun K hK => ?_; simp only [go_sem, ti3, ti9, ti4, ti35, ti22, ti23, ti24, ti26, ti32, ti34, ti45, ti48, ti53, ti55, ti57, ti64]; refine hK _ _ ?_; clear hK K
    refine Wc.cond (t := true) (by simp only [go_sem, ti3, ti9, ti4, ti35, ti22, ti23, ti24, ti26, ti32, ti34, ti45, ti48, ti53, ti55, ti57, ti64]) (fun _ => ?_) (fun hc => by cases hc)
    refine Wc.seq ?_
    refine Wc.reg fun K hK => ?_; simp only [go_sem, ti3, ti9, ti4, ti35, ti22, ti23, ti24, ti26, ti32, ti34, ti45, ti48, ti53, ti55, ti57, ti64]; refine hK _ _ ?_; clear hK K
    exact Wc.ret (Pf.ret [.cell 2 26, .tmp 3] [.agg [.nils, .p (pI 0), .nils, .nils], .c (.p (pI 12))] rfl rfl (by simp only [resultsD, go_sem, ti3, ti9, ti4, ti35, ti22, ti23, ti24, ti26, ti32, ti34, ti45, ti48, ti53, ti55, ti57, ti64]) rfl)
  | some x =>
    obtain ⟨hz, hlb⟩ := parse_sz hp h1 h2
    rw [hp] at hR hpar
    simp only [parR] at hR hpar
    subst hpar
    have p9 := pf9 x hz
    refine Wc.seq ?_
    refine Wc.reg fun K hK => ?_; simp only [go_sem, ti3, ti9, ti4, ti35, ti22, ti23, ti24, ti26, ti32, ti34, ti45, ti48, ti53, ti55, ti57, ti64]
    refine wpCall.pf p37 (by kernel_rfl) (by kernel_rfl) rfl rfl ?_
    simp only [go_sem, ti3, ti9, ti4, ti35, ti22, ti23, ti24, ti26, ti32, ti34, ti45, ti48, ti53, ti55, ti57, ti64]; refine hK _ _ ?_; clear hK K
    refine Wc.seq (Wc.seq ?_)
    refine Wc.reg fun K hK => ?_; simp only [go_sem, ti3, ti9, ti4, ti35, ti22, ti23, ti24, ti26, ti32, ti34, ti45, ti48, ti53, ti55, ti57, ti64]; refine hK _ _ ?_; clear hK K
    refine Wc.cond (t := false) (by simp only [go_sem, ti3, ti9, ti4, ti35, ti22, ti23, ti24, ti26, ti32, ti34, ti45, ti48, ti53, ti55, ti57, ti64]) (fun hc => by cases hc) (fun _ => Wc.skip ?_)
    cases he : encO x with
    | none =>
      obtain ⟨er, hne, hes⟩ := encS_none he
      rw [hes] at p9
      rw [if_neg (by rw [he]; rintro ⟨h, _⟩; cases h)] at hR
      subst hR
      have d0 : (er != 0) = true := by simpa using hne
      refine Wc.seq ?_
      refine Wc.reg fun K hK => ?_; simp only [go_sem, ti3, ti9, ti4, ti35, ti22, ti23, ti24, ti26, ti32, ti34, ti45, ti48, ti53, ti55, ti57, ti64]
      refine wpCall.pf p9 (by kernel_rfl) (by kernel_rfl) rfl rfl ?_
      simp only [go_sem, ti3, ti9, ti4, ti35, ti22, ti23, ti24, ti26, ti32, ti34, ti45, ti48, ti53, ti55, ti57, ti64]; refine hK _ _ ?_; clear hK K
      refine Wc.seq (Wc.seq ?_)
      refine Wc.reg fun K hK => ?_; simp only [go_sem, ti3, ti9, ti4, ti35, ti22, ti23, ti24, ti26, ti32, ti34, ti45, ti48, ti53, ti55, ti57, ti64, d0]; refine hK _ _ ?_; clear hK K
      refine Wc.cond (t := true) (by simp only [go_sem, ti3, ti9, ti4, ti35, ti22, ti23, ti24, ti26, ti32, ti34, ti45, ti48, ti53, ti55, ti57, ti64]) (fun _ => ?_) (fun hc => by cases hc)
      refine Wc.seq ?_
      refine Wc.reg fun K hK => ?_; simp only [go_sem, ti3, ti9, ti4, ti35, ti22, ti23, ti24, ti26, ti32, ti34, ti45, ti48, ti53, ti55, ti57, ti64]; refine hK _ _ ?_; clear hK K
      refine Wc.ret (thenD_ret ?_)
      exact Pf.ret [.cell 2 26, .tmp 3] [.agg [.nils, .p (pI 0), .nils, .nils], .c (.p (pI 12))] rfl rfl (by simp only [resultsD, go_sem, ti3, ti9, ti4, ti35, ti22, ti23, ti24, ti26, ti32, ti34, ti45, ti48, ti53, ti55, ti57, ti64]) rfl
    | some d' =>
      rw [encS_some he, hlb] at p9
      have p38 := pf38 lb (by omega) (serZ x) z d' d
      rw [he] at hR
      simp only [Option.some.injEq] at hR
      refine Wc.seq ?_
      refine Wc.reg fun K hK => ?_; simp only [go_sem, ti3, ti9, ti4, ti35, ti22, ti23, ti24, ti26, ti32, ti34, ti45, ti48, ti53, ti55, ti57, ti64]
      refine wpCall.pf p9 (by kernel_rfl) (by kernel_rfl) rfl rfl ?_
      simp only [go_sem, ti3, ti9, ti4, ti35, ti22, ti23, ti24, ti26, ti32, ti34, ti45, ti48, ti53, ti55, ti57, ti64]; refine hK _ _ ?_; clear hK K
      refine Wc.seq (Wc.seq ?_)
      by_cases hsame : d' = d ∧ serZ x = z
      · rw [if_pos hsame] at hR
        subst hR
        have e0 : decide (d' = d ∧ serZ x = z) = true := by simpa using hsame
        rw [e0] at p38
        refine Wc.reg fun K hK => ?_; simp only [go_sem, ti3, ti9, ti4, ti35, ti22, ti23, ti24, ti26, ti32, ti34, ti45, ti48, ti53, ti55, ti57, ti64, dz]
        refine wpCall.pf p38 (by kernel_rfl) (by kernel_rfl) rfl rfl ?_
        simp only [go_sem, ti3, ti9, ti4, ti35, ti22, ti23, ti24, ti26, ti32, ti34, ti45, ti48, ti53, ti55, ti57, ti64, dz]; refine hK _ _ ?_; clear hK K
        refine Wc.cond (t := false) (by simp only [go_sem, ti3, ti9, ti4, ti35, ti22, ti23, ti24, ti26, ti32, ti34, ti45, ti48, ti53, ti55, ti57, ti64, dz]) (fun hc => by cases hc) (fun _ => Wc.skip ?_)
        refine Wc.seq ?_
        refine Wc.reg fun K hK => ?_; simp only [go_sem, ti3, ti9, ti4, ti35, ti22, ti23, ti24, ti26, ti32, ti34, ti45, ti48, ti53, ti55, ti57, ti64]; refine hK _ _ ?_; clear hK K
        exact Wc.ret (Pf.ret [.cell 2 26, .tmp 3] [.agg (x.pd.map .p), .c (.p (pI 0))] rfl rfl (by simp only [resultsD, go_sem, ti3, ti9, ti4, ti35, ti22, ti23, ti24, ti26, ti32, ti34, ti45, ti48, ti53, ti55, ti57, ti64]) rfl)
      · rw [if_neg hsame] at hR
        subst hR
        have e0 : decide (d' = d ∧ serZ x = z) = false := by simpa using hsame
        rw [e0] at p38
        refine Wc.reg fun K hK => ?_; simp only [go_sem, ti3, ti9, ti4, ti35, ti22, ti23, ti24, ti26, ti32, ti34, ti45, ti48, ti53, ti55, ti57, ti64, dz]
        refine wpCall.pf p38 (by kernel_rfl) (by kernel_rfl) rfl rfl ?_
        simp only [go_sem, ti3, ti9, ti4, ti35, ti22, ti23, ti24, ti26, ti32, ti34, ti45, ti48, ti53, ti55, ti57, ti64, dz]; refine hK _ _ ?_; clear hK K
        refine Wc.cond (t := true) (by simp only [go_sem, ti3, ti9, ti4, ti35, ti22, ti23, ti24, ti26, ti32, ti34, ti45, ti48, ti53, ti55, ti57, ti64, dz]) (fun _ => ?_) (fun hc => by cases hc)
        refine Wc.seq ?_
        refine Wc.reg fun K hK => ?_; simp only [go_sem, ti3, ti9, ti4, ti35, ti22, ti23, ti24, ti26, ti32, ti34, ti45, ti48, ti53, ti55, ti57, ti64]; refine hK _ _ ?_; clear hK K
        refine Wc.ret (thenD_ret ?_)
        exact Pf.ret [.cell 2 26, .tmp 3] [.agg [.nils, .p (pI 0), .nils, .nils], .c (.p (pI 12))] rfl rfl (by simp only [resultsD, go_sem, ti3, ti9, ti4, ti35, ti22, ti23, ti24, ti26, ti32, ti34, ti45, ti48, ti53, ti55, ti57, ti64]) rfl
end Go.Proofs.YtafaoldmemcigaaGreat.Ab
namespace Go.Proofs.YtafaoldmemcigaaGreat.Ab
set_option maxHeartbeats 8000000
set_option maxRecDepth 10000
set_option linter.unusedSimpArgs false
set_option linter.unusedVariables false
theorem purC_p (s : St) (x : Pd) : purC s (.p x) = some (x, s) := rfl
/-- 39: series.Slice -/
theorem pf39 (l : List I2) (f u : Int) (hl : l.length < 2^40) : Pf E0 39 [.c (.p (.lst l.length (l.flatMap p2))), .c (.p (pI f)), .c (.p (pI u))] (P' (.lst (slc (·.1) f u l).length ((slc (·.1) f u l).flatMap p2))) := by
  have hfl : (l.flatMap p2).length = l.length * 2 := flat_len (k := 2) (fun _ => rfl) _
  refine Pf.body (fn := Tryz.f39) (by kernel_rfl) rfl ?_; simp only [List.map_cons, List.map_nil, List.cons_append, List.nil_append, List.length_cons, List.length_nil, Tryz.ntmps39, List.replicate, Nat.reduceSub, Nat.reduceAdd]
  refine Wc.seq ?_
  refine Wc.reg fun K hK => ?_; simp only [go_sem, ti3, ti9, ti4, ti35, ti22, ti23, ti24, ti26, ti32, ti34, ti45, ti48, ti53, ti55, ti57, ti64, ti83]; refine hK _ _ ?_; clear hK K
  refine Wc.seq ?_
  refine Wc.reg fun K hK => ?_; simp only [go_sem, ti3, ti9, ti4, ti35, ti22, ti23, ti24, ti26, ti32, ti34, ti45, ti48, ti53, ti55, ti57, ti64, ti83]; refine hK _ _ ?_; clear hK K
  refine Wc.seqR (fun y => ∃ c7, y.ds = [] ∧ Fs y.e 32 [(7, .v (.c c7))] ∧ OA y.s.nx y.s [(2, .v (.c c7), (slc (·.1) f u l).length, (slc (·.1) f u l).flatMap p2)] []) ?_ ?_
  · refine Wc.seq ?_
    refine Wc.reg fun K hK => ?_; simp only [go_sem, ti3, ti9, ti4, ti35, ti22, ti23, ti24, ti26, ti32, ti34, ti45, ti48, ti53, ti55, ti57, ti64, ti83, Int.natCast_zero]; refine hK _ _ ?_; clear hK K
    refine Wc.block (Wc.loop (fun k y => ∃ (i : Nat) (c7 : C), k = l.length - i ∧ i ≤ l.length ∧ y.ds = [] ∧ Fs y.e 32 [(1, P' (pI f)), (2, P' (pI u)), (10, P' (.lst l.length (l.flatMap p2))), (11, P' (pI l.length)), (12, P' (pI i)), (7, .v (.c c7))] ∧ OA y.s.nx y.s [(2, .v (.c c7), (slc (·.1) f u (l.take i)).length, (slc (·.1) f u (l.take i)).flatMap p2)] []) ?_ (k := l.length) ?_)
    · rintro k ⟨e, ds, s1⟩ ⟨i, c7, rfl, hi, rfl, hF, ho⟩
      simp only [Fs] at hF ho
      refine Wc.seq ?_
      refine Wc.reg fun K hK => ?_; simp only [go_sem, ti3, ti9, ti4, ti35, ti22, ti23, ti24, ti26, ti32, ti34, ti45, ti48, ti53, ti55, ti57, ti64, ti83, hF]; refine hK _ _ ?_; clear hK K
      refine Wc.seq (Wc.cond (t := decide ((i : Int) < l.length)) (by simp only [go_sem, ti3, ti9, ti4, ti35, ti22, ti23, ti24, ti26, ti32, ti34, ti45, ti48, ti53, ti55, ti57, ti64, ti83, hF]) (fun hc => ?_) (fun hc => ?_))
      · have hil : i < l.length := by have : (i : Int) < l.length := by simpa using hc
                                      omega
        obtain ⟨b, hb⟩ : ∃ b, l[i]? = some b := ⟨l[i], List.getElem?_eq_getElem hil⟩
        have hix := ixA ti23 rfl ti45 (j := i) (m := l.length) (cs := l.flatMap p2) hil hfl (by decide)
        have hca := rpA (off := i * 2) (drop_flat (f := p2) (k := 2) (fun _ => rfl) hb) (by rw [hfl]; omega)
        have htk := slc_take (t := fun a : I2 => a.1) (f := f) (u := u) hb
        have hsl := slc_len (fun a : I2 => a.1) f u (l.take i)
        rw [List.length_take] at hsl
        refine Wc.skip (Wc.seq (Wc.block (Wc.seqA (fun y => ∃ k9, y.ds = [] ∧ Fs y.e 32 [(1, P' (pI f)), (2, P' (pI u)), (10, P' (.lst l.length (l.flatMap p2))), (11, P' (pI l.length)), (12, P' (pI i)), (7, .v (.c c7)), (9, .v (.c (.ref k9 0)))] ∧ OA y.s.nx y.s [(2, .v (.c c7), (slc (·.1) f u (l.take i)).length, (slc (·.1) f u (l.take i)).flatMap p2)] [(k9, .cells ((p2 b).map .p) false)]) ?_ ?_)))
        · refine Wc.reg fun K hK => ?_; simp only [go_sem, ti3, ti9, ti4, ti35, ti22, ti23, ti24, ti26, ti32, ti34, ti45, ti48, ti53, ti55, ti57, ti64, ti83, hF, hix, hca]; refine hK _ _ ?_; clear hK K
          exact ⟨rfl, s1.nx + 3, rfl, by simp only [Fs, Int.natCast_zero, go_sem, ti3, ti9, ti4, ti35, ti22, ti23, ti24, ti26, ti32, ti34, ti45, ti48, ti53, ti55, ti57, ti64, ti83, hF], by simp only [St.nx_put, St.nx_adv]; repeat (first | exact OA.mono ho (by omega) | refine OA.newB ?_ (by omega) rfl | refine OA.advB ?_)⟩
        clear hF ho e s1
        rintro ⟨e, ds, s1⟩ ⟨k9, rfl, hF, ho⟩
        simp only [Fs] at hF ho
        have g9 := ho.at_ (k9, .cells ((p2 b).map .p) false) (by simp)
        simp only [List.map_cons, List.map_nil] at g9
        refine Wc.cutA (fun y => ∃ c7, y.ds = [] ∧ Fs y.e 32 [(1, P' (pI f)), (2, P' (pI u)), (10, P' (.lst l.length (l.flatMap p2))), (11, P' (pI l.length)), (12, P' (pI i)), (7, .v (.c c7))] ∧ OA y.s.nx y.s [(2, .v (.c c7), (slc (·.1) f u (l.take (i + 1))).length, (slc (·.1) f u (l.take (i + 1))).flatMap p2)] []) ?_ ?_
        · refine Wc.seq ?_
          by_cases h1 : f < b.1
          · by_cases h2 : b.1 ≤ u
            · refine Wc.reg fun K hK => ?_; simp only [go_sem, ti3, ti9, ti4, ti35, ti22, ti23, ti24, ti26, ti32, ti34, ti45, ti48, ti53, ti55, ti57, ti64, ti83, hF, g9, h1, h2]; refine hK _ _ ?_; clear hK K
              refine Wc.cond (t := true) (by simp only [go_sem, ti3, ti9, ti4, ti35, ti22, ti23, ti24, ti26, ti32, ti34, ti45, ti48, ti53, ti55, ti57, ti64, ti83, hF]) (fun _ => ?_) (fun hc => by cases hc)
              refine Wc.reg fun K hK => ?_; simp only [go_sem, ti3, ti9, ti4, ti35, ti22, ti23, ti24, ti26, ti32, ti34, ti45, ti48, ti53, ti55, ti57, ti64, ti83, hF, g9]
              refine OA.app (L1 := []) (L2 := []) (by_ := 16) (n := (slc (·.1) f u (l.take i)).length) (m := 1) (ys := p2 b) (OA.put (ho.adv.adv) (by omega)) (by omega) ⟨_, ti23, rfl⟩ ti45 rfl rfl rfl (by decide) (by decide) (by simp only [go_sem, ti3, ti9, ti4, ti35, ti22, ti23, ti24, ti26, ti32, ti34, ti45, ti48, ti53, ti55, ti57, ti64, ti83]) rfl (by omega) fun b' s3 hb' hnx' => ?_
              obtain ⟨c7', rfl⟩ := (hb'.own _ (List.mem_cons_self ..)).v
              simp only [go_sem, ti3, ti9, ti4, ti35, ti22, ti23, ti24, ti26, ti32, ti34, ti45, ti48, ti53, ti55, ti57, ti64, ti83, hF]; refine hK _ _ ?_; clear hK K
              rw [htk, if_pos ⟨h1, h2⟩, List.length_append, List.flatMap_append, List.flatMap_cons, List.flatMap_nil, List.append_nil]
              refine ⟨rfl, c7', rfl, by simp only [Fs, Int.natCast_zero, go_sem, ti3, ti9, ti4, ti35, ti22, ti23, ti24, ti26, ti32, ti34, ti45, ti48, ti53, ti55, ti57, ti64, ti83, hF], ?_⟩
              exact (hb'.mono (b' := s3.nx) (by simp only [St.nx_put, hnx', St.nx_adv]; omega)).sub (List.Sublist.refl _) (List.nil_sublist _)
            · refine Wc.reg fun K hK => ?_; simp only [go_sem, ti3, ti9, ti4, ti35, ti22, ti23, ti24, ti26, ti32, ti34, ti45, ti48, ti53, ti55, ti57, ti64, ti83, hF, g9, h1, h2]; refine hK _ _ ?_; clear hK K
              refine Wc.cond (t := false) (by simp only [go_sem, ti3, ti9, ti4, ti35, ti22, ti23, ti24, ti26, ti32, ti34, ti45, ti48, ti53, ti55, ti57, ti64, ti83, hF]) (fun hc => by cases hc) (fun _ => Wc.skip ?_)
              rw [htk, if_neg (fun h => h2 h.2), List.append_nil]
              exact ⟨rfl, c7, rfl, by simp only [Fs, Int.natCast_zero, go_sem, ti3, ti9, ti4, ti35, ti22, ti23, ti24, ti26, ti32, ti34, ti45, ti48, ti53, ti55, ti57, ti64, ti83, hF], by simp only [St.nx_put, St.nx_adv]; repeat (first | exact OA.mono (ho.sub (List.Sublist.refl _) (List.nil_sublist _)) (by omega) | refine OA.newB ?_ (by omega) rfl | refine OA.advB ?_)⟩
          · refine Wc.reg fun K hK => ?_; simp only [go_sem, ti3, ti9, ti4, ti35, ti22, ti23, ti24, ti26, ti32, ti34, ti45, ti48, ti53, ti55, ti57, ti64, ti83, hF, g9, h1]; refine hK _ _ ?_; clear hK K
            refine Wc.cond (t := false) (by simp only [go_sem, ti3, ti9, ti4, ti35, ti22, ti23, ti24, ti26, ti32, ti34, ti45, ti48, ti53, ti55, ti57, ti64, ti83, hF]) (fun hc => by cases hc) (fun _ => Wc.skip ?_)
            rw [htk, if_neg (fun h => h1 h.1), List.append_nil]
            exact ⟨rfl, c7, rfl, by simp only [Fs, Int.natCast_zero, go_sem, ti3, ti9, ti4, ti35, ti22, ti23, ti24, ti26, ti32, ti34, ti45, ti48, ti53, ti55, ti57, ti64, ti83, hF], by simp only [St.nx_put, St.nx_adv]; repeat (first | exact OA.mono (ho.sub (List.Sublist.refl _) (List.nil_sublist _)) (by omega) | refine OA.newB ?_ (by omega) rfl | refine OA.advB ?_)⟩
        clear hF ho g9 e s1
        rintro ⟨e, ds, s1⟩ ⟨c7, rfl, hF, ho⟩
        simp only [Fs] at hF ho
        refine Wc.reg fun K hK => ?_; simp only [go_sem, ti3, ti9, ti4, ti35, ti22, ti23, ti24, ti26, ti32, ti34, ti45, ti48, ti53, ti55, ti57, ti64, ti83, hF, i64n i (by omega)]; refine hK _ _ ?_; clear hK K
        exact ⟨l.length - (i + 1), by omega, i + 1, c7, rfl, by omega, rfl, by simp only [Fs, Int.natCast_zero, go_sem, ti3, ti9, ti4, ti35, ti22, ti23, ti24, ti26, ti32, ti34, ti45, ti48, ti53, ti55, ti57, ti64, ti83, hF], by simp only [St.nx_put, St.nx_adv]; repeat (first | exact OA.mono ho (by omega) | refine OA.newB ?_ (by omega) rfl | refine OA.advB ?_)⟩
      · have hil : i = l.length := by have : ¬ (i : Int) < l.length := by simpa using hc
                                      omega
        subst hil
        rw [List.take_length] at ho
        exact Wc.exit ⟨c7, rfl, by simp only [Fs, Int.natCast_zero, go_sem, ti3, ti9, ti4, ti35, ti22, ti23, ti24, ti26, ti32, ti34, ti45, ti48, ti53, ti55, ti57, ti64, ti83, hF], by simp only [St.nx_put, St.nx_adv]; repeat (first | exact OA.mono ho (by omega) | refine OA.newB ?_ (by omega) rfl | refine OA.advB ?_)⟩
    · exact ⟨0, .nils, rfl, by omega, rfl, by simp only [Fs, Int.natCast_zero, go_sem, ti3, ti9, ti4, ti35, ti22, ti23, ti24, ti26, ti32, ti34, ti45, ti48, ti53, ti55, ti57, ti64, ti83], OA.nil (by simp only [St.nx_put, St.nx_adv]; repeat (first | exact OA.mono s00_oa (by omega) | refine OA.newB ?_ (by omega) rfl | refine OA.advB ?_))⟩
  rintro ⟨e, ds, s1⟩ ⟨c7, rfl, hF, ho⟩
  simp only [Fs] at hF ho
  refine Wc.seq ?_
  refine Wc.reg fun K hK => ?_; simp only [go_sem, ti3, ti9, ti4, ti35, ti22, ti23, ti24, ti26, ti32, ti34, ti45, ti48, ti53, ti55, ti57, ti64, ti83, hF]; refine hK _ _ ?_; clear hK K
  exact Wc.ret (Pf.retO [.tmp 6] c7 rfl rfl (by simp only [resultsD, go_sem, ti3, ti9, ti4, ti35, ti22, ti23, ti24, ti26, ti32, ti34, ti45, ti48, ti53, ti55, ti57, ti64, ti83, hF]) ((ho.adv (n := 2)).own _ (List.mem_cons_self ..)))
/-- 13: Slice -/
theorem pf13 (x : Ser) (lb : List Lb) (h1 : lb.length < 2^40) (h2 : ∀ y ∈ lb, y.1.length < 2^50 ∧ y.2.length < 2^50) (z : Zo) (d : List UInt8) (hd : d.length < 2^40) (hx : decR lb z d = some x) (f u : Int) (hsm : x.sm.length < 2^40) (hhs : x.hs.length < 2^40) :
    Pf E0 13 [chV 1 (.lst lb.length (lb.flatMap lbP)) z.pd d, .c (.p (pI f)), .c (.p (pI u))] (.tup [.agg ((Ser.pd ⟨x.lb, x.k, slc (·.1) f u x.sm, slc (·.t) f u x.hs⟩).map .p), .c (.p (pI 0))]) := by
  have p12 := pf12 lb h1 h2 z d hd
  rw [hx] at p12
  simp only [decD] at p12
  have hfl : (x.hs.flatMap HSm.pd).length = x.hs.length * 7 := flat_len (k := 7) (fun _ => rfl) _
  refine Pf.body (fn := Tryz.f13) (by kernel_rfl) rfl ?_; simp only [List.map_cons, List.map_nil, List.cons_append, List.nil_append, List.length_cons, List.length_nil, Tryz.ntmps13, List.replicate, Nat.reduceSub, Nat.reduceAdd]
  refine Wc.seq ?_
  refine Wc.reg fun K hK => ?_; simp only [go_sem, ti3, ti9, ti4, ti35, ti22, ti23, ti24, ti26, ti32, ti34, ti45, ti48, ti53, ti55, ti57, ti64, ti83]; refine hK _ _ ?_; clear hK K
  refine Wc.seqA (fun y => ∃ k8, y.ds = [] ∧ Fs y.e 53 [(1, P' (pI f)), (2, P' (pI u)), (6, .v (.c (.ref 1 0))), (8, .v (.c (.ref k8 0))), (9, P' (pI 0))] ∧ OA y.s.nx y.s [] [(k8, .cells (x.pd.map .p) false), (1, .cells [.nils, .p (pI 0), .nils, .nils] false)]) ?_ ?_
  · refine Wc.reg fun K hK => ?_; simp only [go_sem, ti3, ti9, ti4, ti35, ti22, ti23, ti24, ti26, ti32, ti34, ti45, ti48, ti53, ti55, ti57, ti64, ti83]
    refine wpCall.pf p12 (by kernel_rfl) (by kernel_rfl) rfl rfl ?_
    simp only [go_sem, ti3, ti9, ti4, ti35, ti22, ti23, ti24, ti26, ti32, ti34, ti45, ti48, ti53, ti55, ti57, ti64, ti83]; refine hK _ _ ?_; clear hK K
    refine ⟨rfl, 8, rfl, by simp only [Fs, Int.natCast_zero, go_sem, ti3, ti9, ti4, ti35, ti22, ti23, ti24, ti26, ti32, ti34, ti45, ti48, ti53, ti55, ti57, ti64, ti83], ?_⟩
    refine OA.sub (M := (8, .cells (x.pd.map .p) false) :: (1, .cells [.nils, .p (pI 0), .nils, .nils] false) :: (0, .cells ([.p (pI 1), .p (.lst lb.length (lb.flatMap lbP))] ++ z.pd.map .p ++ [.p (.str d)]) false) :: []) (by simp only [St.nx_put, St.nx_adv]; repeat (first | exact OA.mono s00_oa (by omega) | refine OA.newB ?_ (by omega) rfl | refine OA.advB ?_)) (List.Sublist.refl _) (((List.nil_sublist _).cons_cons _).cons_cons _)
  rintro ⟨e, ds, s1⟩ ⟨k8, rfl, hF, ho⟩
  simp only [Fs] at hF ho
  have g8 := ho.at_ (k8, .cells (x.pd.map .p) false) (by simp)
  simp only [List.map_cons, List.map_nil] at g8
  refine Wc.seq (Wc.seq ?_)
  refine Wc.reg fun K hK => ?_; simp only [go_sem, ti3, ti9, ti4, ti35, ti22, ti23, ti24, ti26, ti32, ti34, ti45, ti48, ti53, ti55, ti57, ti64, ti83, hF]; refine hK _ _ ?_; clear hK K
  refine Wc.cond (t := false) (by simp only [go_sem, ti3, ti9, ti4, ti35, ti22, ti23, ti24, ti26, ti32, ti34, ti45, ti48, ti53, ti55, ti57, ti64, ti83, hF]; rfl) (fun hc => by cases hc) (fun _ => Wc.skip ?_)
  refine Wc.seqA (fun y => y.ds = [] ∧ Fs y.e 53 [(1, P' (pI f)), (2, P' (pI u)), (6, .v (.c (.ref 1 0))), (8, .v (.c (.ref k8 0)))] ∧ OA y.s.nx y.s [] [(k8, .cells [.p (.lst x.lb.length (x.lb.flatMap lbP)), .p (pI x.k), .p (.lst (slc (·.1) f u x.sm).length ((slc (·.1) f u x.sm).flatMap p2)), .p (.lst x.hs.length (x.hs.flatMap HSm.pd))] false), (1, .cells [.nils, .p (pI 0), .nils, .nils] false)]) ?_ ?_
  · refine Wc.reg fun K hK => ?_; simp only [go_sem, ti3, ti9, ti4, ti35, ti22, ti23, ti24, ti26, ti32, ti34, ti45, ti48, ti53, ti55, ti57, ti64, ti83, hF, g8]
    refine wpCall.pf (pf39 x.sm f u hsm) (by kernel_rfl) (by kernel_rfl) rfl rfl ?_
    simp only [go_sem, ti3, ti9, ti4, ti35, ti22, ti23, ti24, ti26, ti32, ti34, ti45, ti48, ti53, ti55, ti57, ti64, ti83, hF, g8]; refine hK _ _ ?_; clear hK K
    exact ⟨rfl, rfl, by simp only [Fs, Int.natCast_zero, go_sem, ti3, ti9, ti4, ti35, ti22, ti23, ti24, ti26, ti32, ti34, ti45, ti48, ti53, ti55, ti57, ti64, ti83, hF], by simp only [St.nx_put, St.nx_adv]; (repeat refine OA.advB ?_); refine OA.ofS (M1 := []) ?_; repeat (first | exact ⟨_, OA.mono ho (by omega)⟩ | refine OAs.adv ?_ | refine OAs.put ?_)⟩
  clear hF ho g8 e s1
  rintro ⟨e, ds, s1⟩ ⟨rfl, hF, ho⟩
  simp only [Fs] at hF ho
  refine Wc.seq ?_
  refine Wc.reg fun K hK => ?_; simp only [go_sem, ti3, ti9, ti4, ti35, ti22, ti23, ti24, ti26, ti32, ti34, ti45, ti48, ti53, ti55, ti57, ti64, ti83, hF]; refine hK _ _ ?_; clear hK K
  refine Wc.seqR (fun y => ∃ c10, y.ds = [] ∧ Fs y.e 53 [(6, .v (.c (.ref 1 0))), (8, .v (.c (.ref k8 0))), (10, .v (.c c10))] ∧ OA y.s.nx y.s [(7, .v (.c c10), (slc (·.t) f u x.hs).length, (slc (·.t) f u x.hs).flatMap HSm.pd)] [(k8, .cells [.p (.lst x.lb.length (x.lb.flatMap lbP)), .p (pI x.k), .p (.lst (slc (·.1) f u x.sm).length ((slc (·.1) f u x.sm).flatMap p2)), .p (.lst x.hs.length (x.hs.flatMap HSm.pd))] false), (1, .cells [.nils, .p (pI 0), .nils, .nils] false)]) ?_ ?_
  · refine Wc.seq ?_
    have g8 := ho.at_ (k8, .cells [.p (.lst x.lb.length (x.lb.flatMap lbP)), .p (pI x.k), .p (.lst (slc (·.1) f u x.sm).length ((slc (·.1) f u x.sm).flatMap p2)), .p (.lst x.hs.length (x.hs.flatMap HSm.pd))] false) (by simp)
    simp only at g8
    refine Wc.reg fun K hK => ?_; simp only [go_sem, ti3, ti9, ti4, ti35, ti22, ti23, ti24, ti26, ti32, ti34, ti45, ti48, ti53, ti55, ti57, ti64, ti83, hF, g8, Int.natCast_zero]; refine hK _ _ ?_; clear hK K
    refine Wc.block (Wc.loop (fun k y => ∃ (i : Nat) (c10 : C), k = x.hs.length - i ∧ i ≤ x.hs.length ∧ y.ds = [] ∧ Fs y.e 53 [(1, P' (pI f)), (2, P' (pI u)), (6, .v (.c (.ref 1 0))), (8, .v (.c (.ref k8 0))), (29, P' (.lst x.hs.length (x.hs.flatMap HSm.pd))), (30, P' (pI x.hs.length)), (31, P' (pI i)), (10, .v (.c c10))] ∧ OA y.s.nx y.s [(7, .v (.c c10), (slc (·.t) f u (x.hs.take i)).length, (slc (·.t) f u (x.hs.take i)).flatMap HSm.pd)] [(k8, .cells [.p (.lst x.lb.length (x.lb.flatMap lbP)), .p (pI x.k), .p (.lst (slc (·.1) f u x.sm).length ((slc (·.1) f u x.sm).flatMap p2)), .p (.lst x.hs.length (x.hs.flatMap HSm.pd))] false), (1, .cells [.nils, .p (pI 0), .nils, .nils] false)]) ?_ (k := x.hs.length) ?_)
    · clear hF ho g8 e s1
      rintro k ⟨e, ds, s1⟩ ⟨i, c10, rfl, hi, rfl, hF, ho⟩
      simp only [Fs] at hF ho
      refine Wc.seq ?_
      refine Wc.reg fun K hK => ?_; simp only [go_sem, ti3, ti9, ti4, ti35, ti22, ti23, ti24, ti26, ti32, ti34, ti45, ti48, ti53, ti55, ti57, ti64, ti83, hF]; refine hK _ _ ?_; clear hK K
      refine Wc.seq (Wc.cond (t := decide ((i : Int) < x.hs.length)) (by simp only [go_sem, ti3, ti9, ti4, ti35, ti22, ti23, ti24, ti26, ti32, ti34, ti45, ti48, ti53, ti55, ti57, ti64, ti83, hF]) (fun hc => ?_) (fun hc => ?_))
      · have hil : i < x.hs.length := by have : (i : Int) < x.hs.length := by simpa using hc
                                         omega
        obtain ⟨b, hb⟩ : ∃ b, x.hs[i]? = some b := ⟨x.hs[i], List.getElem?_eq_getElem hil⟩
        have hix := ixA ti24 rfl ti57 (j := i) (m := x.hs.length) (cs := x.hs.flatMap HSm.pd) hil hfl (by decide)
        have hca := rpA (off := i * 7) (drop_flat (f := HSm.pd) (k := 7) (fun _ => rfl) hb) (by rw [hfl]; omega)
        have htk := slc_take (t := fun a : HSm => a.t) (f := f) (u := u) hb
        have hsl := slc_len (fun a : HSm => a.t) f u (x.hs.take i)
        rw [List.length_take] at hsl
        refine Wc.skip (Wc.seq (Wc.block (Wc.seqA (fun y => ∃ k9, y.ds = [] ∧ Fs y.e 53 [(1, P' (pI f)), (2, P' (pI u)), (6, .v (.c (.ref 1 0))), (8, .v (.c (.ref k8 0))), (29, P' (.lst x.hs.length (x.hs.flatMap HSm.pd))), (30, P' (pI x.hs.length)), (31, P' (pI i)), (10, .v (.c c10)), (12, .v (.c (.ref k9 0)))] ∧ OA y.s.nx y.s [(7, .v (.c c10), (slc (·.t) f u (x.hs.take i)).length, (slc (·.t) f u (x.hs.take i)).flatMap HSm.pd)] [(k9, .cells (b.pd.map .p) false), (k8, .cells [.p (.lst x.lb.length (x.lb.flatMap lbP)), .p (pI x.k), .p (.lst (slc (·.1) f u x.sm).length ((slc (·.1) f u x.sm).flatMap p2)), .p (.lst x.hs.length (x.hs.flatMap HSm.pd))] false), (1, .cells [.nils, .p (pI 0), .nils, .nils] false)]) ?_ ?_)))
        · refine Wc.reg fun K hK => ?_; simp only [go_sem, ti3, ti9, ti4, ti35, ti22, ti23, ti24, ti26, ti32, ti34, ti45, ti48, ti53, ti55, ti57, ti64, ti83, hF, hix, hca]; refine hK _ _ ?_; clear hK K
          exact ⟨rfl, s1.nx + 3, rfl, by simp only [Fs, Int.natCast_zero, go_sem, ti3, ti9, ti4, ti35, ti22, ti23, ti24, ti26, ti32, ti34, ti45, ti48, ti53, ti55, ti57, ti64, ti83, hF], by simp only [St.nx_put, St.nx_adv]; repeat (first | exact OA.mono ho (by omega) | refine OA.newB ?_ (by omega) rfl | refine OA.advB ?_)⟩
        clear hF ho e s1
        rintro ⟨e, ds, s1⟩ ⟨k9, rfl, hF, ho⟩
        simp only [Fs] at hF ho
        have g9 := ho.at_ (k9, .cells (b.pd.map .p) false) (by simp)
        simp only [List.map_cons, List.map_nil] at g9
        refine Wc.cutA (fun y => ∃ c10, y.ds = [] ∧ Fs y.e 53 [(1, P' (pI f)), (2, P' (pI u)), (6, .v (.c (.ref 1 0))), (8, .v (.c (.ref k8 0))), (29, P' (.lst x.hs.length (x.hs.flatMap HSm.pd))), (30, P' (pI x.hs.length)), (31, P' (pI i)), (10, .v (.c c10))] ∧ OA y.s.nx y.s [(7, .v (.c c10), (slc (·.t) f u (x.hs.take (i + 1))).length, (slc (·.t) f u (x.hs.take (i + 1))).flatMap HSm.pd)] [(k8, .cells [.p (.lst x.lb.length (x.lb.flatMap lbP)), .p (pI x.k), .p (.lst (slc (·.1) f u x.sm).length ((slc (·.1) f u x.sm).flatMap p2)), .p (.lst x.hs.length (x.hs.flatMap HSm.pd))] false), (1, .cells [.nils, .p (pI 0), .nils, .nils] false)]) ?_ ?_
        · refine Wc.seq ?_
          by_cases h1 : f < b.t
          · by_cases h2 : b.t ≤ u
            · refine Wc.reg fun K hK => ?_; simp only [go_sem, ti3, ti9, ti4, ti35, ti22, ti23, ti24, ti26, ti32, ti34, ti45, ti48, ti53, ti55, ti57, ti64, ti83, hF, g9, h1, h2]; refine hK _ _ ?_; clear hK K
              refine Wc.cond (t := true) (by simp only [go_sem, ti3, ti9, ti4, ti35, ti22, ti23, ti24, ti26, ti32, ti34, ti45, ti48, ti53, ti55, ti57, ti64, ti83, hF]) (fun _ => ?_) (fun hc => by cases hc)
              refine Wc.reg fun K hK => ?_; simp only [go_sem, ti3, ti9, ti4, ti35, ti22, ti23, ti24, ti26, ti32, ti34, ti45, ti48, ti53, ti55, ti57, ti64, ti83, hF, g9]
              refine OA.app (L1 := []) (L2 := []) (by_ := 72) (n := (slc (·.t) f u (x.hs.take i)).length) (m := 1) (ys := b.pd) (OA.put (ho.adv.adv) (by omega)) (by omega) ⟨_, ti24, rfl⟩ ti57 rfl rfl rfl (by decide) (by decide) (by simp only [go_sem, ti3, ti9, ti4, ti35, ti22, ti23, ti24, ti26, ti32, ti34, ti45, ti48, ti53, ti55, ti57, ti64, ti83]) rfl (by omega) fun b' s3 hb' hnx' => ?_
              obtain ⟨c10', rfl⟩ := (hb'.own _ (List.mem_cons_self ..)).v
              simp only [go_sem, ti3, ti9, ti4, ti35, ti22, ti23, ti24, ti26, ti32, ti34, ti45, ti48, ti53, ti55, ti57, ti64, ti83, hF]; refine hK _ _ ?_; clear hK K
              rw [htk, if_pos ⟨h1, h2⟩, List.length_append, List.flatMap_append, List.flatMap_cons, List.flatMap_nil, List.append_nil]
              refine ⟨rfl, c10', rfl, by simp only [Fs, Int.natCast_zero, go_sem, ti3, ti9, ti4, ti35, ti22, ti23, ti24, ti26, ti32, ti34, ti45, ti48, ti53, ti55, ti57, ti64, ti83, hF], ?_⟩
              exact (hb'.mono (b' := s3.nx) (by simp only [St.nx_put, hnx', St.nx_adv]; omega)).sub (List.Sublist.refl _) (List.sublist_cons_self _ _)
            · refine Wc.reg fun K hK => ?_; simp only [go_sem, ti3, ti9, ti4, ti35, ti22, ti23, ti24, ti26, ti32, ti34, ti45, ti48, ti53, ti55, ti57, ti64, ti83, hF, g9, h1, h2]; refine hK _ _ ?_; clear hK K
              refine Wc.cond (t := false) (by simp only [go_sem, ti3, ti9, ti4, ti35, ti22, ti23, ti24, ti26, ti32, ti34, ti45, ti48, ti53, ti55, ti57, ti64, ti83, hF]) (fun hc => by cases hc) (fun _ => Wc.skip ?_)
              rw [htk, if_neg (fun h => h2 h.2), List.append_nil]
              exact ⟨rfl, c10, rfl, by simp only [Fs, Int.natCast_zero, go_sem, ti3, ti9, ti4, ti35, ti22, ti23, ti24, ti26, ti32, ti34, ti45, ti48, ti53, ti55, ti57, ti64, ti83, hF], by simp only [St.nx_put, St.nx_adv]; repeat (first | exact OA.mono (ho.sub (List.Sublist.refl _) (List.sublist_cons_self _ _)) (by omega) | refine OA.newB ?_ (by omega) rfl | refine OA.advB ?_)⟩
          · refine Wc.reg fun K hK => ?_; simp only [go_sem, ti3, ti9, ti4, ti35, ti22, ti23, ti24, ti26, ti32, ti34, ti45, ti48, ti53, ti55, ti57, ti64, ti83, hF, g9, h1]; refine hK _ _ ?_; clear hK K
            refine Wc.cond (t := false) (by simp only [go_sem, ti3, ti9, ti4, ti35, ti22, ti23, ti24, ti26, ti32, ti34, ti45, ti48, ti53, ti55, ti57, ti64, ti83, hF]) (fun hc => by cases hc) (fun _ => Wc.skip ?_)
            rw [htk, if_neg (fun h => h1 h.1), List.append_nil]
            exact ⟨rfl, c10, rfl, by simp only [Fs, Int.natCast_zero, go_sem, ti3, ti9, ti4, ti35, ti22, ti23, ti24, ti26, ti32, ti34, ti45, ti48, ti53, ti55, ti57, ti64, ti83, hF], by simp only [St.nx_put, St.nx_adv]; repeat (first | exact OA.mono (ho.sub (List.Sublist.refl _) (List.sublist_cons_self _ _)) (by omega) | refine OA.newB ?_ (by omega) rfl | refine OA.advB ?_)⟩
        clear hF ho g9 e s1
        rintro ⟨e, ds, s1⟩ ⟨c10, rfl, hF, ho⟩
        simp only [Fs] at hF ho
        refine Wc.reg fun K hK => ?_; simp only [go_sem, ti3, ti9, ti4, ti35, ti22, ti23, ti24, ti26, ti32, ti34, ti45, ti48, ti53, ti55, ti57, ti64, ti83, hF, i64n i (by omega)]; refine hK _ _ ?_; clear hK K
        exact ⟨x.hs.length - (i + 1), by omega, i + 1, c10, rfl, by omega, rfl, by simp only [Fs, Int.natCast_zero, go_sem, ti3, ti9, ti4, ti35, ti22, ti23, ti24, ti26, ti32, ti34, ti45, ti48, ti53, ti55, ti57, ti64, ti83, hF], by simp only [St.nx_put, St.nx_adv]; repeat (first | exact OA.mono ho (by omega) | refine OA.newB ?_ (by omega) rfl | refine OA.advB ?_)⟩
      · have hil : i = x.hs.length := by have : ¬ (i : Int) < x.hs.length := by simpa using hc
                                         omega
        subst hil
        rw [List.take_length] at ho
        exact Wc.exit ⟨c10, rfl, by simp only [Fs, Int.natCast_zero, go_sem, ti3, ti9, ti4, ti35, ti22, ti23, ti24, ti26, ti32, ti34, ti45, ti48, ti53, ti55, ti57, ti64, ti83, hF], by simp only [St.nx_put, St.nx_adv]; repeat (first | exact OA.mono ho (by omega) | refine OA.newB ?_ (by omega) rfl | refine OA.advB ?_)⟩
    · exact ⟨0, .nils, rfl, by omega, rfl, by simp only [Fs, Int.natCast_zero, go_sem, ti3, ti9, ti4, ti35, ti22, ti23, ti24, ti26, ti32, ti34, ti45, ti48, ti53, ti55, ti57, ti64, ti83, hF], OA.nil (by simp only [St.nx_put, St.nx_adv]; repeat (first | exact OA.mono ho (by omega) | refine OA.newB ?_ (by omega) rfl | refine OA.advB ?_))⟩
  clear hF ho e s1
  rintro ⟨e, ds, s1⟩ ⟨c10, rfl, hF, ho⟩
  simp only [Fs] at hF ho
  have g8 := ho.at_ (k8, .cells [.p (.lst x.lb.length (x.lb.flatMap lbP)), .p (pI x.k), .p (.lst (slc (·.1) f u x.sm).length ((slc (·.1) f u x.sm).flatMap p2)), .p (.lst x.hs.length (x.hs.flatMap HSm.pd))] false) (by simp)
  have g1 := ho.at_ (1, .cells [.nils, .p (pI 0), .nils, .nils] false) (by simp)
  have n81 : (k8 = 1) = False := by
    have := ho.dism
    simp only [List.pairwise_cons, List.mem_cons] at this
    have := this.1 (1, .cells [.nils, .p (pI 0), .nils, .nils] false) (.inl rfl)
    simpa using this
  have hpu := (ho.own _ (List.mem_cons_self ..)).purS
  simp only at g1 g8
  refine Wc.seq ?_
  refine Wc.reg fun K hK => ?_; simp only [go_sem, ti3, ti9, ti4, ti35, ti22, ti23, ti24, ti26, ti32, ti34, ti45, ti48, ti53, ti55, ti57, ti64, ti83, hF, g8]; refine hK _ _ ?_; clear hK K
  refine Wc.seq ?_
  refine Wc.reg fun K hK => ?_; simp only [go_sem, ti3, ti9, ti4, ti35, ti22, ti23, ti24, ti26, ti32, ti34, ti45, ti48, ti53, ti55, ti57, ti64, ti83, hF, g8, g1, n81]; refine hK _ _ ?_; clear hK K
  exact Wc.ret (Pf.ret [.cell 6 26, .tmp 7] [.agg [.p (.lst x.lb.length (x.lb.flatMap lbP)), .p (pI x.k), .p (.lst (slc (·.1) f u x.sm).length ((slc (·.1) f u x.sm).flatMap p2)), c10], .c (.p (pI 0))] rfl rfl (by simp only [resultsD, go_sem, ti3, ti9, ti4, ti35, ti22, ti23, ti24, ti26, ti32, ti34, ti45, ti48, ti53, ti55, ti57, ti64, ti83, hF, n81]) (by simp only [packD, purD, purVs, purV, purCs, purC_S hpu, purC_p]; rfl))
end Go.Proofs.YtafaoldmemcigaaGreat.Ab
namespace Go.Proofs.YtafaoldmemcigaaGreat.Ab
set_option maxRecDepth 100000
/-- What the closed check comes to. -/
noncomputable def aw : Option Bool := match bodyD E0 (runF E0 100) 100 8 [] { ob := [], nx := 0 } with
  | some (.v (.c (.p (.bool b))), _) => some b
  | _ => none
theorem aw_true : aw = some true := by kernel_rfl
/-- 8: the example of the chapter -/
theorem pf8 : Pf E0 8 [] (P' (.bool true)) := by
  have h := aw_true
  unfold aw at h
  split at h
  · rename_i b s hb
    cases h
    exact ⟨100, _, _, _, hb, rfl⟩
  · cases h
end Go.Proofs.YtafaoldmemcigaaGreat.Ab
