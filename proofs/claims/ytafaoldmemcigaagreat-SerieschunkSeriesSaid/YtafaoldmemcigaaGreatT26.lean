/- A part of the proof: an evaluator of the code, its contracts, the law. No condition. -/
import Derived.Test.YtafaoldmemcigaaGreatT25
namespace Go.Proofs.YtafaoldmemcigaaGreat.Ab
set_option maxHeartbeats 8000000
set_option maxRecDepth 10000
set_option linter.unusedSimpArgs false
set_option linter.unusedVariables false
theorem o65 : E0.opn 65 = false := by kernel_rfl
theorem x65 : E0.xt 65 = none := by kernel_rfl
theorem prevH_pos {l : List HSm} : ∀ {i : Nat}, vh 0 (l.take i) = true → ∀ {j : Nat} {x : HSm}, j < i → l[j]? = some x → 1 ≤ x.t := by
  have gen : ∀ (l : List HSm) (p : Int), 0 ≤ p → vh p l = true → ∀ x ∈ l, 1 ≤ x.t := by
    intro l
    induction l with
    | nil => intro p _ _ x hx; cases hx
    | cons y r ih =>
      intro p hp h x hx
      simp only [vh] at h
      split at h
      · cases h
      · rename_i hn
        rcases List.mem_cons.1 hx with rfl | hx
        · omega
        · exact ih y.t (by omega) h x hx
  intro i h j x hj hx
  exact gen _ _ (Int.le_refl _) h x (List.mem_of_getElem? (i := j) (by rw [List.getElem?_take, if_pos hj]; exact hx))
theorem validH_bad {l : List HSm} (hn : ¬ (l.length ≠ 0 ∧ l.length ≤ 2000)) : validH l = false := by
  unfold validH
  by_cases h0 : l.length = 0
  · have b0 : (l.length == 0) = true := by simpa using h0
    rw [b0]; rfl
  · have n0 : ¬ l.length ≤ 2000 := by omega
    rw [decide_eq_false n0, Bool.and_false, Bool.false_and]
/-- 28: CheckSeries -/
theorem pf28 (x : Ser) (z : x.Sz) : Pf E0 28 [.agg (x.pd.map .p)] (P' (.bool (serOK x))) := by
  have hfl : (x.hs.flatMap HSm.pd).length = x.hs.length * 7 := flat_len (k := 7) (fun _ => rfl) x.hs
  refine Pf.body (fn := Tryz.f28) (by kernel_rfl) rfl ?_; simp only [List.map_cons, List.map_nil, List.cons_append, List.nil_append, List.length_cons, List.length_nil, Tryz.ntmps28, List.replicate, Nat.reduceSub, Nat.reduceAdd]
  refine Wc.seq ?_
  refine Wc.reg fun K hK => ?_; simp only [go_sem, ti3, ti9, ti5, ti4, ti35, ti24, ti57, ti55, ti26, ti22, ti23]; refine hK _ _ ?_; clear hK K
  refine Wc.seq (Wc.seq ?_)
  refine Wc.reg fun K hK => ?_; simp only [go_sem, ti3, ti9, ti5, ti4, ti35, ti24, ti57, ti55, ti26, ti22, ti23]
  refine wpCall.pf (pf63 x.lb z.lb z.ls) (by kernel_rfl) (by kernel_rfl) rfl rfl ?_
  simp only [go_sem, ti3, ti9, ti5, ti4, ti35, ti24, ti57, ti55, ti26, ti22, ti23]; refine hK _ _ ?_; clear hK K
  refine Wc.cond (t := (lckA x.lb != 0)) (by simp only [go_sem, ti3, ti9, ti5, ti4, ti35, ti24, ti57, ti55, ti26, ti22, ti23]) (fun hc => ?_) (fun hc => ?_)
  · have h0 : lckA x.lb ≠ 0 := by simpa using hc
    have e : serOK x = false := by unfold serOK; rw [if_pos h0]
    rw [e]
    refine Wc.seq ?_
    refine Wc.reg fun K hK => ?_; simp only [go_sem, ti3, ti9, ti5, ti4, ti35, ti24, ti57, ti55, ti26, ti22, ti23]; refine hK _ _ ?_; clear hK K
    exact Wc.ret (Pf.ret [.tmp 2] [.c (.p (.bool false))] rfl rfl (by simp only [resultsD, go_sem, ti3, ti9, ti5, ti4, ti35, ti24, ti57, ti55, ti26, ti22, ti23]) rfl)
  have h0 : ¬ lckA x.lb ≠ 0 := by simpa using hc
  have e0 : serOK x = if x.k = 3 then (x.sm.length == 0) && validH x.hs else (x.hs.length == 0) && (!(x.sm.length == 0) && (sckA x.k x.sm == 0)) := by unfold serOK; rw [if_neg h0]
  rw [e0]
  refine Wc.skip (Wc.seq (Wc.seq ?_))
  refine Wc.reg fun K hK => ?_; simp only [go_sem, ti3, ti9, ti5, ti4, ti35, ti24, ti57, ti55, ti26, ti22, ti23]; refine hK _ _ ?_; clear hK K
  refine Wc.cond (t := (x.k != 3)) (by simp only [go_sem, ti3, ti9, ti5, ti4, ti35, ti24, ti57, ti55, ti26, ti22, ti23]) (fun hc => ?_) (fun hc => ?_)
  · have h3 : ¬ x.k = 3 := by simpa using hc
    rw [if_neg h3]
    refine Wc.seq ?_
    cases hs : (x.hs.length == 0) with
    | false =>
      refine Wc.reg fun K hK => ?_; simp only [go_sem, ti3, ti9, ti5, ti4, ti35, ti24, ti57, ti55, ti26, ti22, ti23, len_beq, hs]; refine hK _ _ ?_; clear hK K
      exact Wc.ret (Pf.ret [.tmp 2] [.c (.p (.bool false))] rfl rfl (by simp only [resultsD, go_sem, ti3, ti9, ti5, ti4, ti35, ti24, ti57, ti55, ti26, ti22, ti23]) rfl)
    | true =>
      cases hm : (x.sm.length == 0) with
      | true =>
        refine Wc.reg fun K hK => ?_; simp only [go_sem, ti3, ti9, ti5, ti4, ti35, ti24, ti57, ti55, ti26, ti22, ti23, len_beq, len_pos, hs, hm]; refine hK _ _ ?_; clear hK K
        exact Wc.ret (Pf.ret [.tmp 2] [.c (.p (.bool false))] rfl rfl (by simp only [resultsD, go_sem, ti3, ti9, ti5, ti4, ti35, ti24, ti57, ti55, ti26, ti22, ti23]) rfl)
      | false =>
        refine Wc.reg fun K hK => ?_; simp only [go_sem, ti3, ti9, ti5, ti4, ti35, ti24, ti57, ti55, ti26, ti22, ti23, len_beq, len_pos, hs, hm]
        refine wpCall.pf (pf64 x.k x.sm z.sm) (by kernel_rfl) (by kernel_rfl) rfl rfl ?_
        simp only [go_sem, ti3, ti9, ti5, ti4, ti35, ti24, ti57, ti55, ti26, ti22, ti23, len_beq, len_pos, hs, hm]; refine hK _ _ ?_; clear hK K
        exact Wc.ret (Pf.ret [.tmp 2] [.c (.p (.bool (sckA x.k x.sm == 0)))] rfl rfl (by simp only [resultsD, go_sem, ti3, ti9, ti5, ti4, ti35, ti24, ti57, ti55, ti26, ti22, ti23]) rfl)
  have h3 : x.k = 3 := by simpa using hc
  rw [if_pos h3]
  refine Wc.skip (Wc.seqR (fun y => (x.sm.length = 0 ∧ x.hs.length ≠ 0 ∧ x.hs.length ≤ 2000) ∧ y.ds = [] ∧ y.e.length = 88 ∧ y.e.getD 1 .junk = .v (.c (.ref 0 0)) ∧ OA y.s.nx y.s [] [(0, .cells (x.pd.map .p) false)]) ?_ ?_)
  · refine Wc.seq ?_
    cases hm : (x.sm.length == 0) with
    | false =>
      rw [Bool.false_and]
      refine Wc.reg fun K hK => ?_; simp only [go_sem, ti3, ti9, ti5, ti4, ti35, ti24, ti57, ti55, ti26, ti22, ti23, len_beq, len_pos, hm]; refine hK _ _ ?_; clear hK K
      refine Wc.cond (t := true) (by simp only [go_sem, ti3, ti9, ti5, ti4, ti35, ti24, ti57, ti55, ti26, ti22, ti23]) (fun _ => ?_) (fun hc => by cases hc)
      refine Wc.seq ?_
      refine Wc.reg fun K hK => ?_; simp only [go_sem, ti3, ti9, ti5, ti4, ti35, ti24, ti57, ti55, ti26, ti22, ti23]; refine hK _ _ ?_; clear hK K
      exact Wc.ret (Pf.ret [.tmp 2] [.c (.p (.bool false))] rfl rfl (by simp only [resultsD, go_sem, ti3, ti9, ti5, ti4, ti35, ti24, ti57, ti55, ti26, ti22, ti23]) rfl)
    | true =>
      have y1 : x.sm.length = 0 := by simpa using hm
      cases hs : (x.hs.length == 0) with
      | true =>
        have y2 : x.hs.length = 0 := by simpa using hs
        rw [validH_bad (by omega), Bool.and_false]
        refine Wc.reg fun K hK => ?_; simp only [go_sem, ti3, ti9, ti5, ti4, ti35, ti24, ti57, ti55, ti26, ti22, ti23, len_beq, len_pos, hm, hs]; refine hK _ _ ?_; clear hK K
        refine Wc.cond (t := true) (by simp only [go_sem, ti3, ti9, ti5, ti4, ti35, ti24, ti57, ti55, ti26, ti22, ti23]) (fun _ => ?_) (fun hc => by cases hc)
        refine Wc.seq ?_
        refine Wc.reg fun K hK => ?_; simp only [go_sem, ti3, ti9, ti5, ti4, ti35, ti24, ti57, ti55, ti26, ti22, ti23]; refine hK _ _ ?_; clear hK K
        exact Wc.ret (Pf.ret [.tmp 2] [.c (.p (.bool false))] rfl rfl (by simp only [resultsD, go_sem, ti3, ti9, ti5, ti4, ti35, ti24, ti57, ti55, ti26, ti22, ti23]) rfl)
      | false =>
        have y2 : x.hs.length ≠ 0 := by rw [beq_eq_false_iff_ne] at hs; exact hs
        refine Wc.reg fun K hK => ?_; simp only [go_sem, ti3, ti9, ti5, ti4, ti35, ti24, ti57, ti55, ti26, ti22, ti23, len_beq, len_pos, hm, hs]; refine hK _ _ ?_; clear hK K
        refine Wc.cond (t := decide ((2000 : Int) < x.hs.length)) (by simp only [go_sem, ti3, ti9, ti5, ti4, ti35, ti24, ti57, ti55, ti26, ti22, ti23]) (fun hc => ?_) (fun hc => ?_)
        · have y3 : (2000 : Int) < x.hs.length := of_decide_eq_true hc
          rw [validH_bad (by omega), Bool.and_false]
          refine Wc.seq ?_
          refine Wc.reg fun K hK => ?_; simp only [go_sem, ti3, ti9, ti5, ti4, ti35, ti24, ti57, ti55, ti26, ti22, ti23]; refine hK _ _ ?_; clear hK K
          exact Wc.ret (Pf.ret [.tmp 2] [.c (.p (.bool false))] rfl rfl (by simp only [resultsD, go_sem, ti3, ti9, ti5, ti4, ti35, ti24, ti57, ti55, ti26, ti22, ti23]) rfl)
        · have y3 : ¬ (2000 : Int) < x.hs.length := of_decide_eq_false hc
          refine Wc.skip ⟨by omega, rfl, rfl, rfl, ?_⟩
          have o0 := (s00_oa.adv (n := 2)).new (k := 0) (o := .cells (x.pd.map .p) false) (Nat.le_refl _) rfl
          refine OA.mono (b := 0 + 1) ?_ (by simp only [St.nx_adv, St.nx_put]; omega)
          repeat refine OA.adv ?_
          exact o0
  rintro ⟨e, ds, s1⟩ ⟨⟨z1, z2, z3⟩, rfl, hlen, h1, ho⟩
  simp only at hlen h1 ho
  have e1 : ((x.sm.length == 0) && validH x.hs) = vh (prevH x.hs 0) (x.hs.drop 0) := by
    unfold validH
    have b1 : (x.hs.length == 0) = false := by rw [beq_eq_false_iff_ne]; exact z2
    have b2 : (x.sm.length == 0) = true := by simpa using z1
    rw [b1, b2, decide_eq_true z3]; rfl
  rw [e1]
  have eP : vh (prevH x.hs 0) (x.hs.drop 0) = vh (prevH x.hs 0) (x.hs.drop 0) := rfl
  generalize hV : vh (prevH x.hs 0) (x.hs.drop 0) = VV at eP ⊢
  refine Wc.seqR (fun y => VV = true ∧ y.ds = [] ∧ y.e.length = 88) ?_ ?_
  · refine Wc.seq ?_
    refine Wc.reg fun K hK => ?_; simp only [go_sem, ti3, ti9, ti5, ti4, ti35, ti24, ti57, ti55, ti26, ti22, ti23, hlen, h1, Int.natCast_zero]; refine hK _ _ ?_; clear hK K
    refine Wc.block (Wc.loop (fun k y => ∃ i : Nat, k = x.hs.length - i ∧ i ≤ x.hs.length ∧ y.ds = [] ∧ y.e.length = 88 ∧ y.e.getD 1 .junk = .v (.c (.ref 0 0)) ∧ y.e.getD 3 .junk = P' (pI i) ∧ OA y.s.nx y.s [] [(0, .cells (x.pd.map .p) false)] ∧ VV = vh (prevH x.hs i) (x.hs.drop i) ∧ (0 < i → 1 ≤ prevH x.hs i)) ?_ (k := x.hs.length) ?_)
    · clear hlen h1 ho e s1
      rintro k ⟨e, ds, s1⟩ ⟨i, rfl, hi, rfl, hlen, h1, h3, ho, hch, hpos⟩
      simp only at hlen h1 h3 ho
      have g0 := ho.at_ (0, .cells (x.pd.map .p) false) (by simp)
      simp only [List.map_cons, List.map_nil] at g0
      refine Wc.seq (Wc.seq ?_)
      refine Wc.reg fun K hK => ?_; simp only [go_sem, ti3, ti9, ti5, ti4, ti35, ti24, ti57, ti55, ti26, ti22, ti23, hlen, h1, h3, g0]; refine hK _ _ ?_; clear hK K
      refine Wc.cond (t := decide ((i : Int) < x.hs.length)) (by simp only [go_sem, ti3, ti9, ti5, ti4, ti35, ti24, ti57, ti55, ti26, ti22, ti23, hlen]) (fun hc => ?_) (fun hc => ?_)
      · have hil : i < x.hs.length := by have : (i : Int) < x.hs.length := by simpa using hc
                                         omega
        obtain ⟨u, hu⟩ : ∃ u, x.hs[i]? = some u := ⟨x.hs[i], List.getElem?_eq_getElem hil⟩
        have hix := ixA ti24 rfl ti57 (j := i) (m := x.hs.length) (cs := x.hs.flatMap HSm.pd) hil hfl (by decide)
        have hca := rpA (off := i * 7) (drop_flat (f := HSm.pd) (k := 7) (fun _ => rfl) hu) (by rw [hfl]; omega)
        rw [vh_step hu] at hch
        have bad : (u.t ≤ prevH x.hs i ∨ 1099511627776 < u.t ∨ hck u.h ≠ 0) → VV = false := fun h => by rw [hch, if_pos h]
        refine Wc.skip (Wc.seq (Wc.block (Wc.seqA (fun y => ∃ k4, y.ds = [] ∧ y.e.length = 88 ∧ y.e.getD 1 .junk = .v (.c (.ref 0 0)) ∧ y.e.getD 3 .junk = P' (pI i) ∧ y.e.getD 4 .junk = .v (.c (.ref k4 0)) ∧ OA y.s.nx y.s [] [(k4, .cells (u.pd.map .p) false), (0, .cells (x.pd.map .p) false)]) ?_ ?_)))
        · refine Wc.reg fun K hK => ?_; simp only [go_sem, ti3, ti9, ti5, ti4, ti35, ti24, ti57, ti55, ti26, ti22, ti23, hlen, h1, h3, g0, hix, hca]; refine hK _ _ ?_; clear hK K
          refine ⟨rfl, s1.nx + 10, rfl, by simp only [go_sem, ti3, ti9, ti5, ti4, ti35, ti24, ti57, ti55, ti26, ti22, ti23, hlen], by simp only [go_sem, ti3, ti9, ti5, ti4, ti35, ti24, ti57, ti55, ti26, ti22, ti23, hlen, h1], by simp only [go_sem, ti3, ti9, ti5, ti4, ti35, ti24, ti57, ti55, ti26, ti22, ti23, hlen, h3], by simp only [go_sem, ti3, ti9, ti5, ti4, ti35, ti24, ti57, ti55, ti26, ti22, ti23, hlen], ?_⟩
          have q1 := OA.set (M1 := []) (o' := .cells (u.pd.map .p) false) (((ho.adv (n := 5)).adv (n := 7)).new (k := s1.nx + 10) (o := .cells [.p (.int .i64 0), .p (.int .i64 0), .p (.int .i64 0), .p (.int .i64 0), .p (.int .i64 0), .p (.int .i64 0), .nils] false) (by omega) rfl) rfl
          exact q1.mono (by simp only [St.nx_put, St.nx_adv]; omega)
        clear hlen h1 h3 ho e s1 hc g0
        rintro ⟨e, ds, s1⟩ ⟨k4, rfl, hlen, h1, h3, h4, ho⟩
        simp only at hlen h1 h3 h4 ho
        have g4 := ho.at_ (k4, .cells (u.pd.map .p) false) (by simp)
        have g0 := ho.at_ (0, .cells (x.pd.map .p) false) (by simp)
        simp only [List.map_cons, List.map_nil] at g4 g0
        refine Wc.mono (Q := fun ex y => (ex = .ret ∧ VV = false ∧ y.ds = [] ∧ y.e.length = 88 ∧ y.e.getD 2 .junk = P' (.bool false)) ∨ (ex = .normal ∧ ¬ (u.t ≤ prevH x.hs i ∨ 1099511627776 < u.t ∨ hck u.h ≠ 0) ∧ y.ds = [] ∧ y.e.length = 88 ∧ y.e.getD 1 .junk = .v (.c (.ref 0 0)) ∧ y.e.getD 3 .junk = P' (pI i) ∧ ∃ n, y.s = s1.adv n)) ?_ ?_
        · refine Wc.seq ?_
          have out : ∀ {P : Prop}, P → P := id
          by_cases y1 : u.t < 1
          · refine Wc.regD fun K hK => ?_; simp only [go_sem, ti3, ti9, ti5, ti4, ti35, ti24, ti57, ti55, ti26, ti22, ti23, hlen, h1, h3, h4, g4, g0, y1]; refine hK _ _ ?_; clear hK K
            refine Wc.cond (t := true) (by simp only [go_sem, ti3, ti9, ti5, ti4, ti35, ti24, ti57, ti55, ti26, ti22, ti23, hlen]) (fun _ => ?_) (fun hc => by cases hc)
            refine Wc.seq ?_
            refine Wc.reg fun K hK => ?_; simp only [go_sem, ti3, ti9, ti5, ti4, ti35, ti24, ti57, ti55, ti26, ti22, ti23, hlen]; refine hK _ _ ?_; clear hK K
            refine Wc.ret (.inl ⟨rfl, bad (.inl ?_), rfl, by simp only [go_sem, ti3, ti9, ti5, ti4, ti35, ti24, ti57, ti55, ti26, ti22, ti23, hlen], by simp only [go_sem, ti3, ti9, ti5, ti4, ti35, ti24, ti57, ti55, ti26, ti22, ti23, hlen]⟩)
            by_cases hi0 : 0 < i
            · have := hpos hi0; omega
            · have hpr : prevH x.hs i = 0 := by unfold prevH; rw [if_pos (by omega)]
              omega
          by_cases y2 : 1099511627776 < u.t
          · refine Wc.regD fun K hK => ?_; simp only [go_sem, ti3, ti9, ti5, ti4, ti35, ti24, ti57, ti55, ti26, ti22, ti23, hlen, h1, h3, h4, g4, g0, y1, y2]; refine hK _ _ ?_; clear hK K
            refine Wc.cond (t := true) (by simp only [go_sem, ti3, ti9, ti5, ti4, ti35, ti24, ti57, ti55, ti26, ti22, ti23, hlen]) (fun _ => ?_) (fun hc => by cases hc)
            refine Wc.seq ?_
            refine Wc.reg fun K hK => ?_; simp only [go_sem, ti3, ti9, ti5, ti4, ti35, ti24, ti57, ti55, ti26, ti22, ti23, hlen]; refine hK _ _ ?_; clear hK K
            exact Wc.ret (.inl ⟨rfl, bad (.inr (.inl y2)), rfl, by simp only [go_sem, ti3, ti9, ti5, ti4, ti35, ti24, ti57, ti55, ti26, ti22, ti23, hlen], by simp only [go_sem, ti3, ti9, ti5, ti4, ti35, ti24, ti57, ti55, ti26, ti22, ti23, hlen]⟩)
          by_cases hi0 : 0 < i
          · obtain ⟨w, hw⟩ : ∃ w, x.hs[i - 1]? = some w := ⟨x.hs[i - 1], List.getElem?_eq_getElem (by omega)⟩
            have hiy := ixA ti24 rfl ti57 (j := i - 1) (m := x.hs.length) (cs := x.hs.flatMap HSm.pd) (by omega) hfl (by decide)
            have hcb := rpA (off := (i - 1) * 7) (drop_flat (f := HSm.pd) (k := 7) (fun _ => rfl) hw) (by rw [hfl]; omega)
            have e3 : IntKind.i64.wrap ((i : Int) - 1) = ((i - 1 : Nat) : Int) := by rw [wi64]; omega
            have hd : (0 < (i : Int)) = True := by simp; omega
            have hpr : prevH x.hs i = w.t := by unfold prevH; rw [if_neg (by omega), hw]; rfl
            by_cases y3 : u.t ≤ w.t
            · refine Wc.regD fun K hK => ?_; simp only [go_sem, ti3, ti9, ti5, ti4, ti35, ti24, ti57, ti55, ti26, ti22, ti23, hlen, h1, h3, h4, g4, g0, y1, y2, y3, hiy, hcb, e3, hd]; refine hK _ _ ?_; clear hK K
              refine Wc.cond (t := true) (by simp only [go_sem, ti3, ti9, ti5, ti4, ti35, ti24, ti57, ti55, ti26, ti22, ti23, hlen]) (fun _ => ?_) (fun hc => by cases hc)
              refine Wc.seq ?_
              refine Wc.reg fun K hK => ?_; simp only [go_sem, ti3, ti9, ti5, ti4, ti35, ti24, ti57, ti55, ti26, ti22, ti23, hlen]; refine hK _ _ ?_; clear hK K
              exact Wc.ret (.inl ⟨rfl, bad (.inl (by omega)), rfl, by simp only [go_sem, ti3, ti9, ti5, ti4, ti35, ti24, ti57, ti55, ti26, ti22, ti23, hlen], by simp only [go_sem, ti3, ti9, ti5, ti4, ti35, ti24, ti57, ti55, ti26, ti22, ti23, hlen]⟩)
            refine Wc.regD fun K hK => ?_; simp only [go_sem, ti3, ti9, ti5, ti4, ti35, ti24, ti57, ti55, ti26, ti22, ti23, hlen, h1, h3, h4, g4, g0, y1, y2, y3, hiy, hcb, e3, hd]
            refine ⟨by simp [o65, x65, plainD, plainV, plainC], ?_⟩
            refine wpCall.pf (pf65 u.h (z.hb u (List.mem_of_getElem? hu))) (by kernel_rfl) (by kernel_rfl) rfl rfl ?_
            simp only [go_sem, ti3, ti9, ti5, ti4, ti35, ti24, ti57, ti55, ti26, ti22, ti23, hlen, h1, h3, h4, g4, g0, y1, y2, y3, hiy, hcb, e3, hd]; refine hK _ _ ?_; clear hK K
            refine Wc.cond (t := (hck u.h != 0)) (by simp only [go_sem, ti3, ti9, ti5, ti4, ti35, ti24, ti57, ti55, ti26, ti22, ti23, hlen]) (fun hc => ?_) (fun hc => ?_)
            · refine Wc.seq ?_
              refine Wc.reg fun K hK => ?_; simp only [go_sem, ti3, ti9, ti5, ti4, ti35, ti24, ti57, ti55, ti26, ti22, ti23, hlen]; refine hK _ _ ?_; clear hK K
              exact Wc.ret (.inl ⟨rfl, bad (.inr (.inr (by simpa using hc))), rfl, by simp only [go_sem, ti3, ti9, ti5, ti4, ti35, ti24, ti57, ti55, ti26, ti22, ti23, hlen], by simp only [go_sem, ti3, ti9, ti5, ti4, ti35, ti24, ti57, ti55, ti26, ti22, ti23, hlen]⟩)
            · have y4 : hck u.h = 0 := by simpa using hc
              exact Wc.skip (.inr ⟨rfl, by omega, rfl, by simp only [go_sem, ti3, ti9, ti5, ti4, ti35, ti24, ti57, ti55, ti26, ti22, ti23, hlen], by simp only [go_sem, ti3, ti9, ti5, ti4, ti35, ti24, ti57, ti55, ti26, ti22, ti23, hlen, h1], by simp only [go_sem, ti3, ti9, ti5, ti4, ti35, ti24, ti57, ti55, ti26, ti22, ti23, hlen, h3], _, rfl⟩)
          · have hd : (0 < (i : Int)) = False := by simp; omega
            have hpr : prevH x.hs i = 0 := by unfold prevH; rw [if_pos (by omega)]
            refine Wc.regD fun K hK => ?_; simp only [go_sem, ti3, ti9, ti5, ti4, ti35, ti24, ti57, ti55, ti26, ti22, ti23, hlen, h1, h3, h4, g4, g0, y1, y2, hd]
            refine ⟨by simp [o65, x65, plainD, plainV, plainC], ?_⟩
            refine wpCall.pf (pf65 u.h (z.hb u (List.mem_of_getElem? hu))) (by kernel_rfl) (by kernel_rfl) rfl rfl ?_
            simp only [go_sem, ti3, ti9, ti5, ti4, ti35, ti24, ti57, ti55, ti26, ti22, ti23, hlen, h1, h3, h4, g4, g0, y1, y2, hd]; refine hK _ _ ?_; clear hK K
            refine Wc.cond (t := (hck u.h != 0)) (by simp only [go_sem, ti3, ti9, ti5, ti4, ti35, ti24, ti57, ti55, ti26, ti22, ti23, hlen]) (fun hc => ?_) (fun hc => ?_)
            · refine Wc.seq ?_
              refine Wc.reg fun K hK => ?_; simp only [go_sem, ti3, ti9, ti5, ti4, ti35, ti24, ti57, ti55, ti26, ti22, ti23, hlen]; refine hK _ _ ?_; clear hK K
              exact Wc.ret (.inl ⟨rfl, bad (.inr (.inr (by simpa using hc))), rfl, by simp only [go_sem, ti3, ti9, ti5, ti4, ti35, ti24, ti57, ti55, ti26, ti22, ti23, hlen], by simp only [go_sem, ti3, ti9, ti5, ti4, ti35, ti24, ti57, ti55, ti26, ti22, ti23, hlen]⟩)
            · have y4 : hck u.h = 0 := by simpa using hc
              exact Wc.skip (.inr ⟨rfl, by omega, rfl, by simp only [go_sem, ti3, ti9, ti5, ti4, ti35, ti24, ti57, ti55, ti26, ti22, ti23, hlen], by simp only [go_sem, ti3, ti9, ti5, ti4, ti35, ti24, ti57, ti55, ti26, ti22, ti23, hlen, h1], by simp only [go_sem, ti3, ti9, ti5, ti4, ti35, ti24, ti57, ti55, ti26, ti22, ti23, hlen, h3], _, rfl⟩)
        clear hlen h1 h3 h4 e
        rintro ex ⟨e, ds, s2⟩ h9
        rcases h9 with ⟨rfl, hvf, rfl, hlen, h2⟩ | ⟨rfl, hz, rfl, hlen, h1, h3, n1, rfl⟩
        · simp only at hlen h2
          rw [hvf]
          exact Pf.ret [.tmp 2] [.c (.p (.bool false))] rfl rfl (by simp only [resultsD, go_sem, ti3, ti9, ti5, ti4, ti35, ti24, ti57, ti55, ti26, ti22, ti23, hlen, h2]) rfl
        simp only at hlen h1 h3
        rw [if_neg hz] at hch
        have hpb : prevH x.hs (i + 1) = u.t := by simp [prevH, hu]
        have hpge : 0 ≤ prevH x.hs i := by
          by_cases hi0 : 0 < i
          · have := hpos hi0; omega
          · unfold prevH; rw [if_pos (by omega)]; omega
        refine Wc.reg fun K hK => ?_; simp only [go_sem, ti3, ti9, ti5, ti4, ti35, ti24, ti57, ti55, ti26, ti22, ti23, hlen, h1, h3, i64n i (by omega)]; refine hK _ _ ?_; clear hK K
        refine ⟨x.hs.length - (i + 1), by omega, i + 1, rfl, by omega, rfl, by simp only [go_sem, ti3, ti9, ti5, ti4, ti35, ti24, ti57, ti55, ti26, ti22, ti23, hlen], by simp only [go_sem, ti3, ti9, ti5, ti4, ti35, ti24, ti57, ti55, ti26, ti22, ti23, hlen, h1], by simp only [go_sem, ti3, ti9, ti5, ti4, ti35, ti24, ti57, ti55, ti26, ti22, ti23, hlen], ?_, hch, fun _ => by omega⟩
        have q1 := ho.sub (List.Sublist.refl _) (List.sublist_cons_self _ _)
        refine OA.mono (b := s1.nx) ?_ (by simp only [St.nx_adv]; omega)
        repeat refine OA.adv ?_
        exact q1
      · have hil : i = x.hs.length := by have : ¬ (i : Int) < x.hs.length := by simpa using hc
                                         omega
        rw [hil, List.drop_length] at hch
        exact Wc.exit ⟨hch, rfl, by simp only [go_sem, ti3, ti9, ti5, ti4, ti35, ti24, ti57, ti55, ti26, ti22, ti23, hlen]⟩
    · refine ⟨0, rfl, by omega, rfl, by simp only [go_sem, ti3, ti9, ti5, ti4, ti35, ti24, ti57, ti55, ti26, ti22, ti23, hlen], by simp only [go_sem, ti3, ti9, ti5, ti4, ti35, ti24, ti57, ti55, ti26, ti22, ti23, hlen, h1], by simp only [go_sem, ti3, ti9, ti5, ti4, ti35, ti24, ti57, ti55, ti26, ti22, ti23, hlen]; rfl, ?_, hV.symm, fun h => by omega⟩
      refine OA.mono (b := s1.nx) ?_ (by simp only [St.nx_adv]; omega)
      repeat refine OA.adv ?_
      exact ho
  · rintro ⟨e, ds, s1⟩ ⟨hch, rfl, hlen⟩
    simp only at hlen
    rw [hch]
    refine Wc.seq ?_
    refine Wc.reg fun K hK => ?_; simp only [go_sem, ti3, ti9, ti5, ti4, ti35, ti24, ti57, ti55, ti26, ti22, ti23, hlen]; refine hK _ _ ?_; clear hK K
    exact Wc.ret (Pf.ret [.tmp 2] [.c (.p (.bool true))] rfl rfl (by simp only [resultsD, go_sem, ti3, ti9, ti5, ti4, ti35, ti24, ti57, ti55, ti26, ti22, ti23, hlen]) rfl)
end Go.Proofs.YtafaoldmemcigaaGreat.Ab
namespace Go.Proofs.YtafaoldmemcigaaGreat.Ab
set_option maxHeartbeats 4000000
set_option linter.unusedSimpArgs false
set_option linter.unusedVariables false
theorem encT_len {l : List Int} (h : (encT l).2 = 0) : (encT l).1.length ≤ 40 + 20 * l.length := by
  unfold encT at *
  by_cases hc : chkT l = 0
  · rw [if_pos hc]
    obtain ⟨hl2, hV⟩ := chkT_ok hc
    have hR : ∀ x ∈ l, inR x = true := fun x hx => by have := hV x hx; simp [inR]; omega
    have hD := diffs_mem hV
    have hDR : ∀ x ∈ diffs l, inR x = true := fun x hx => by have := hD x hx; simp [inR]; omega
    have hDD := diffs_mem hD
    have hDDR : (diffs (diffs l)).all inR = true := List.all_eq_true.2 fun d hd => by have := hDD d hd; simp [inR]; omega
    have hdl := diffs_len l
    have hddl := diffs_len (diffs l)
    have hrl := runE_len _ (diffs (diffs l)) (Nat.le_refl _) hDDR (by omega)
    have f1 := first1_len hR
    have f2 := first1_len hDR
    have hvl := vb_len10 (n := l.length) (by omega)
    simp only [List.length_append]
    omega
  · rw [if_neg hc] at h
    exact absurd h hc
theorem encV_len2 {l : List Int} (h : (encV l).2 = 0) : (encV l).1.length ≤ 40 + 20 * l.length := by
  unfold encV at *
  by_cases h1 : 20000 < l.length
  · rw [if_pos h1] at h; cases h
  rw [if_neg h1] at h ⊢
  by_cases h2 : l.all inV = true
  · rw [if_pos h2]
    have hV := inV_all h2
    have hR : ∀ x ∈ l, inR x = true := fun x hx => inV_R (List.all_eq_true.1 h2 x hx)
    have hdR : (diffs l).all inR = true := List.all_eq_true.2 fun d hd => by have := diffs_mem hV d hd; simp [inR]; omega
    have hdl := diffs_len l
    have hrl := runE_len _ (diffs l) (Nat.le_refl _) hdR (by omega)
    have f1 := first1_len hR
    have hvl := vb_len10 (n := l.length) (by omega)
    simp only [List.length_append]
    omega
  · rw [if_neg h2] at h; cases h
theorem encI_len2 {l : List Int} (h : (encI l).2 = 0) : (encI l).1.length ≤ 40 + 20 * l.length := by
  unfold encI at *
  by_cases h1 : 20000 < l.length
  · rw [if_pos h1] at h; cases h
  rw [if_neg h1] at h ⊢
  by_cases h2 : l.all inR = true
  · rw [if_pos h2]
    have hvl := vb_len10 (n := l.length) (by omega)
    have := encL_len l h2
    simp only [List.length_append]
    omega
  · rw [if_neg h2] at h; cases h
theorem encF_len {f : Int} {l : List Int} (h : (encF f l).2 = 0) : (encF f l).1.length ≤ 40 + 20 * l.length := by
  unfold encF at *
  split at h
  · rename_i h0; rw [if_pos h0]; exact encT_len h
  · split at h
    · rename_i h0 h1; rw [if_neg h0, if_pos h1]; exact encV_len2 h
    · rename_i h0 h1; rw [if_neg h0, if_neg h1]; exact encI_len2 h
/-- Encoded columns; none: one is too long. -/
def colsOK (cs : List (List UInt8 × Int)) : Option (List (List UInt8)) := if cs.all (fun c => c.2 == 0) then some (cs.map (·.1)) else none
theorem colsOK_cons (c : List UInt8 × Int) (r : List (List UInt8 × Int)) : colsOK (c :: r) = if c.2 = 0 then (match colsOK r with
    | some ss => some (c.1 :: ss)
    | none => none) else none := by
  unfold colsOK
  by_cases h : c.2 = 0
  · have hb : (c.2 == 0) = true := by simpa using h
    rw [if_pos h, List.all_cons, hb, Bool.true_and, List.map_cons]
    cases r.all (fun c => c.2 == 0) <;> rfl
  · have hb : (c.2 == 0) = false := by simpa using h
    rw [if_neg h, List.all_cons, hb, Bool.false_and]; rfl
theorem colsOK_app (a b : List (List UInt8 × Int)) : colsOK (a ++ b) = match colsOK a with
    | some ss => (match colsOK b with
      | some tt => some (ss ++ tt)
      | none => none)
    | none => none := by
  induction a with
  | nil => simp [colsOK]; split <;> simp_all
  | cons c r ih =>
    rw [List.cons_append, colsOK_cons, colsOK_cons, ih]
    split
    · cases colsOK r <;> simp only
      cases colsOK b <;> rfl
    · rfl
theorem packE_cols {A : Type} (l : List A) : ∀ cols : List (Col A), packE l cols = colsOK (cols.map fun c => encF c.f (l.map c.get))
  | [] => rfl
  | c :: r => by rw [List.map_cons, colsOK_cons, packE, packE_cols l r]; rfl
def smpCs (l : List I2) : List (List UInt8 × Int) := [encT (l.map (·.1)), encV (l.map (·.2))]
def hstCs (l : List HSm) : List (List UInt8 × Int) :=
  [encT (l.map (·.t)), encV (l.map (·.h.p)), encV (l.map (·.h.c)), encV (l.map (·.h.mn)), encV (l.map (·.h.mx)), encV (l.map fun x => (x.h.bs.length : Int)), encV ((l.flatMap (·.h.bs)).map (·.1)), encV ((l.flatMap (·.h.bs)).map (·.2)), encI (l.map (·.h.s))]
theorem packE_smp (l : List I2) : packE l smpCols = colsOK (smpCs l) := by rw [packE_cols]; rfl
theorem packH_cols (l : List HSm) : packH l = colsOK (hstCs l) := by
  have e : hstCs l = (hstCols.map fun c => encF c.f (l.map c.get)) ++ ([encV (l.map fun x => (x.h.bs.length : Int))] ++ ((bckCols.map fun c => encF c.f ((l.flatMap (·.h.bs)).map c.get)) ++ [encI (l.map (·.h.s))])) := rfl
  rw [e, colsOK_app, ← packE_cols, colsOK_app, colsOK_app, ← packE_cols]
  unfold packH
  have one : ∀ c : List UInt8 × Int, colsOK [c] = if c.2 = 0 then some [c.1] else none := fun c => by rw [colsOK_cons]; rfl
  rw [one, one]
  cases packE l hstCols with
  | none => rfl
  | some out =>
    simp only
    by_cases h1 : (encV (l.map fun x => (x.h.bs.length : Int))).2 = 0
    · rw [if_pos h1, if_pos h1]
      cases packE (l.flatMap (·.h.bs)) bckCols with
      | none => rfl
      | some more =>
        simp only
        by_cases h2 : (encI (l.map (·.h.s))).2 = 0
        · rw [if_pos h2, if_pos h2]
          simp only [List.append_assoc]
        · rw [if_neg h2, if_neg h2]
    · rw [if_neg h1, if_neg h1]
/-! ### the parts, one behind the other -/
def flatP (ss : List (List UInt8)) : List UInt8 := ss.flatMap fun s => vb s.length ++ s
theorem jn_eq : ∀ (ss : List (List UInt8)) (t : List UInt8), t.length ≤ 262144 → jn t ss = if 262144 < (t ++ flatP ss).length then none else some (t ++ flatP ss)
  | [], t, h => by
    have e : t ++ flatP [] = t := by simp [flatP]
    rw [e, if_neg (by omega)]; rfl
  | s :: r, t, h => by
    have e : t ++ flatP (s :: r) = (t ++ vb s.length ++ s) ++ flatP r := by simp [flatP]
    rw [e]
    simp only [jn]
    by_cases h1 : 262144 < (t ++ vb s.length ++ s).length
    · rw [if_pos h1, if_pos (by rw [List.length_append]; omega)]
    · rw [if_neg h1, jn_eq r _ (by omega)]
theorem partW_bad (cs : List (List UInt8 × Int)) : cs.foldl (fun w c => partW w c.1 c.2) (([] : List UInt8), (4 : Int)) = ([], 4) := by
  induction cs with
  | nil => rfl
  | cons c r ih => rw [List.foldl_cons]; exact ih
theorem partW_cols : ∀ (cs : List (List UInt8 × Int)) (t : List UInt8), (∀ c ∈ cs, c.1.length < 2^40) → cs.foldl (fun w c => partW w c.1 c.2) (t, (0 : Int)) = match colsOK cs with
    | some ss => (t ++ flatP ss, 0)
    | none => ([], 4)
  | [], t, _ => by simp [colsOK, flatP]
  | c :: r, t, h => by
    rw [List.foldl_cons, colsOK_cons]
    have hc := h c (by simp)
    by_cases h1 : c.2 = 0
    · have e : partW (t, 0) c.1 c.2 = (t ++ vb c.1.length ++ c.1, 0) := by
        unfold partW
        rw [if_neg (by simp), if_neg (by simpa using h1)]
        have : appV t (c.1.length : Int) = (t ++ vb c.1.length, 0) := by unfold appV; rw [if_neg (by omega), Int.toNat_natCast]
        rw [this]
      rw [e, partW_cols r _ fun d hd => h d (by simp [hd]), if_pos h1]
      cases colsOK r with
      | none => rfl
      | some ss => simp [flatP]
    · have e : partW (t, 0) c.1 c.2 = ([], 4) := by
        unfold partW
        rw [if_neg (by simp), if_pos h1]
      rw [e, partW_bad, if_neg h1]
/-- What both encoders come to, out of the columns. -/
def encC (sig : Int) (lab : Pd) (z : List Pd) (t : List UInt8) (cs : List (List UInt8 × Int)) : D := match colsOK cs with
  | none => .tup [noCh, .c (.p (pI 4))]
  | some ss => finE sig lab z (jn t ss)
theorem encC_w {sig : Int} {lab : Pd} {z : List Pd} {t : List UInt8} {cs : List (List UInt8 × Int)} (ht : t.length ≤ 262144) (h : ∀ c ∈ cs, c.1.length < 2^40) {w : List UInt8 × Int} (hw : w = cs.foldl (fun w c => partW w c.1 c.2) (t, (0 : Int))) :
    (if w.2 ≠ 0 ∨ 262144 < w.1.length then D.tup [noCh, .c (.p (pI 4))] else .tup [chV sig lab z w.1, .c (.p (pI 0))]) = encC sig lab z t cs := by
  rw [hw, partW_cols cs t h]
  unfold encC
  cases colsOK cs with
  | none => rfl
  | some ss =>
    simp only
    rw [jn_eq ss t ht]
    by_cases h1 : 262144 < (t ++ flatP ss).length
    · rw [if_pos (.inr h1), if_pos h1]; rfl
    · have h2 : ¬ ((0 : Int) ≠ 0 ∨ 262144 < (t ++ flatP ss).length) := by simp at h1 ⊢; omega
      rw [if_neg h2, if_neg h1]; rfl
/-! ### zones -/
def zfold (l : List I2) : Zo := l.foldl (fun z p => z.add p.1 p.2) Zo.none
theorem zfold_snoc (l : List I2) (p : I2) : zfold (l ++ [p]) = (zfold l).add p.1 p.2 := by simp [zfold, List.foldl_append]
theorem zfold_ok : ∀ (n : Nat) (l : List I2), l.length = n → n < 2^40 → (∀ p ∈ l, isT p.1 = true ∧ isVl p.2 = true) → (zfold l).ok ∧ (zfold l).c = n
  | 0, l, h, _, _ => by
    have : l = [] := List.length_eq_zero_iff.1 h
    subst this
    exact ⟨.inl rfl, rfl⟩
  | n + 1, l, h, hn, hv => by
    have hne : l ≠ [] := fun e => by rw [e] at h; simp at h
    have e := List.dropLast_concat_getLast hne
    rw [← e, zfold_snoc]
    obtain ⟨h1, h2⟩ := zfold_ok n l.dropLast (by simp [h]) (by omega) fun p hp => hv p ((List.dropLast_sublist l).subset hp)
    obtain ⟨h3, h4⟩ := hv (l.getLast hne) (List.getLast_mem hne)
    obtain ⟨h5, h6⟩ := Zo.add_ok h1 (by rw [h2]; omega) h3 h4
    exact ⟨h5, by rw [h6, h2]; omega⟩
/-! ### what a valid series is -/
theorem sck_ok {k : Int} : ∀ {l : List I2} {p : Option Int}, sck k p l = 0 → ∀ x ∈ l, smpOK x = true
  | [], p, h, x, hx => by cases hx
  | y :: r, p, h, x, hx => by
    have h1 : ¬ (smpOK y = false ∨ (k = 2 ∧ y.2 < 0)) := fun hb => by
      cases p <;> simp only [sck] at h <;> rw [if_pos hb] at h <;> cases h
    have h2 : sck k (some y.1) r = 0 := by
      cases p with
      | none => simp only [sck] at h; rw [if_neg h1] at h; exact h
      | some z =>
        simp only [sck] at h
        rw [if_neg h1] at h
        split at h
        · cases h
        · exact h
    rcases List.mem_cons.1 hx with rfl | hx
    · cases hs : smpOK x with
      | true => rfl
      | false => exact absurd (.inl hs) h1
    · exact sck_ok h2 x hx
theorem sckA_ok {k : Int} {l : List I2} (h : sckA k l = 0) : (k = 1 ∨ k = 2) ∧ l.length ≤ 2000 ∧ ∀ x ∈ l, isT x.1 = true ∧ isVl x.2 = true := by
  unfold sckA at h
  split at h
  · cases h
  · split at h
    · cases h
    · refine ⟨by omega, by omega, fun x hx => ?_⟩
      have := sck_ok h x hx
      simpa [smpOK] using this
theorem hck_ok {h : Hst} (hh : hck h = 0) : h.bs.length ≤ 500 ∧ 0 ≤ h.c ∧ h.c ≤ 1048576 := by
  unfold hck at hh
  split at hh
  · cases hh
  rename_i hp
  split at hh
  · cases hh
  rename_i hl
  split at hh
  · rename_i hb; exact absurd hh hb
  rename_i hb
  split at hh
  · cases hh
  rename_i hc
  split at hh
  · cases hh
  rename_i ha
  have hz : bck (ix h.p.toNat 1099511627776) (-1) h.bs = 0 := by
    by_cases h1 : bck (ix h.p.toNat 1099511627776) (-1) h.bs = 0
    · exact h1
    · exact absurd h1 hb
  have hbs := bck_bs (q := h.p.toNat) (by omega) hz
  have h0 := (cnt_le hbs.cn h.bs.length).1
  rw [List.take_length] at h0
  have hcc : h.c = cnt h.bs := by
    by_cases h1 : h.c = cnt h.bs
    · exact h1
    · exfalso; apply ha; unfold agrB; rw [if_pos h1]
  omega
theorem vh_ok : ∀ {l : List HSm} {p : Int}, 0 ≤ p → vh p l = true → ∀ x ∈ l, 1 ≤ x.t ∧ x.t ≤ 1099511627776 ∧ hck x.h = 0
  | [], p, _, _, x, hx => by cases hx
  | y :: r, p, hp, h, x, hx => by
    simp only [vh] at h
    split at h
    · cases h
    rename_i hn
    rcases List.mem_cons.1 hx with rfl | hx
    · omega
    · exact vh_ok (p := y.t) (by omega) h x hx
theorem validH_ok {l : List HSm} (h : validH l = true) : l.length ≤ 2000 ∧ ∀ x ∈ l, isT x.t = true ∧ isVl x.h.c = true ∧ x.h.bs.length ≤ 500 := by
  simp only [validH, Bool.and_eq_true, decide_eq_true_eq] at h
  refine ⟨h.1.2, fun x hx => ?_⟩
  obtain ⟨h1, h2, h3⟩ := vh_ok (Int.le_refl _) h.2 x hx
  obtain ⟨h4, h5, h6⟩ := hck_ok h3
  refine ⟨by simp [isT]; omega, by simp [isVl]; omega, h4⟩
theorem serOK_s {x : Ser} (h : serOK x = true) (hk : ¬ x.k = 3) : (x.k = 1 ∨ x.k = 2) ∧ x.sm.length ≤ 2000 ∧ ∀ y ∈ x.sm, isT y.1 = true ∧ isVl y.2 = true := by
  unfold serOK at h
  split at h
  · cases h
  · simp only [Bool.and_eq_true] at h
    exact sckA_ok (by simpa using h.2.2)
theorem serOK_h {x : Ser} (h : serOK x = true) (hk : x.k = 3) : x.hs.length ≤ 2000 ∧ ∀ y ∈ x.hs, isT y.t = true ∧ isVl y.h.c = true ∧ y.h.bs.length ≤ 500 := by
  unfold serOK at h
  split at h
  · cases h
  · simp only [Bool.and_eq_true] at h
    exact validH_ok h.2
def serCs (x : Ser) : List (List UInt8 × Int) := if x.k = 3 then hstCs x.hs else smpCs x.sm
def serZ (x : Ser) : Zo := if x.k = 3 then zfold (x.hs.map fun y => (y.t, y.h.c)) else zfold x.sm
/-- The cells of a zone whose bits are clear. -/
abbrev Zo.pd (z : Zo) : List Pd := [pI z.c, pI z.t1, pI z.t2, pI z.v1, pI z.v2, .int .u32 0, .int .u32 0, .int .u32 0, .int .u32 0, .int .u32 0, .int .u32 0, .int .u32 0, .int .u32 0]
/-- What Encode comes to. -/
def encS (x : Ser) : D := if serOK x = false then .tup [noCh, .c (.p (pI 1))] else encC 1 (.lst x.lb.length (x.lb.flatMap lbP)) (serZ x).pd (appV [] x.k).1 (serCs x)
end Go.Proofs.YtafaoldmemcigaaGreat.Ab
