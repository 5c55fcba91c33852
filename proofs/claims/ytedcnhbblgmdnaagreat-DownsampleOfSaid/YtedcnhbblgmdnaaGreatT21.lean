/- A part of the proof: an evaluator of the code, its contracts, the law. No condition. -/
import Derived.Test.YtedcnhbblgmdnaaGreatT20
namespace Go.Proofs.YtedcnhbblgmdnaaGreat.Ab
set_option maxHeartbeats 8000000
set_option maxRecDepth 10000
set_option linter.unusedSimpArgs false
set_option linter.unusedVariables false
theorem o151 : E0.opn 151 = false := by kernel_rfl
theorem x151 : E0.xt 151 = none := by kernel_rfl
theorem o222 : E0.opn 222 = false := by kernel_rfl
theorem x222 : E0.xt 222 = none := by kernel_rfl
theorem o223 : E0.opn 223 = false := by kernel_rfl
theorem x223 : E0.xt 223 = none := by kernel_rfl
/-- 113: fits -/
theorem pf152 (h : Hst) (t : Int) (q : Nat) (hq : q ≤ 8) (hp : h.p = q) (hb : BsOK q h.bs) (hn : h.bs.length ≤ 500) (ht : t = cnt h.bs) (ht2 : t ≤ 1048576) : Pf E0 152 [.agg (h.pd.map .p), .c (.p (pI t))] (P' (.bool (agrB h q t))) := by
  have hfl : (h.bs.flatMap p2).length = h.bs.length * 2 := flat_len (k := 2) (fun _ => rfl) _
  refine Pf.body (fn := Tryz.f152) (by kernel_rfl) rfl ?_; simp only [List.map_cons, List.map_nil, List.cons_append, List.nil_append, List.length_cons, List.length_nil, Tryz.ntmps152, List.replicate, Nat.reduceSub, Nat.reduceAdd]
  refine Wc.seq ?_
  refine Wc.reg fun K hK => ?_; simp only [go_sem, ti3, ti9, ti5, ti4, ti32, ti148, ti150, ti205, hp]; refine hK _ _ ?_; clear hK K
  refine Wc.seq (Wc.seq ?_)
  refine Wc.reg fun K hK => ?_; simp only [go_sem, ti3, ti9, ti5, ti4, ti32, ti148, ti150, ti205]; refine hK _ _ ?_; clear hK K
  refine Wc.cond (t := (t == 0)) (by simp only [go_sem, ti3, ti9, ti5, ti4, ti32, ti148, ti150, ti205]) (fun hc => ?_) (fun hc => ?_)
  · have ht0 : t = 0 := by simpa using hc
    have e : agrB h q t = (decide (h.c = 0) && (decide (h.s = 0) && (decide (h.mn = 0) && decide (h.mx = 0)))) := by
      unfold agrB
      by_cases h0 : h.c ≠ t
      · have n0 : ¬ h.c = 0 := by omega
        rw [if_pos h0, decide_eq_false n0, Bool.false_and]
      · have n0 : h.c = 0 := by omega
        rw [if_neg h0, if_pos ht0, decide_eq_true n0, Bool.true_and]
    rw [e]
    refine Wc.seq ?_
    by_cases h0 : h.c = 0
    · have b0 : (h.c == 0) = true := by simpa using h0
      by_cases h1 : h.s = 0
      · have b1 : (h.s == 0) = true := by simpa using h1
        by_cases h2 : h.mn = 0
        · have b2 : (h.mn == 0) = true := by simpa using h2
          refine Wc.reg fun K hK => ?_; simp only [go_sem, ti3, ti9, ti5, ti4, ti32, ti148, ti150, ti205, b0, b1, b2]; refine hK _ _ ?_; clear hK K
          rw [decide_eq_true h0, decide_eq_true h1, decide_eq_true h2, Bool.true_and, Bool.true_and, Bool.true_and]
          exact Wc.ret (Pf.ret [.tmp 4] [.c (.p (.bool (decide (h.mx = 0))))] rfl rfl (by simp only [resultsD, go_sem, ti3, ti9, ti5, ti4, ti32, ti148, ti150, ti205, b1, b2]; rfl) rfl)
        · have b2 : (h.mn == 0) = false := by simpa using h2
          refine Wc.reg fun K hK => ?_; simp only [go_sem, ti3, ti9, ti5, ti4, ti32, ti148, ti150, ti205, b0, b1, b2]; refine hK _ _ ?_; clear hK K
          rw [decide_eq_false h2, Bool.false_and, Bool.and_false, Bool.and_false]
          exact Wc.ret (Pf.ret [.tmp 4] [.c (.p (.bool false))] rfl rfl (by simp only [resultsD, go_sem, ti3, ti9, ti5, ti4, ti32, ti148, ti150, ti205, b1, b2]) rfl)
      · have b1 : (h.s == 0) = false := by simpa using h1
        refine Wc.reg fun K hK => ?_; simp only [go_sem, ti3, ti9, ti5, ti4, ti32, ti148, ti150, ti205, b0, b1]; refine hK _ _ ?_; clear hK K
        rw [decide_eq_false h1, Bool.false_and, Bool.and_false]
        exact Wc.ret (Pf.ret [.tmp 4] [.c (.p (.bool false))] rfl rfl (by simp only [resultsD, go_sem, ti3, ti9, ti5, ti4, ti32, ti148, ti150, ti205, b1]) rfl)
    · have b0 : (h.c == 0) = false := by simpa using h0
      refine Wc.reg fun K hK => ?_; simp only [go_sem, ti3, ti9, ti5, ti4, ti32, ti148, ti150, ti205, b0]; refine hK _ _ ?_; clear hK K
      rw [decide_eq_false h0, Bool.false_and]
      exact Wc.ret (Pf.ret [.tmp 4] [.c (.p (.bool false))] rfl rfl (by simp only [resultsD, go_sem, ti3, ti9, ti5, ti4, ti32, ti148, ti150, ti205, b0]) rfl)
  have ht0 : ¬ t = 0 := by simpa using hc
  have hne : h.bs ≠ [] := fun e => by rw [e] at ht; exact ht0 (by rw [ht]; rfl)
  have hl0 : 0 < h.bs.length := List.length_pos_iff.2 hne
  obtain ⟨f, hf⟩ : ∃ f, h.bs[0]? = some f := ⟨h.bs[0], List.getElem?_eq_getElem hl0⟩
  obtain ⟨l, hl⟩ : ∃ l, h.bs[h.bs.length - 1]? = some l := ⟨h.bs[h.bs.length - 1], List.getElem?_eq_getElem (by omega)⟩
  have bad : (h.mn < 0 ∨ mxv < h.mx ∨ h.mx < h.mn ∨ h.c ≠ t) → agrB h q t = false := fun hx => by
    unfold agrB
    by_cases h0 : h.c ≠ t
    · rw [if_pos h0]
    · rw [if_neg h0, if_neg ht0, hf, hl]
      have h9 : h.mn < 0 ∨ mxv < h.mn ∨ h.mx < 0 ∨ mxv < h.mx ∨ h.mx < h.mn := by omega
      simp only [agr1]
      rw [if_pos h9]
  have hM : mxv = 1099511627776 := rfl
  refine Wc.skip (Wc.seqR (fun y => (0 ≤ h.mn ∧ h.mx ≤ 1099511627776 ∧ h.mn ≤ h.mx ∧ h.c = t) ∧ y.ds = [] ∧ y.e.length = 100 ∧ y.e.getD 1 .junk = P' (pI t) ∧ y.e.getD 2 .junk = .v (.c (.ref 0 0)) ∧ y.s.get 0 = some (.cells [.p (pI q), .p (pI h.c), .p (pI h.s), .p (pI h.mn), .p (pI h.mx), .p (.lst h.bs.length (h.bs.flatMap p2))] false)) ?_ ?_)
  · refine Wc.seq ?_
    by_cases z1 : h.mn < 0
    · refine Wc.reg fun K hK => ?_; simp only [go_sem, ti3, ti9, ti5, ti4, ti32, ti148, ti150, ti205, z1]; refine hK _ _ ?_; clear hK K
      refine Wc.cond (t := true) (by simp only [go_sem, ti3, ti9, ti5, ti4, ti32, ti148, ti150, ti205]) (fun _ => ?_) (fun hc => by cases hc)
      refine Wc.seq ?_
      refine Wc.reg fun K hK => ?_; simp only [go_sem, ti3, ti9, ti5, ti4, ti32, ti148, ti150, ti205]; refine hK _ _ ?_; clear hK K
      rw [bad (.inl z1)]
      exact Wc.ret (Pf.ret [.tmp 4] [.c (.p (.bool false))] rfl rfl (by simp only [resultsD, go_sem, ti3, ti9, ti5, ti4, ti32, ti148, ti150, ti205]) rfl)
    by_cases z2 : 1099511627776 < h.mx
    · refine Wc.reg fun K hK => ?_; simp only [go_sem, ti3, ti9, ti5, ti4, ti32, ti148, ti150, ti205, z1, z2]; refine hK _ _ ?_; clear hK K
      refine Wc.cond (t := true) (by simp only [go_sem, ti3, ti9, ti5, ti4, ti32, ti148, ti150, ti205]) (fun _ => ?_) (fun hc => by cases hc)
      refine Wc.seq ?_
      refine Wc.reg fun K hK => ?_; simp only [go_sem, ti3, ti9, ti5, ti4, ti32, ti148, ti150, ti205]; refine hK _ _ ?_; clear hK K
      rw [bad (.inr (.inl z2))]
      exact Wc.ret (Pf.ret [.tmp 4] [.c (.p (.bool false))] rfl rfl (by simp only [resultsD, go_sem, ti3, ti9, ti5, ti4, ti32, ti148, ti150, ti205]) rfl)
    by_cases z3 : h.mx < h.mn
    · refine Wc.reg fun K hK => ?_; simp only [go_sem, ti3, ti9, ti5, ti4, ti32, ti148, ti150, ti205, z1, z2, z3]; refine hK _ _ ?_; clear hK K
      refine Wc.cond (t := true) (by simp only [go_sem, ti3, ti9, ti5, ti4, ti32, ti148, ti150, ti205]) (fun _ => ?_) (fun hc => by cases hc)
      refine Wc.seq ?_
      refine Wc.reg fun K hK => ?_; simp only [go_sem, ti3, ti9, ti5, ti4, ti32, ti148, ti150, ti205]; refine hK _ _ ?_; clear hK K
      rw [bad (.inr (.inr (.inl z3)))]
      exact Wc.ret (Pf.ret [.tmp 4] [.c (.p (.bool false))] rfl rfl (by simp only [resultsD, go_sem, ti3, ti9, ti5, ti4, ti32, ti148, ti150, ti205]) rfl)
    refine Wc.reg fun K hK => ?_; simp only [go_sem, ti3, ti9, ti5, ti4, ti32, ti148, ti150, ti205, z1, z2, z3]; refine hK _ _ ?_; clear hK K
    refine Wc.cond (t := (h.c != t)) (by simp only [go_sem, ti3, ti9, ti5, ti4, ti32, ti148, ti150, ti205]) (fun hc => ?_) (fun hc => ?_)
    · have z4 : h.c ≠ t := by simpa using hc
      refine Wc.seq ?_
      refine Wc.reg fun K hK => ?_; simp only [go_sem, ti3, ti9, ti5, ti4, ti32, ti148, ti150, ti205]; refine hK _ _ ?_; clear hK K
      rw [bad (.inr (.inr (.inr z4)))]
      exact Wc.ret (Pf.ret [.tmp 4] [.c (.p (.bool false))] rfl rfl (by simp only [resultsD, go_sem, ti3, ti9, ti5, ti4, ti32, ti148, ti150, ti205]) rfl)
    · have z4 : h.c = t := by simpa using hc
      exact Wc.skip ⟨by omega, rfl, rfl, rfl, rfl, by simp only [go_sem, ti3, ti9, ti5, ti4, ti32, ti148, ti150, ti205]⟩
  rintro ⟨e, ds, s1⟩ ⟨⟨m0, m1, m2, m3⟩, rfl, hlen, h1, h2, g0⟩
  simp only at hlen h1 h2 g0
  obtain ⟨a, ea⟩ : ∃ a : Nat, h.mn = (a : Int) := ⟨h.mn.toNat, by omega⟩
  obtain ⟨b, eb⟩ : ∃ b : Nat, h.mx = (b : Int) := ⟨h.mx.toNat, by omega⟩
  have ta : h.mn.toNat = a := by omega
  have tb : h.mx.toNat = b := by omega
  have eA : agrB h q t = if (ix q a : Int) ≠ f.1 ∨ (ix q b : Int) ≠ l.1 then false else if t = 1 then decide (h.mn = h.mx) && decide (h.s = h.mn) else decide (leastR q h.mn h.mx h.bs ≤ h.s) && decide (h.s ≤ mostR q h.mn h.mx h.bs) := by
    have e1 : agrB h q t = agr1 q h.s h.mn h.mx h.bs f l t := by unfold agrB; rw [if_neg (by omega), if_neg ht0, hf, hl]
    rw [e1, ← fit_agr hb hf hl ht]
    unfold fit1; rw [if_neg (by omega), ta, tb]
  rw [eA]
  have hif := ixA ti148 rfl ti205 (j := 0) (m := h.bs.length) (cs := h.bs.flatMap p2) hl0 hfl (by decide)
  have hcf := rpA (off := 0 * 2) (drop_flat (f := p2) (k := 2) (fun _ => rfl) hf) (by omega)
  rw [show ((0 : Nat) : Int) = 0 from rfl, Nat.zero_mul] at hif
  rw [Nat.zero_mul] at hcf
  have hil := ixA ti148 rfl ti205 (j := h.bs.length - 1) (m := h.bs.length) (cs := h.bs.flatMap p2) (by omega) hfl (by decide)
  have hcl := rpA (off := (h.bs.length - 1) * 2) (drop_flat (f := p2) (k := 2) (fun _ => rfl) hl) (by rw [hfl]; omega)
  have el1 : IntKind.i64.wrap ((h.bs.length : Int) - 1) = ((h.bs.length - 1 : Nat) : Int) := by rw [wi64]; omega
  refine Wc.seqR (fun y => ((ix q a : Int) = f.1 ∧ (ix q b : Int) = l.1) ∧ y.ds = [] ∧ y.e.length = 100 ∧ y.e.getD 1 .junk = P' (pI t) ∧ y.e.getD 2 .junk = .v (.c (.ref 0 0)) ∧ y.s.get 0 = some (.cells [.p (pI q), .p (pI h.c), .p (pI h.s), .p (pI h.mn), .p (pI h.mx), .p (.lst h.bs.length (h.bs.flatMap p2))] false)) ?_ ?_
  · refine Wc.seq ?_
    refine Wc.regD fun K hK => ?_; simp only [go_sem, ti3, ti9, ti5, ti4, ti32, ti148, ti150, ti205, hlen, h1, h2, g0, ea, eb, hif, hcf, hil, hcl, el1]
    refine ⟨by simp [o151, x151, plainD, plainV, plainC], ?_⟩
    refine wpCall.pf (pf151 q a hq (by omega)) (by kernel_rfl) (by kernel_rfl) rfl rfl ?_
    by_cases v1 : (ix q a : Int) = f.1
    · have b1 : ((ix q a : Int) != f.1) = false := by simpa using v1
      simp only [go_sem, ti3, ti9, ti5, ti4, ti32, ti148, ti150, ti205, hlen, h1, h2, g0, ea, eb, hif, hcf, hil, hcl, el1, b1]
      refine ⟨by simp [o151, x151, plainD, plainV, plainC], ?_⟩
      refine wpCall.pf (pf151 q b hq (by omega)) (by kernel_rfl) (by kernel_rfl) rfl rfl ?_
      simp only [go_sem, ti3, ti9, ti5, ti4, ti32, ti148, ti150, ti205, hlen, h1, h2, g0, ea, eb, hif, hcf, hil, hcl, el1, b1]; refine hK _ _ ?_; clear hK K
      refine Wc.cond (t := ((ix q b : Int) != l.1)) (by simp only [go_sem, ti3, ti9, ti5, ti4, ti32, ti148, ti150, ti205, hlen]) (fun hc => ?_) (fun hc => ?_)
      · have hc3 : (ix q b : Int) ≠ l.1 := by simpa using hc
        refine Wc.seq ?_
        refine Wc.reg fun K hK => ?_; simp only [go_sem, ti3, ti9, ti5, ti4, ti32, ti148, ti150, ti205, hlen]; refine hK _ _ ?_; clear hK K
        rw [if_pos (.inr hc3)]
        exact Wc.ret (Pf.ret [.tmp 4] [.c (.p (.bool false))] rfl rfl (by simp only [resultsD, go_sem, ti3, ti9, ti5, ti4, ti32, ti148, ti150, ti205, hlen]) rfl)
      · have hc3 : (ix q b : Int) = l.1 := by simpa using hc
        exact Wc.skip ⟨⟨v1, hc3⟩, rfl, by simp only [go_sem, ti3, ti9, ti5, ti4, ti32, ti148, ti150, ti205, hlen], by simp only [go_sem, ti3, ti9, ti5, ti4, ti32, ti148, ti150, ti205, hlen, h1], by simp only [go_sem, ti3, ti9, ti5, ti4, ti32, ti148, ti150, ti205, hlen, h2], g0⟩
    · have b1 : ((ix q a : Int) != f.1) = true := by simpa using v1
      simp only [go_sem, ti3, ti9, ti5, ti4, ti32, ti148, ti150, ti205, hlen, h1, h2, g0, ea, eb, hif, hcf, hil, hcl, el1, b1]; refine hK _ _ ?_; clear hK K
      refine Wc.cond (t := true) (by simp only [go_sem, ti3, ti9, ti5, ti4, ti32, ti148, ti150, ti205, hlen]) (fun _ => ?_) (fun hc => by cases hc)
      refine Wc.seq ?_
      refine Wc.reg fun K hK => ?_; simp only [go_sem, ti3, ti9, ti5, ti4, ti32, ti148, ti150, ti205, hlen]; refine hK _ _ ?_; clear hK K
      rw [if_pos (.inl v1)]
      exact Wc.ret (Pf.ret [.tmp 4] [.c (.p (.bool false))] rfl rfl (by simp only [resultsD, go_sem, ti3, ti9, ti5, ti4, ti32, ti148, ti150, ti205, hlen]) rfl)
  clear hlen h1 h2 g0 e s1
  rintro ⟨e, ds, s1⟩ ⟨⟨i1, i2⟩, rfl, hlen, h1, h2, g0⟩
  simp only at hlen h1 h2 g0
  rw [if_neg (by omega)]
  refine Wc.seq (Wc.seq ?_)
  refine Wc.reg fun K hK => ?_; simp only [go_sem, ti3, ti9, ti5, ti4, ti32, ti148, ti150, ti205, hlen, h1, h2]; refine hK _ _ ?_; clear hK K
  refine Wc.cond (t := (t == 1)) (by simp only [go_sem, ti3, ti9, ti5, ti4, ti32, ti148, ti150, ti205, hlen]) (fun hc => ?_) (fun hc => ?_)
  · have z1 : t = 1 := by simpa using hc
    rw [if_pos z1]
    refine Wc.seq ?_
    by_cases z2 : h.mn = h.mx
    · have b2 : (h.mn == h.mx) = true := by simpa using z2
      refine Wc.reg fun K hK => ?_; simp only [go_sem, ti3, ti9, ti5, ti4, ti32, ti148, ti150, ti205, hlen, h1, h2, g0, b2]; refine hK _ _ ?_; clear hK K
      rw [decide_eq_true z2, Bool.true_and]
      exact Wc.ret (Pf.ret [.tmp 4] [.c (.p (.bool (decide (h.s = h.mn))))] rfl rfl (by simp only [resultsD, go_sem, ti3, ti9, ti5, ti4, ti32, ti148, ti150, ti205, hlen]; rfl) rfl)
    · have b2 : (h.mn == h.mx) = false := by simpa using z2
      refine Wc.reg fun K hK => ?_; simp only [go_sem, ti3, ti9, ti5, ti4, ti32, ti148, ti150, ti205, hlen, h1, h2, g0, b2]; refine hK _ _ ?_; clear hK K
      rw [decide_eq_false z2, Bool.false_and]
      exact Wc.ret (Pf.ret [.tmp 4] [.c (.p (.bool false))] rfl rfl (by simp only [resultsD, go_sem, ti3, ti9, ti5, ti4, ti32, ti148, ti150, ti205, hlen]) rfl)
  have z1 : ¬ t = 1 := by simpa using hc
  rw [if_neg z1]
  have xx : HCx h q := ⟨hq, hp, hb, hn, by omega, m0, m2, m1⟩
  have p133 := pf222 h q xx
  have p134 := pf223 h q xx
  simp only [List.map_cons, List.map_nil, hp] at p133 p134
  refine Wc.skip (Wc.seq ?_)
  refine Wc.regD fun K hK => ?_; simp only [go_sem, ti3, ti9, ti5, ti4, ti32, ti148, ti150, ti205, hlen, h1, h2, g0]
  refine ⟨by simp [o222, x222, plainD, plainV, plainC], ?_⟩
  refine wpCall.pf p133 (by kernel_rfl) (by kernel_rfl) rfl rfl ?_
  by_cases z2 : leastR q h.mn h.mx h.bs ≤ h.s
  · simp only [go_sem, ti3, ti9, ti5, ti4, ti32, ti148, ti150, ti205, hlen, h1, h2, g0, z2]
    refine ⟨by simp [o223, x223, plainD, plainV, plainC], ?_⟩
    refine wpCall.pf p134 (by kernel_rfl) (by kernel_rfl) rfl rfl ?_
    simp only [go_sem, ti3, ti9, ti5, ti4, ti32, ti148, ti150, ti205, hlen, h1, h2, g0, z2]; refine hK _ _ ?_; clear hK K
    try rw [decide_eq_true z2, Bool.true_and]
    exact Wc.ret (Pf.ret [.tmp 4] [.c (.p (.bool (decide (h.s ≤ mostR q h.mn h.mx h.bs))))] rfl rfl (by simp only [resultsD, go_sem, ti3, ti9, ti5, ti4, ti32, ti148, ti150, ti205, hlen]) rfl)
  · simp only [go_sem, ti3, ti9, ti5, ti4, ti32, ti148, ti150, ti205, hlen, h1, h2, g0, z2]; refine hK _ _ ?_; clear hK K
    rw [decide_eq_false z2, Bool.false_and]
    exact Wc.ret (Pf.ret [.tmp 4] [.c (.p (.bool false))] rfl rfl (by simp only [resultsD, go_sem, ti3, ti9, ti5, ti4, ti32, ti148, ti150, ti205, hlen]) rfl)
end Go.Proofs.YtedcnhbblgmdnaaGreat.Ab
namespace Go.Proofs.YtedcnhbblgmdnaaGreat.Ab
set_option maxHeartbeats 8000000
set_option maxRecDepth 10000
set_option linter.unusedSimpArgs false
set_option linter.unusedVariables false
/-- 65: the reference's Check of histograms -/
theorem pf94 (h : Hst) (hl : h.bs.length < 2^60) : Pf E0 94 [.agg (h.pd.map .p)] (P' (pI (hck h))) := by
  have hfl : (h.bs.flatMap p2).length = h.bs.length * 2 := flat_len (k := 2) (fun _ => rfl) _
  refine Pf.body (fn := Tryz.f94) (by kernel_rfl) rfl ?_; simp only [List.map_cons, List.map_nil, List.cons_append, List.nil_append, List.length_cons, List.length_nil, Tryz.ntmps94, List.replicate, Nat.reduceSub, Nat.reduceAdd]
  refine Wc.seq ?_
  refine Wc.reg fun K hK => ?_; simp only [go_sem, ti3, ti9, ti5, ti4, ti32, ti148, ti150, ti205]; refine hK _ _ ?_; clear hK K
  have bad0 : (h.p < 0 ∨ 8 < h.p) → hck h = 2 := fun hx => by unfold hck; rw [if_pos hx]
  refine Wc.seqR (fun y => (0 ≤ h.p ∧ h.p ≤ 8) ∧ y.ds = [] ∧ y.e.length = 75 ∧ y.e.getD 1 .junk = .v (.c (.ref 0 0)) ∧ OA y.s.nx y.s [] [(0, .cells (h.pd.map .p) false)]) ?_ ?_
  · refine Wc.seq ?_
    by_cases z1 : h.p < 0
    · refine Wc.reg fun K hK => ?_; simp only [go_sem, ti3, ti9, ti5, ti4, ti32, ti148, ti150, ti205, z1]; refine hK _ _ ?_; clear hK K
      refine Wc.cond (t := true) (by simp only [go_sem, ti3, ti9, ti5, ti4, ti32, ti148, ti150, ti205]) (fun _ => ?_) (fun hc => by cases hc)
      refine Wc.seq ?_
      refine Wc.reg fun K hK => ?_; simp only [go_sem, ti3, ti9, ti5, ti4, ti32, ti148, ti150, ti205]; refine hK _ _ ?_; clear hK K
      rw [bad0 (.inl z1)]
      exact Wc.ret (Pf.ret [.tmp 2] [.c (.p (pI 2))] rfl rfl (by simp only [resultsD, go_sem, ti3, ti9, ti5, ti4, ti32, ti148, ti150, ti205]) rfl)
    refine Wc.reg fun K hK => ?_; simp only [go_sem, ti3, ti9, ti5, ti4, ti32, ti148, ti150, ti205, z1]; refine hK _ _ ?_; clear hK K
    refine Wc.cond (t := decide (8 < h.p)) (by simp only [go_sem, ti3, ti9, ti5, ti4, ti32, ti148, ti150, ti205]) (fun hc => ?_) (fun hc => ?_)
    · refine Wc.seq ?_
      refine Wc.reg fun K hK => ?_; simp only [go_sem, ti3, ti9, ti5, ti4, ti32, ti148, ti150, ti205]; refine hK _ _ ?_; clear hK K
      rw [bad0 (.inr (by simpa using hc))]
      exact Wc.ret (Pf.ret [.tmp 2] [.c (.p (pI 2))] rfl rfl (by simp only [resultsD, go_sem, ti3, ti9, ti5, ti4, ti32, ti148, ti150, ti205]) rfl)
    · have z2 : ¬ 8 < h.p := by simpa using hc
      refine Wc.skip ⟨by omega, rfl, rfl, rfl, ?_⟩
      have o0 := (s00_oa.adv (n := 2)).new (k := 0) (o := .cells (h.pd.map .p) false) (Nat.le_refl _) rfl
      refine OA.mono (b := 0 + 1) ?_ (by simp only [St.nx_adv, St.nx_put]; omega)
      repeat refine OA.adv ?_
      exact o0
  rintro ⟨e, ds, s1⟩ ⟨hp, rfl, hlen, h1, ho⟩
  simp only at hlen h1 ho
  obtain ⟨q, hq⟩ : ∃ q : Nat, h.p = (q : Int) := ⟨h.p.toNat, by omega⟩
  have hq8 : q ≤ 8 := by omega
  have eq0 : h.p.toNat = q := by omega
  have e1 : hck h = if 500 < h.bs.length then 4 else if bck (ix q 1099511627776) (-1) h.bs ≠ 0 then bck (ix q 1099511627776) (-1) h.bs else if 1048576 < cnt h.bs then 4 else if agrB h q (cnt h.bs) = false then 10 else 0 := by
    unfold hck; rw [if_neg (by omega), eq0]
  have g0 := ho.at_ (0, .cells (h.pd.map .p) false) (by simp)
  simp only [List.map_cons, List.map_nil] at g0
  refine Wc.seq (Wc.seq ?_)
  refine Wc.reg fun K hK => ?_; simp only [go_sem, ti3, ti9, ti5, ti4, ti32, ti148, ti150, ti205, hlen, h1, g0]; refine hK _ _ ?_; clear hK K
  refine Wc.cond (t := decide ((500 : Int) < h.bs.length)) (by simp only [go_sem, ti3, ti9, ti5, ti4, ti32, ti148, ti150, ti205, hlen]) (fun hc => ?_) (fun hc => ?_)
  · have h5 : 500 < h.bs.length := by have : (500 : Int) < h.bs.length := by simpa using hc
                                      omega
    rw [e1, if_pos h5]
    refine Wc.seq ?_
    refine Wc.reg fun K hK => ?_; simp only [go_sem, ti3, ti9, ti5, ti4, ti32, ti148, ti150, ti205, hlen]; refine hK _ _ ?_; clear hK K
    exact Wc.ret (Pf.ret [.tmp 2] [.c (.p (pI 4))] rfl rfl (by simp only [resultsD, go_sem, ti3, ti9, ti5, ti4, ti32, ti148, ti150, ti205, hlen]) rfl)
  have h5 : ¬ 500 < h.bs.length := by have : ¬ (500 : Int) < h.bs.length := by simpa using hc
                                      omega
  rw [if_neg h5] at e1
  have e2 : bck (ix q 1099511627776) (-1) h.bs = bck (ix q 1099511627776) (prevB h.bs 0) (h.bs.drop 0) := rfl
  refine Wc.skip (Wc.seq ?_)
  refine Wc.reg fun K hK => ?_; simp only [go_sem, ti3, ti9, ti5, ti4, ti32, ti148, ti150, ti205, hlen, h1, Int.natCast_zero]; refine hK _ _ ?_; clear hK K
  refine Wc.seqR (fun y => bck (ix q 1099511627776) (-1) h.bs = 0 ∧ y.ds = [] ∧ y.e.length = 75 ∧ y.e.getD 1 .junk = .v (.c (.ref 0 0)) ∧ y.e.getD 3 .junk = P' (pI (cnt h.bs)) ∧ OA y.s.nx y.s [] [(0, .cells (h.pd.map .p) false)]) ?_ ?_
  · refine Wc.seq ?_
    refine Wc.reg fun K hK => ?_; simp only [go_sem, ti3, ti9, ti5, ti4, ti32, ti148, ti150, ti205, hlen, h1, Int.natCast_zero]; refine hK _ _ ?_; clear hK K
    refine Wc.block (Wc.loop (fun k y => ∃ i : Nat, k = h.bs.length - i ∧ i ≤ h.bs.length ∧ y.ds = [] ∧ y.e.length = 75 ∧ y.e.getD 1 .junk = .v (.c (.ref 0 0)) ∧ y.e.getD 3 .junk = P' (pI (cnt (h.bs.take i))) ∧ y.e.getD 4 .junk = P' (pI i) ∧
      OA y.s.nx y.s [] [(0, .cells (h.pd.map .p) false)] ∧ (0 ≤ cnt (h.bs.take i) ∧ cnt (h.bs.take i) ≤ i * 1048576) ∧ bck (ix q 1099511627776) (-1) h.bs = bck (ix q 1099511627776) (prevB h.bs i) (h.bs.drop i)) ?_ (k := h.bs.length) ?_)
    · clear hlen h1 ho g0 e s1
      rintro k ⟨e, ds, s1⟩ ⟨i, rfl, hi, rfl, hlen, h1, h3, h4, ho, hcn, hch⟩
      simp only at hlen h1 h3 h4 ho
      have g0 := ho.at_ (0, .cells (h.pd.map .p) false) (by simp)
      simp only [List.map_cons, List.map_nil] at g0
      refine Wc.seq (Wc.seq ?_)
      refine Wc.reg fun K hK => ?_; simp only [go_sem, ti3, ti9, ti5, ti4, ti32, ti148, ti150, ti205, hlen, h1, h3, h4, g0]; refine hK _ _ ?_; clear hK K
      refine Wc.cond (t := decide ((i : Int) < h.bs.length)) (by simp only [go_sem, ti3, ti9, ti5, ti4, ti32, ti148, ti150, ti205, hlen]) (fun hc => ?_) (fun hc => ?_)
      · have hil : i < h.bs.length := by have : (i : Int) < h.bs.length := by simpa using hc
                                         omega
        obtain ⟨b, hb⟩ : ∃ b, h.bs[i]? = some b := ⟨h.bs[i], List.getElem?_eq_getElem hil⟩
        have hix := ixA ti148 rfl ti205 (j := i) (m := h.bs.length) (cs := h.bs.flatMap p2) hil hfl (by decide)
        have hca := rpA (off := i * 2) (drop_flat (f := p2) (k := 2) (fun _ => rfl) hb) (by rw [hfl]; omega)
        rw [bck_step hb] at hch
        have bad2 : (b.1 < 0 ∨ (ix q 1099511627776 : Int) < b.1 ∨ b.2 < 1 ∨ 1048576 < b.2) → hck h = 2 := fun hx => by
          rw [e1, hch, if_pos hx, if_pos (by decide)]
        refine Wc.skip (Wc.seq (Wc.block (Wc.seqA (fun y => ∃ k7, y.ds = [] ∧ y.e.length = 75 ∧ y.e.getD 1 .junk = .v (.c (.ref 0 0)) ∧ y.e.getD 3 .junk = P' (pI (cnt (h.bs.take i))) ∧ y.e.getD 4 .junk = P' (pI i) ∧ y.e.getD 5 .junk = .v (.c (.ref k7 0)) ∧ OA y.s.nx y.s [] [(k7, .cells ((p2 b).map .p) false), (0, .cells (h.pd.map .p) false)]) ?_ ?_)))
        · refine Wc.reg fun K hK => ?_; simp only [go_sem, ti3, ti9, ti5, ti4, ti32, ti148, ti150, ti205, hlen, h1, h3, h4, g0, hix, hca]; refine hK _ _ ?_; clear hK K
          refine ⟨rfl, s1.nx + 10, rfl, by simp only [go_sem, ti3, ti9, ti5, ti4, ti32, ti148, ti150, ti205, hlen], by simp only [go_sem, ti3, ti9, ti5, ti4, ti32, ti148, ti150, ti205, hlen, h1], by simp only [go_sem, ti3, ti9, ti5, ti4, ti32, ti148, ti150, ti205, hlen, h3], by simp only [go_sem, ti3, ti9, ti5, ti4, ti32, ti148, ti150, ti205, hlen, h4], by simp only [go_sem, ti3, ti9, ti5, ti4, ti32, ti148, ti150, ti205, hlen], ?_⟩
          have q1 := OA.set (M1 := []) (o' := .cells ((p2 b).map .p) false) (((ho.adv (n := 5)).adv (n := 7)).new (k := s1.nx + 10) (o := .cells [.p (.int .i64 0), .p (.int .i64 0)] false) (by omega) rfl) rfl
          exact q1.mono (by simp only [St.nx_put, St.nx_adv]; omega)
        clear hlen h1 h3 h4 ho e s1 hc g0
        rintro ⟨e, ds, s1⟩ ⟨k7, rfl, hlen, h1, h3, h4, h7, ho⟩
        simp only at hlen h1 h3 h4 h7 ho
        have g7 := ho.at_ (k7, .cells ((p2 b).map .p) false) (by simp)
        have g0 := ho.at_ (0, .cells (h.pd.map .p) false) (by simp)
        simp only [List.map_cons, List.map_nil] at g7 g0
        refine Wc.seqR (fun y => ¬ (b.1 < 0 ∨ (ix q 1099511627776 : Int) < b.1 ∨ b.2 < 1 ∨ 1048576 < b.2) ∧ y.ds = [] ∧ y.e.length = 75 ∧ y.e.getD 1 .junk = .v (.c (.ref 0 0)) ∧ y.e.getD 3 .junk = P' (pI (cnt (h.bs.take i))) ∧ y.e.getD 4 .junk = P' (pI i) ∧ y.e.getD 5 .junk = .v (.c (.ref k7 0)) ∧ ∃ n, y.s = s1.adv n) ?_ ?_
        · refine Wc.seq ?_
          by_cases z1 : b.1 < 0
          · refine Wc.regD fun K hK => ?_; simp only [go_sem, ti3, ti9, ti5, ti4, ti32, ti148, ti150, ti205, hlen, h1, h3, h4, h7, g7, g0, z1]; refine hK _ _ ?_; clear hK K
            refine Wc.cond (t := true) (by simp only [go_sem, ti3, ti9, ti5, ti4, ti32, ti148, ti150, ti205, hlen]) (fun _ => ?_) (fun hc => by cases hc)
            refine Wc.seq ?_
            refine Wc.reg fun K hK => ?_; simp only [go_sem, ti3, ti9, ti5, ti4, ti32, ti148, ti150, ti205, hlen]; refine hK _ _ ?_; clear hK K
            rw [bad2 (.inl z1)]
            exact Wc.ret (Pf.ret [.tmp 2] [.c (.p (pI 2))] rfl rfl (by simp only [resultsD, go_sem, ti3, ti9, ti5, ti4, ti32, ti148, ti150, ti205, hlen]) rfl)
          refine Wc.regD fun K hK => ?_; simp only [go_sem, ti3, ti9, ti5, ti4, ti32, ti148, ti150, ti205, hlen, h1, h3, h4, h7, g7, g0, hq, z1]
          refine ⟨by simp [o151, x151, plainD, plainV, plainC], ?_⟩
          refine wpCall.pf (pf151 q 1099511627776 hq8 (by decide)) (by kernel_rfl) (by kernel_rfl) rfl rfl ?_
          by_cases z2 : (ix q 1099511627776 : Int) < b.1
          · simp only [go_sem, ti3, ti9, ti5, ti4, ti32, ti148, ti150, ti205, hlen, h1, h3, h4, h7, g7, g0, hq, z1, z2]; refine hK _ _ ?_; clear hK K
            refine Wc.cond (t := true) (by simp only [go_sem, ti3, ti9, ti5, ti4, ti32, ti148, ti150, ti205, hlen]) (fun _ => ?_) (fun hc => by cases hc)
            refine Wc.seq ?_
            refine Wc.reg fun K hK => ?_; simp only [go_sem, ti3, ti9, ti5, ti4, ti32, ti148, ti150, ti205, hlen]; refine hK _ _ ?_; clear hK K
            rw [bad2 (.inr (.inl z2))]
            exact Wc.ret (Pf.ret [.tmp 2] [.c (.p (pI 2))] rfl rfl (by simp only [resultsD, go_sem, ti3, ti9, ti5, ti4, ti32, ti148, ti150, ti205, hlen]) rfl)
          by_cases z3 : b.2 < 1
          · simp only [go_sem, ti3, ti9, ti5, ti4, ti32, ti148, ti150, ti205, hlen, h1, h3, h4, h7, g7, g0, hq, z1, z2, z3]; refine hK _ _ ?_; clear hK K
            refine Wc.cond (t := true) (by simp only [go_sem, ti3, ti9, ti5, ti4, ti32, ti148, ti150, ti205, hlen]) (fun _ => ?_) (fun hc => by cases hc)
            refine Wc.seq ?_
            refine Wc.reg fun K hK => ?_; simp only [go_sem, ti3, ti9, ti5, ti4, ti32, ti148, ti150, ti205, hlen]; refine hK _ _ ?_; clear hK K
            rw [bad2 (.inr (.inr (.inl z3)))]
            exact Wc.ret (Pf.ret [.tmp 2] [.c (.p (pI 2))] rfl rfl (by simp only [resultsD, go_sem, ti3, ti9, ti5, ti4, ti32, ti148, ti150, ti205, hlen]) rfl)
          simp only [go_sem, ti3, ti9, ti5, ti4, ti32, ti148, ti150, ti205, hlen, h1, h3, h4, h7, g7, g0, hq, z1, z2, z3]; refine hK _ _ ?_; clear hK K
          refine Wc.cond (t := decide (1048576 < b.2)) (by simp only [go_sem, ti3, ti9, ti5, ti4, ti32, ti148, ti150, ti205, hlen]) (fun hc => ?_) (fun hc => ?_)
          · refine Wc.seq ?_
            refine Wc.reg fun K hK => ?_; simp only [go_sem, ti3, ti9, ti5, ti4, ti32, ti148, ti150, ti205, hlen]; refine hK _ _ ?_; clear hK K
            rw [bad2 (.inr (.inr (.inr (by simpa using hc))))]
            exact Wc.ret (Pf.ret [.tmp 2] [.c (.p (pI 2))] rfl rfl (by simp only [resultsD, go_sem, ti3, ti9, ti5, ti4, ti32, ti148, ti150, ti205, hlen]) rfl)
          · have z4 : ¬ 1048576 < b.2 := by simpa using hc
            exact Wc.skip ⟨by omega, rfl, by simp only [go_sem, ti3, ti9, ti5, ti4, ti32, ti148, ti150, ti205, hlen], by simp only [go_sem, ti3, ti9, ti5, ti4, ti32, ti148, ti150, ti205, hlen, h1], by simp only [go_sem, ti3, ti9, ti5, ti4, ti32, ti148, ti150, ti205, hlen, h3], by simp only [go_sem, ti3, ti9, ti5, ti4, ti32, ti148, ti150, ti205, hlen, h4], by simp only [go_sem, ti3, ti9, ti5, ti4, ti32, ti148, ti150, ti205, hlen, h7], _, rfl⟩
        clear hlen h1 h3 h4 h7 e
        rintro ⟨e, ds, s2⟩ ⟨hz, rfl, hlen, h1, h3, h4, h7, n1, rfl⟩
        simp only at hlen h1 h3 h4 h7
        rw [if_neg hz] at hch
        refine Wc.seqR (fun y => ¬ b.1 ≤ prevB h.bs i ∧ y.ds = [] ∧ y.e.length = 75 ∧ y.e.getD 1 .junk = .v (.c (.ref 0 0)) ∧ y.e.getD 3 .junk = P' (pI (cnt (h.bs.take i))) ∧ y.e.getD 4 .junk = P' (pI i) ∧ y.e.getD 5 .junk = .v (.c (.ref k7 0)) ∧ ∃ n, y.s = s1.adv n) ?_ ?_
        · refine Wc.seq ?_
          by_cases hi0 : 0 < i
          · obtain ⟨y, hy⟩ : ∃ y, h.bs[i - 1]? = some y := ⟨h.bs[i - 1], List.getElem?_eq_getElem (by omega)⟩
            have hiy := ixA ti148 rfl ti205 (j := i - 1) (m := h.bs.length) (cs := h.bs.flatMap p2) (by omega) hfl (by decide)
            have hcb := rpA (off := (i - 1) * 2) (drop_flat (f := p2) (k := 2) (fun _ => rfl) hy) (by rw [hfl]; omega)
            have e3 : IntKind.i64.wrap ((i : Int) - 1) = ((i - 1 : Nat) : Int) := by rw [wi64]; omega
            have hd : (0 < (i : Int)) = True := by simp; omega
            have hpr : prevB h.bs i = y.1 := by unfold prevB; rw [if_neg (by omega), hy]; rfl
            rw [hpr] at hch
            refine Wc.regD fun K hK => ?_; simp only [go_sem, ti3, ti9, ti5, ti4, ti32, ti148, ti150, ti205, hlen, h1, h3, h4, h7, g7, g0, hiy, hcb, e3, hd]; refine hK _ _ ?_; clear hK K
            refine Wc.cond (t := decide (b.1 ≤ y.1)) (by simp only [go_sem, ti3, ti9, ti5, ti4, ti32, ti148, ti150, ti205, hlen, hd]) (fun hc => ?_) (fun hc => ?_)
            · have z5 : b.1 ≤ y.1 := by simpa using hc
              rw [if_pos z5] at hch
              refine Wc.seq ?_
              refine Wc.reg fun K hK => ?_; simp only [go_sem, ti3, ti9, ti5, ti4, ti32, ti148, ti150, ti205, hlen]; refine hK _ _ ?_; clear hK K
              rw [e1, hch, if_pos (by decide)]
              exact Wc.ret (Pf.ret [.tmp 2] [.c (.p (pI 9))] rfl rfl (by simp only [resultsD, go_sem, ti3, ti9, ti5, ti4, ti32, ti148, ti150, ti205, hlen]) rfl)
            · have z5 : ¬ b.1 ≤ y.1 := by simpa using hc
              exact Wc.skip ⟨by omega, rfl, by simp only [go_sem, ti3, ti9, ti5, ti4, ti32, ti148, ti150, ti205, hlen], by simp only [go_sem, ti3, ti9, ti5, ti4, ti32, ti148, ti150, ti205, hlen, h1], by simp only [go_sem, ti3, ti9, ti5, ti4, ti32, ti148, ti150, ti205, hlen, h3], by simp only [go_sem, ti3, ti9, ti5, ti4, ti32, ti148, ti150, ti205, hlen, h4], by simp only [go_sem, ti3, ti9, ti5, ti4, ti32, ti148, ti150, ti205, hlen, h7], _, St.adv_adv _ _ _⟩
          · have hd : (0 < (i : Int)) = False := by simp; omega
            have hpr : prevB h.bs i = -1 := by unfold prevB; rw [if_pos (by omega)]
            refine Wc.regD fun K hK => ?_; simp only [go_sem, ti3, ti9, ti5, ti4, ti32, ti148, ti150, ti205, hlen, h1, h3, h4, h7, g7, g0, hd]; refine hK _ _ ?_; clear hK K
            refine Wc.cond (t := false) (by simp only [go_sem, ti3, ti9, ti5, ti4, ti32, ti148, ti150, ti205, hlen, hd]) (fun hc => by cases hc) (fun hc => ?_)
            exact Wc.skip ⟨by omega, rfl, by simp only [go_sem, ti3, ti9, ti5, ti4, ti32, ti148, ti150, ti205, hlen], by simp only [go_sem, ti3, ti9, ti5, ti4, ti32, ti148, ti150, ti205, hlen, h1], by simp only [go_sem, ti3, ti9, ti5, ti4, ti32, ti148, ti150, ti205, hlen, h3], by simp only [go_sem, ti3, ti9, ti5, ti4, ti32, ti148, ti150, ti205, hlen, h4], by simp only [go_sem, ti3, ti9, ti5, ti4, ti32, ti148, ti150, ti205, hlen, h7], _, St.adv_adv _ _ _⟩
        clear hlen h1 h3 h4 h7 e n1
        rintro ⟨e, ds, s2⟩ ⟨z5, rfl, hlen, h1, h3, h4, h7, n1, rfl⟩
        simp only at hlen h1 h3 h4 h7
        rw [if_neg z5] at hch
        have hcs : cnt (h.bs.take (i + 1)) = cnt (h.bs.take i) + b.2 := sumI_take hb
        have w1 : IntKind.i64.wrap (cnt (h.bs.take i) + b.2) = cnt (h.bs.take (i + 1)) := by rw [wi64]; omega
        refine Wc.reg fun K hK => ?_; simp only [go_sem, ti3, ti9, ti5, ti4, ti32, ti148, ti150, ti205, hlen, h1, h3, h4, h7, g7, w1]; refine hK _ _ ?_; clear hK K
        refine Wc.reg fun K hK => ?_; simp only [go_sem, ti3, ti9, ti5, ti4, ti32, ti148, ti150, ti205, hlen, h1, h3, h4, h7, g7, i64n i (by omega)]; refine hK _ _ ?_; clear hK K
        refine ⟨h.bs.length - (i + 1), by omega, i + 1, rfl, by omega, rfl, by simp only [go_sem, ti3, ti9, ti5, ti4, ti32, ti148, ti150, ti205, hlen], by simp only [go_sem, ti3, ti9, ti5, ti4, ti32, ti148, ti150, ti205, hlen, h1], by simp only [go_sem, ti3, ti9, ti5, ti4, ti32, ti148, ti150, ti205, hlen], by simp only [go_sem, ti3, ti9, ti5, ti4, ti32, ti148, ti150, ti205, hlen], ?_, by omega, hch⟩
        have q1 := ho.sub (List.Sublist.refl _) (List.sublist_cons_self _ _)
        refine OA.mono (b := s1.nx) ?_ (by simp only [St.nx_adv]; omega)
        repeat refine OA.adv ?_
        exact q1
      · have hil : i = h.bs.length := by have : ¬ (i : Int) < h.bs.length := by simpa using hc
                                         omega
        subst hil
        rw [List.drop_length] at hch
        rw [List.take_length] at h3
        exact Wc.exit ⟨hch, rfl, by simp only [go_sem, ti3, ti9, ti5, ti4, ti32, ti148, ti150, ti205, hlen], by simp only [go_sem, ti3, ti9, ti5, ti4, ti32, ti148, ti150, ti205, hlen, h1], by simp only [go_sem, ti3, ti9, ti5, ti4, ti32, ti148, ti150, ti205, hlen, h3], (ho.mono (Nat.le_add_right _ _)).adv⟩
    · refine ⟨0, rfl, by omega, rfl, by simp only [go_sem, ti3, ti9, ti5, ti4, ti32, ti148, ti150, ti205, hlen], by simp only [go_sem, ti3, ti9, ti5, ti4, ti32, ti148, ti150, ti205, hlen, h1], by simp only [go_sem, ti3, ti9, ti5, ti4, ti32, ti148, ti150, ti205, hlen]; rfl, by simp only [go_sem, ti3, ti9, ti5, ti4, ti32, ti148, ti150, ti205, hlen]; rfl, ?_, by simp [cnt, sumI], e2⟩
      refine OA.mono (b := s1.nx) ?_ (by simp only [St.nx_adv]; omega)
      repeat refine OA.adv ?_
      exact ho
  rintro ⟨e, ds, s1⟩ ⟨hz, rfl, hlen, h1, h3, ho⟩
  simp only at hlen h1 h3 ho
  rw [if_neg (by rw [hz]; decide)] at e1
  have hbs := bck_bs hq8 hz
  refine Wc.seq (Wc.seq ?_)
  refine Wc.reg fun K hK => ?_; simp only [go_sem, ti3, ti9, ti5, ti4, ti32, ti148, ti150, ti205, hlen, h1, h3]; refine hK _ _ ?_; clear hK K
  refine Wc.cond (t := decide (1048576 < cnt h.bs)) (by simp only [go_sem, ti3, ti9, ti5, ti4, ti32, ti148, ti150, ti205, hlen]) (fun hc => ?_) (fun hc => ?_)
  · have z1 : 1048576 < cnt h.bs := by simpa using hc
    rw [e1, if_pos z1]
    refine Wc.seq ?_
    refine Wc.reg fun K hK => ?_; simp only [go_sem, ti3, ti9, ti5, ti4, ti32, ti148, ti150, ti205, hlen]; refine hK _ _ ?_; clear hK K
    exact Wc.ret (Pf.ret [.tmp 2] [.c (.p (pI 4))] rfl rfl (by simp only [resultsD, go_sem, ti3, ti9, ti5, ti4, ti32, ti148, ti150, ti205, hlen]) rfl)
  have z1 : ¬ 1048576 < cnt h.bs := by simpa using hc
  rw [if_neg z1] at e1
  have g0 := ho.at_ (0, .cells (h.pd.map .p) false) (by simp)
  simp only [List.map_cons, List.map_nil] at g0
  refine Wc.skip (Wc.seq (Wc.seq ?_))
  refine Wc.reg fun K hK => ?_; simp only [go_sem, ti3, ti9, ti5, ti4, ti32, ti148, ti150, ti205, hlen, h1, h3, g0]
  refine wpCall.pf (pf152 h (cnt h.bs) q hq8 hq hbs (by omega) rfl (by omega)) (by kernel_rfl) (by kernel_rfl) rfl rfl ?_
  simp only [go_sem, ti3, ti9, ti5, ti4, ti32, ti148, ti150, ti205, hlen, h1, h3, g0]; refine hK _ _ ?_; clear hK K
  refine Wc.cond (t := !(agrB h q (cnt h.bs))) (by simp only [go_sem, ti3, ti9, ti5, ti4, ti32, ti148, ti150, ti205, hlen]) (fun hc => ?_) (fun hc => ?_)
  · rw [e1, if_pos (by simpa using hc)]
    refine Wc.seq ?_
    refine Wc.reg fun K hK => ?_; simp only [go_sem, ti3, ti9, ti5, ti4, ti32, ti148, ti150, ti205, hlen]; refine hK _ _ ?_; clear hK K
    exact Wc.ret (Pf.ret [.tmp 2] [.c (.p (pI 10))] rfl rfl (by simp only [resultsD, go_sem, ti3, ti9, ti5, ti4, ti32, ti148, ti150, ti205, hlen]) rfl)
  · have z2 : agrB h q (cnt h.bs) = true := by simpa using hc
    rw [e1, if_neg (by rw [z2]; decide)]
    refine Wc.skip (Wc.seq ?_)
    refine Wc.reg fun K hK => ?_; simp only [go_sem, ti3, ti9, ti5, ti4, ti32, ti148, ti150, ti205, hlen]; refine hK _ _ ?_; clear hK K
    exact Wc.ret (Pf.ret [.tmp 2] [.c (.p (pI 0))] rfl rfl (by simp only [resultsD, go_sem, ti3, ti9, ti5, ti4, ti32, ti148, ti150, ti205, hlen]) rfl)
end Go.Proofs.YtedcnhbblgmdnaaGreat.Ab
namespace Go.Proofs.YtedcnhbblgmdnaaGreat.Ab
set_option maxHeartbeats 8000000
set_option maxRecDepth 10000
set_option linter.unusedSimpArgs false
set_option linter.unusedVariables false
/-- Whether a list is one of valid histograms, behind a time. -/
def vh : Int → List HSm → Bool
  | _, [] => true
  | p, x :: r => if x.t ≤ p ∨ 1099511627776 < x.t ∨ hck x.h ≠ 0 then false else vh x.t r
def validH (l : List HSm) : Bool := !(l.length == 0) && decide (l.length ≤ 2000) && vh 0 l
def prevH (l : List HSm) (i : Nat) : Int := if i = 0 then 0 else ((l[i - 1]?).map (·.t)).getD 0
theorem vh_step {l : List HSm} {i : Nat} {x : HSm} (h : l[i]? = some x) : vh (prevH l i) (l.drop i) = if x.t ≤ prevH l i ∨ 1099511627776 < x.t ∨ hck x.h ≠ 0 then false else vh (prevH l (i + 1)) (l.drop (i + 1)) := by
  have hi := (List.getElem?_eq_some_iff.1 h).1
  have hx := (List.getElem?_eq_some_iff.1 h).2
  have hp : prevH l (i + 1) = x.t := by simp [prevH, h]
  rw [List.drop_eq_getElem_cons hi, hx, hp]
  rfl
/-- A series: labels, kind, samples, histograms. -/
structure Ser where
  lb : List Lb
  k : Int
  sm : List I2
  hs : List HSm
abbrev Ser.pd (x : Ser) : List Pd := [.lst x.lb.length (x.lb.flatMap lbP), pI x.k, .lst x.sm.length (x.sm.flatMap p2), .lst x.hs.length (x.hs.flatMap HSm.pd)]
/-- A series that isn't too long for the machine. -/
structure Ser.Sz (x : Ser) : Prop where
  lb : x.lb.length < 2^40
  ls : ∀ y ∈ x.lb, y.1.length < 2^50 ∧ y.2.length < 2^50
  sm : x.sm.length < 2^40
  hs : x.hs.length < 2^40
  hb : ∀ y ∈ x.hs, y.h.bs.length < 2^60
def serOK (x : Ser) : Bool := if lckA x.lb ≠ 0 then false else if x.k = 3 then (x.sm.length == 0) && validH x.hs else (x.hs.length == 0) && (!(x.sm.length == 0) && (sckA x.k x.sm == 0))
theorem len_beq (n : Nat) : ((n : Int) == 0) = (n == 0) := by
  rw [Bool.eq_iff_iff]; simp
theorem len_pos (n : Nat) : decide (0 < (n : Int)) = !(n == 0) := by
  cases n <;> simp
end Go.Proofs.YtedcnhbblgmdnaaGreat.Ab
namespace Go.Proofs.YtedcnhbblgmdnaaGreat.Ab
set_option maxHeartbeats 8000000
set_option maxRecDepth 10000
set_option linter.unusedSimpArgs false
set_option linter.unusedVariables false
theorem o94 : E0.opn 94 = false := by kernel_rfl
theorem x94 : E0.xt 94 = none := by kernel_rfl
theorem validH_bad {l : List HSm} (hn : ¬ (l.length ≠ 0 ∧ l.length ≤ 2000)) : validH l = false := by
  unfold validH
  by_cases h0 : l.length = 0
  · have b0 : (l.length == 0) = true := by simpa using h0
    rw [b0]; rfl
  · have n0 : ¬ l.length ≤ 2000 := by omega
    rw [decide_eq_false n0, Bool.and_false, Bool.false_and]
/-- 28: CheckSeries -/
theorem pf44 (x : Ser) (z : x.Sz) : Pf E0 44 [.agg (x.pd.map .p)] (P' (.bool (serOK x))) := by
  have hfl : (x.hs.flatMap HSm.pd).length = x.hs.length * 7 := flat_len (k := 7) (fun _ => rfl) x.hs
  refine Pf.body (fn := Tryz.f44) (by kernel_rfl) rfl ?_; simp only [List.map_cons, List.map_nil, List.cons_append, List.nil_append, List.length_cons, List.length_nil, Tryz.ntmps44, List.replicate, Nat.reduceSub, Nat.reduceAdd]
  refine Wc.seq ?_
  refine Wc.reg fun K hK => ?_; simp only [go_sem, ti3, ti9, ti5, ti4, ti32, ti24, ti152, ti150, ti26, ti22, ti23]; refine hK _ _ ?_; clear hK K
  refine Wc.seq (Wc.seq ?_)
  refine Wc.reg fun K hK => ?_; simp only [go_sem, ti3, ti9, ti5, ti4, ti32, ti24, ti152, ti150, ti26, ti22, ti23]
  refine wpCall.pf (pf92 x.lb z.lb z.ls) (by kernel_rfl) (by kernel_rfl) rfl rfl ?_
  simp only [go_sem, ti3, ti9, ti5, ti4, ti32, ti24, ti152, ti150, ti26, ti22, ti23]; refine hK _ _ ?_; clear hK K
  refine Wc.cond (t := (lckA x.lb != 0)) (by simp only [go_sem, ti3, ti9, ti5, ti4, ti32, ti24, ti152, ti150, ti26, ti22, ti23]) (fun hc => ?_) (fun hc => ?_)
  · have h0 : lckA x.lb ≠ 0 := by simpa using hc
    have e : serOK x = false := by unfold serOK; rw [if_pos h0]
    rw [e]
    refine Wc.seq ?_
    refine Wc.reg fun K hK => ?_; simp only [go_sem, ti3, ti9, ti5, ti4, ti32, ti24, ti152, ti150, ti26, ti22, ti23]; refine hK _ _ ?_; clear hK K
    exact Wc.ret (Pf.ret [.tmp 2] [.c (.p (.bool false))] rfl rfl (by simp only [resultsD, go_sem, ti3, ti9, ti5, ti4, ti32, ti24, ti152, ti150, ti26, ti22, ti23]) rfl)
  have h0 : ¬ lckA x.lb ≠ 0 := by simpa using hc
  have e0 : serOK x = if x.k = 3 then (x.sm.length == 0) && validH x.hs else (x.hs.length == 0) && (!(x.sm.length == 0) && (sckA x.k x.sm == 0)) := by unfold serOK; rw [if_neg h0]
  rw [e0]
  refine Wc.skip (Wc.seq (Wc.seq ?_))
  refine Wc.reg fun K hK => ?_; simp only [go_sem, ti3, ti9, ti5, ti4, ti32, ti24, ti152, ti150, ti26, ti22, ti23]; refine hK _ _ ?_; clear hK K
  refine Wc.cond (t := (x.k != 3)) (by simp only [go_sem, ti3, ti9, ti5, ti4, ti32, ti24, ti152, ti150, ti26, ti22, ti23]) (fun hc => ?_) (fun hc => ?_)
  · have h3 : ¬ x.k = 3 := by simpa using hc
    rw [if_neg h3]
    refine Wc.seq ?_
    cases hs : (x.hs.length == 0) with
    | false =>
      refine Wc.reg fun K hK => ?_; simp only [go_sem, ti3, ti9, ti5, ti4, ti32, ti24, ti152, ti150, ti26, ti22, ti23, len_beq, hs]; refine hK _ _ ?_; clear hK K
      exact Wc.ret (Pf.ret [.tmp 2] [.c (.p (.bool false))] rfl rfl (by simp only [resultsD, go_sem, ti3, ti9, ti5, ti4, ti32, ti24, ti152, ti150, ti26, ti22, ti23]) rfl)
    | true =>
      cases hm : (x.sm.length == 0) with
      | true =>
        refine Wc.reg fun K hK => ?_; simp only [go_sem, ti3, ti9, ti5, ti4, ti32, ti24, ti152, ti150, ti26, ti22, ti23, len_beq, len_pos, hs, hm]; refine hK _ _ ?_; clear hK K
        exact Wc.ret (Pf.ret [.tmp 2] [.c (.p (.bool false))] rfl rfl (by simp only [resultsD, go_sem, ti3, ti9, ti5, ti4, ti32, ti24, ti152, ti150, ti26, ti22, ti23]) rfl)
      | false =>
        refine Wc.reg fun K hK => ?_; simp only [go_sem, ti3, ti9, ti5, ti4, ti32, ti24, ti152, ti150, ti26, ti22, ti23, len_beq, len_pos, hs, hm]
        refine wpCall.pf (pf93 x.k x.sm z.sm) (by kernel_rfl) (by kernel_rfl) rfl rfl ?_
        simp only [go_sem, ti3, ti9, ti5, ti4, ti32, ti24, ti152, ti150, ti26, ti22, ti23, len_beq, len_pos, hs, hm]; refine hK _ _ ?_; clear hK K
        exact Wc.ret (Pf.ret [.tmp 2] [.c (.p (.bool (sckA x.k x.sm == 0)))] rfl rfl (by simp only [resultsD, go_sem, ti3, ti9, ti5, ti4, ti32, ti24, ti152, ti150, ti26, ti22, ti23]) rfl)
  have h3 : x.k = 3 := by simpa using hc
  rw [if_pos h3]
  refine Wc.skip (Wc.seqR (fun y => (x.sm.length = 0 ∧ x.hs.length ≠ 0 ∧ x.hs.length ≤ 2000) ∧ y.ds = [] ∧ y.e.length = 88 ∧ y.e.getD 1 .junk = .v (.c (.ref 0 0)) ∧ OA y.s.nx y.s [] [(0, .cells (x.pd.map .p) false)]) ?_ ?_)
  · refine Wc.seq ?_
    cases hm : (x.sm.length == 0) with
    | false =>
      rw [Bool.false_and]
      refine Wc.reg fun K hK => ?_; simp only [go_sem, ti3, ti9, ti5, ti4, ti32, ti24, ti152, ti150, ti26, ti22, ti23, len_beq, len_pos, hm]; refine hK _ _ ?_; clear hK K
      refine Wc.cond (t := true) (by simp only [go_sem, ti3, ti9, ti5, ti4, ti32, ti24, ti152, ti150, ti26, ti22, ti23]) (fun _ => ?_) (fun hc => by cases hc)
      refine Wc.seq ?_
      refine Wc.reg fun K hK => ?_; simp only [go_sem, ti3, ti9, ti5, ti4, ti32, ti24, ti152, ti150, ti26, ti22, ti23]; refine hK _ _ ?_; clear hK K
      exact Wc.ret (Pf.ret [.tmp 2] [.c (.p (.bool false))] rfl rfl (by simp only [resultsD, go_sem, ti3, ti9, ti5, ti4, ti32, ti24, ti152, ti150, ti26, ti22, ti23]) rfl)
    | true =>
      have y1 : x.sm.length = 0 := by simpa using hm
      cases hs : (x.hs.length == 0) with
      | true =>
        have y2 : x.hs.length = 0 := by simpa using hs
        rw [validH_bad (by omega), Bool.and_false]
        refine Wc.reg fun K hK => ?_; simp only [go_sem, ti3, ti9, ti5, ti4, ti32, ti24, ti152, ti150, ti26, ti22, ti23, len_beq, len_pos, hm, hs]; refine hK _ _ ?_; clear hK K
        refine Wc.cond (t := true) (by simp only [go_sem, ti3, ti9, ti5, ti4, ti32, ti24, ti152, ti150, ti26, ti22, ti23]) (fun _ => ?_) (fun hc => by cases hc)
        refine Wc.seq ?_
        refine Wc.reg fun K hK => ?_; simp only [go_sem, ti3, ti9, ti5, ti4, ti32, ti24, ti152, ti150, ti26, ti22, ti23]; refine hK _ _ ?_; clear hK K
        exact Wc.ret (Pf.ret [.tmp 2] [.c (.p (.bool false))] rfl rfl (by simp only [resultsD, go_sem, ti3, ti9, ti5, ti4, ti32, ti24, ti152, ti150, ti26, ti22, ti23]) rfl)
      | false =>
        have y2 : x.hs.length ≠ 0 := by rw [beq_eq_false_iff_ne] at hs; exact hs
        refine Wc.reg fun K hK => ?_; simp only [go_sem, ti3, ti9, ti5, ti4, ti32, ti24, ti152, ti150, ti26, ti22, ti23, len_beq, len_pos, hm, hs]; refine hK _ _ ?_; clear hK K
        refine Wc.cond (t := decide ((2000 : Int) < x.hs.length)) (by simp only [go_sem, ti3, ti9, ti5, ti4, ti32, ti24, ti152, ti150, ti26, ti22, ti23]) (fun hc => ?_) (fun hc => ?_)
        · have y3 : (2000 : Int) < x.hs.length := of_decide_eq_true hc
          rw [validH_bad (by omega), Bool.and_false]
          refine Wc.seq ?_
          refine Wc.reg fun K hK => ?_; simp only [go_sem, ti3, ti9, ti5, ti4, ti32, ti24, ti152, ti150, ti26, ti22, ti23]; refine hK _ _ ?_; clear hK K
          exact Wc.ret (Pf.ret [.tmp 2] [.c (.p (.bool false))] rfl rfl (by simp only [resultsD, go_sem, ti3, ti9, ti5, ti4, ti32, ti24, ti152, ti150, ti26, ti22, ti23]) rfl)
        · have y3 : ¬ (2000 : Int) < x.hs.length := of_decide_eq_false hc
          refine Wc.skip ⟨by omega, rfl, rfl, rfl, ?_⟩
          have o0 := (s00_oa.adv (n := 2)).new (k := 0) (o := .cells (x.pd.map .p) false) (Nat.le_refl _) rfl
          refine OA.mono (b := 0 + 1) ?_ (by simp only [St.nx_adv, St.nx_put]; omega)
          repeat refine OA.adv ?_
          exact o0
  rintro ⟨e, ds, s1⟩ ⟨⟨z1, z2, z3⟩, rfl, hlen, h1, ho⟩
  simp only at hlen h1 ho
  have e1 : ((x.sm.length == 0) && validH x.hs) = vh (prevH x.hs 0) (x.hs.drop 0) := by
    unfold validH
    have b1 : (x.hs.length == 0) = false := by rw [beq_eq_false_iff_ne]; exact z2
    have b2 : (x.sm.length == 0) = true := by simpa using z1
    rw [b1, b2, decide_eq_true z3]; rfl
  rw [e1]
  have eP : vh (prevH x.hs 0) (x.hs.drop 0) = vh (prevH x.hs 0) (x.hs.drop 0) := rfl
  generalize hV : vh (prevH x.hs 0) (x.hs.drop 0) = VV at eP ⊢
  refine Wc.seqR (fun y => VV = true ∧ y.ds = [] ∧ y.e.length = 88) ?_ ?_
  · refine Wc.seq ?_
    refine Wc.reg fun K hK => ?_; simp only [go_sem, ti3, ti9, ti5, ti4, ti32, ti24, ti152, ti150, ti26, ti22, ti23, hlen, h1, Int.natCast_zero]; refine hK _ _ ?_; clear hK K
    refine Wc.block (Wc.loop (fun k y => ∃ i : Nat, k = x.hs.length - i ∧ i ≤ x.hs.length ∧ y.ds = [] ∧ y.e.length = 88 ∧ y.e.getD 1 .junk = .v (.c (.ref 0 0)) ∧ y.e.getD 3 .junk = P' (pI i) ∧ OA y.s.nx y.s [] [(0, .cells (x.pd.map .p) false)] ∧ VV = vh (prevH x.hs i) (x.hs.drop i) ∧ (0 < i → 1 ≤ prevH x.hs i)) ?_ (k := x.hs.length) ?_)
    · clear hlen h1 ho e s1
      rintro k ⟨e, ds, s1⟩ ⟨i, rfl, hi, rfl, hlen, h1, h3, ho, hch, hpos⟩
      simp only at hlen h1 h3 ho
      have g0 := ho.at_ (0, .cells (x.pd.map .p) false) (by simp)
      simp only [List.map_cons, List.map_nil] at g0
      refine Wc.seq (Wc.seq ?_)
      refine Wc.reg fun K hK => ?_; simp only [go_sem, ti3, ti9, ti5, ti4, ti32, ti24, ti152, ti150, ti26, ti22, ti23, hlen, h1, h3, g0]; refine hK _ _ ?_; clear hK K
      refine Wc.cond (t := decide ((i : Int) < x.hs.length)) (by simp only [go_sem, ti3, ti9, ti5, ti4, ti32, ti24, ti152, ti150, ti26, ti22, ti23, hlen]) (fun hc => ?_) (fun hc => ?_)
      · have hil : i < x.hs.length := by have : (i : Int) < x.hs.length := by simpa using hc
                                         omega
        obtain ⟨u, hu⟩ : ∃ u, x.hs[i]? = some u := ⟨x.hs[i], List.getElem?_eq_getElem hil⟩
        have hix := ixA ti24 rfl ti152 (j := i) (m := x.hs.length) (cs := x.hs.flatMap HSm.pd) hil hfl (by decide)
        have hca := rpA (off := i * 7) (drop_flat (f := HSm.pd) (k := 7) (fun _ => rfl) hu) (by rw [hfl]; omega)
        rw [vh_step hu] at hch
        have bad : (u.t ≤ prevH x.hs i ∨ 1099511627776 < u.t ∨ hck u.h ≠ 0) → VV = false := fun h => by rw [hch, if_pos h]
        refine Wc.skip (Wc.seq (Wc.block (Wc.seqA (fun y => ∃ k4, y.ds = [] ∧ y.e.length = 88 ∧ y.e.getD 1 .junk = .v (.c (.ref 0 0)) ∧ y.e.getD 3 .junk = P' (pI i) ∧ y.e.getD 4 .junk = .v (.c (.ref k4 0)) ∧ OA y.s.nx y.s [] [(k4, .cells (u.pd.map .p) false), (0, .cells (x.pd.map .p) false)]) ?_ ?_)))
        · refine Wc.reg fun K hK => ?_; simp only [go_sem, ti3, ti9, ti5, ti4, ti32, ti24, ti152, ti150, ti26, ti22, ti23, hlen, h1, h3, g0, hix, hca]; refine hK _ _ ?_; clear hK K
          refine ⟨rfl, s1.nx + 10, rfl, by simp only [go_sem, ti3, ti9, ti5, ti4, ti32, ti24, ti152, ti150, ti26, ti22, ti23, hlen], by simp only [go_sem, ti3, ti9, ti5, ti4, ti32, ti24, ti152, ti150, ti26, ti22, ti23, hlen, h1], by simp only [go_sem, ti3, ti9, ti5, ti4, ti32, ti24, ti152, ti150, ti26, ti22, ti23, hlen, h3], by simp only [go_sem, ti3, ti9, ti5, ti4, ti32, ti24, ti152, ti150, ti26, ti22, ti23, hlen], ?_⟩
          have q1 := OA.set (M1 := []) (o' := .cells (u.pd.map .p) false) (((ho.adv (n := 5)).adv (n := 7)).new (k := s1.nx + 10) (o := .cells [.p (.int .i64 0), .p (.int .i64 0), .p (.int .i64 0), .p (.int .i64 0), .p (.int .i64 0), .p (.int .i64 0), .nils] false) (by omega) rfl) rfl
          exact q1.mono (by simp only [St.nx_put, St.nx_adv]; omega)
        clear hlen h1 h3 ho e s1 hc g0
        rintro ⟨e, ds, s1⟩ ⟨k4, rfl, hlen, h1, h3, h4, ho⟩
        simp only at hlen h1 h3 h4 ho
        have g4 := ho.at_ (k4, .cells (u.pd.map .p) false) (by simp)
        have g0 := ho.at_ (0, .cells (x.pd.map .p) false) (by simp)
        simp only [List.map_cons, List.map_nil] at g4 g0
        refine Wc.mono (Q := fun ex y => (ex = .ret ∧ VV = false ∧ y.ds = [] ∧ y.e.length = 88 ∧ y.e.getD 2 .junk = P' (.bool false)) ∨ (ex = .normal ∧ ¬ (u.t ≤ prevH x.hs i ∨ 1099511627776 < u.t ∨ hck u.h ≠ 0) ∧ y.ds = [] ∧ y.e.length = 88 ∧ y.e.getD 1 .junk = .v (.c (.ref 0 0)) ∧ y.e.getD 3 .junk = P' (pI i) ∧ ∃ n, y.s = s1.adv n)) ?_ ?_
        · refine Wc.seq ?_
          have out : ∀ {P : Prop}, P → P := id
          by_cases y1 : u.t < 1
          · refine Wc.regD fun K hK => ?_; simp only [go_sem, ti3, ti9, ti5, ti4, ti32, ti24, ti152, ti150, ti26, ti22, ti23, hlen, h1, h3, h4, g4, g0, y1]; refine hK _ _ ?_; clear hK K
            refine Wc.cond (t := true) (by simp only [go_sem, ti3, ti9, ti5, ti4, ti32, ti24, ti152, ti150, ti26, ti22, ti23, hlen]) (fun _ => ?_) (fun hc => by cases hc)
            refine Wc.seq ?_
            refine Wc.reg fun K hK => ?_; simp only [go_sem, ti3, ti9, ti5, ti4, ti32, ti24, ti152, ti150, ti26, ti22, ti23, hlen]; refine hK _ _ ?_; clear hK K
            refine Wc.ret (.inl ⟨rfl, bad (.inl ?_), rfl, by simp only [go_sem, ti3, ti9, ti5, ti4, ti32, ti24, ti152, ti150, ti26, ti22, ti23, hlen], by simp only [go_sem, ti3, ti9, ti5, ti4, ti32, ti24, ti152, ti150, ti26, ti22, ti23, hlen]⟩)
            by_cases hi0 : 0 < i
            · have := hpos hi0; omega
            · have hpr : prevH x.hs i = 0 := by unfold prevH; rw [if_pos (by omega)]
              omega
          by_cases y2 : 1099511627776 < u.t
          · refine Wc.regD fun K hK => ?_; simp only [go_sem, ti3, ti9, ti5, ti4, ti32, ti24, ti152, ti150, ti26, ti22, ti23, hlen, h1, h3, h4, g4, g0, y1, y2]; refine hK _ _ ?_; clear hK K
            refine Wc.cond (t := true) (by simp only [go_sem, ti3, ti9, ti5, ti4, ti32, ti24, ti152, ti150, ti26, ti22, ti23, hlen]) (fun _ => ?_) (fun hc => by cases hc)
            refine Wc.seq ?_
            refine Wc.reg fun K hK => ?_; simp only [go_sem, ti3, ti9, ti5, ti4, ti32, ti24, ti152, ti150, ti26, ti22, ti23, hlen]; refine hK _ _ ?_; clear hK K
            exact Wc.ret (.inl ⟨rfl, bad (.inr (.inl y2)), rfl, by simp only [go_sem, ti3, ti9, ti5, ti4, ti32, ti24, ti152, ti150, ti26, ti22, ti23, hlen], by simp only [go_sem, ti3, ti9, ti5, ti4, ti32, ti24, ti152, ti150, ti26, ti22, ti23, hlen]⟩)
          by_cases hi0 : 0 < i
          · obtain ⟨w, hw⟩ : ∃ w, x.hs[i - 1]? = some w := ⟨x.hs[i - 1], List.getElem?_eq_getElem (by omega)⟩
            have hiy := ixA ti24 rfl ti152 (j := i - 1) (m := x.hs.length) (cs := x.hs.flatMap HSm.pd) (by omega) hfl (by decide)
            have hcb := rpA (off := (i - 1) * 7) (drop_flat (f := HSm.pd) (k := 7) (fun _ => rfl) hw) (by rw [hfl]; omega)
            have e3 : IntKind.i64.wrap ((i : Int) - 1) = ((i - 1 : Nat) : Int) := by rw [wi64]; omega
            have hd : (0 < (i : Int)) = True := by simp; omega
            have hpr : prevH x.hs i = w.t := by unfold prevH; rw [if_neg (by omega), hw]; rfl
            by_cases y3 : u.t ≤ w.t
            · refine Wc.regD fun K hK => ?_; simp only [go_sem, ti3, ti9, ti5, ti4, ti32, ti24, ti152, ti150, ti26, ti22, ti23, hlen, h1, h3, h4, g4, g0, y1, y2, y3, hiy, hcb, e3, hd]; refine hK _ _ ?_; clear hK K
              refine Wc.cond (t := true) (by simp only [go_sem, ti3, ti9, ti5, ti4, ti32, ti24, ti152, ti150, ti26, ti22, ti23, hlen]) (fun _ => ?_) (fun hc => by cases hc)
              refine Wc.seq ?_
              refine Wc.reg fun K hK => ?_; simp only [go_sem, ti3, ti9, ti5, ti4, ti32, ti24, ti152, ti150, ti26, ti22, ti23, hlen]; refine hK _ _ ?_; clear hK K
              exact Wc.ret (.inl ⟨rfl, bad (.inl (by omega)), rfl, by simp only [go_sem, ti3, ti9, ti5, ti4, ti32, ti24, ti152, ti150, ti26, ti22, ti23, hlen], by simp only [go_sem, ti3, ti9, ti5, ti4, ti32, ti24, ti152, ti150, ti26, ti22, ti23, hlen]⟩)
            refine Wc.regD fun K hK => ?_; simp only [go_sem, ti3, ti9, ti5, ti4, ti32, ti24, ti152, ti150, ti26, ti22, ti23, hlen, h1, h3, h4, g4, g0, y1, y2, y3, hiy, hcb, e3, hd]
            refine ⟨by simp [o94, x94, plainD, plainV, plainC], ?_⟩
            refine wpCall.pf (pf94 u.h (z.hb u (List.mem_of_getElem? hu))) (by kernel_rfl) (by kernel_rfl) rfl rfl ?_
            simp only [go_sem, ti3, ti9, ti5, ti4, ti32, ti24, ti152, ti150, ti26, ti22, ti23, hlen, h1, h3, h4, g4, g0, y1, y2, y3, hiy, hcb, e3, hd]; refine hK _ _ ?_; clear hK K
            refine Wc.cond (t := (hck u.h != 0)) (by simp only [go_sem, ti3, ti9, ti5, ti4, ti32, ti24, ti152, ti150, ti26, ti22, ti23, hlen]) (fun hc => ?_) (fun hc => ?_)
            · refine Wc.seq ?_
              refine Wc.reg fun K hK => ?_; simp only [go_sem, ti3, ti9, ti5, ti4, ti32, ti24, ti152, ti150, ti26, ti22, ti23, hlen]; refine hK _ _ ?_; clear hK K
              exact Wc.ret (.inl ⟨rfl, bad (.inr (.inr (by simpa using hc))), rfl, by simp only [go_sem, ti3, ti9, ti5, ti4, ti32, ti24, ti152, ti150, ti26, ti22, ti23, hlen], by simp only [go_sem, ti3, ti9, ti5, ti4, ti32, ti24, ti152, ti150, ti26, ti22, ti23, hlen]⟩)
            · have y4 : hck u.h = 0 := by simpa using hc
              exact Wc.skip (.inr ⟨rfl, by omega, rfl, by simp only [go_sem, ti3, ti9, ti5, ti4, ti32, ti24, ti152, ti150, ti26, ti22, ti23, hlen], by simp only [go_sem, ti3, ti9, ti5, ti4, ti32, ti24, ti152, ti150, ti26, ti22, ti23, hlen, h1], by simp only [go_sem, ti3, ti9, ti5, ti4, ti32, ti24, ti152, ti150, ti26, ti22, ti23, hlen, h3], _, rfl⟩)
          · have hd : (0 < (i : Int)) = False := by simp; omega
            have hpr : prevH x.hs i = 0 := by unfold prevH; rw [if_pos (by omega)]
            refine Wc.regD fun K hK => ?_; simp only [go_sem, ti3, ti9, ti5, ti4, ti32, ti24, ti152, ti150, ti26, ti22, ti23, hlen, h1, h3, h4, g4, g0, y1, y2, hd]
            refine ⟨by simp [o94, x94, plainD, plainV, plainC], ?_⟩
            refine wpCall.pf (pf94 u.h (z.hb u (List.mem_of_getElem? hu))) (by kernel_rfl) (by kernel_rfl) rfl rfl ?_
            simp only [go_sem, ti3, ti9, ti5, ti4, ti32, ti24, ti152, ti150, ti26, ti22, ti23, hlen, h1, h3, h4, g4, g0, y1, y2, hd]; refine hK _ _ ?_; clear hK K
            refine Wc.cond (t := (hck u.h != 0)) (by simp only [go_sem, ti3, ti9, ti5, ti4, ti32, ti24, ti152, ti150, ti26, ti22, ti23, hlen]) (fun hc => ?_) (fun hc => ?_)
            · refine Wc.seq ?_
              refine Wc.reg fun K hK => ?_; simp only [go_sem, ti3, ti9, ti5, ti4, ti32, ti24, ti152, ti150, ti26, ti22, ti23, hlen]; refine hK _ _ ?_; clear hK K
              exact Wc.ret (.inl ⟨rfl, bad (.inr (.inr (by simpa using hc))), rfl, by simp only [go_sem, ti3, ti9, ti5, ti4, ti32, ti24, ti152, ti150, ti26, ti22, ti23, hlen], by simp only [go_sem, ti3, ti9, ti5, ti4, ti32, ti24, ti152, ti150, ti26, ti22, ti23, hlen]⟩)
            · have y4 : hck u.h = 0 := by simpa using hc
              exact Wc.skip (.inr ⟨rfl, by omega, rfl, by simp only [go_sem, ti3, ti9, ti5, ti4, ti32, ti24, ti152, ti150, ti26, ti22, ti23, hlen], by simp only [go_sem, ti3, ti9, ti5, ti4, ti32, ti24, ti152, ti150, ti26, ti22, ti23, hlen, h1], by simp only [go_sem, ti3, ti9, ti5, ti4, ti32, ti24, ti152, ti150, ti26, ti22, ti23, hlen, h3], _, rfl⟩)
        clear hlen h1 h3 h4 e
        rintro ex ⟨e, ds, s2⟩ h9
        rcases h9 with ⟨rfl, hvf, rfl, hlen, h2⟩ | ⟨rfl, hz, rfl, hlen, h1, h3, n1, rfl⟩
        · simp only at hlen h2
          rw [hvf]
          exact Pf.ret [.tmp 2] [.c (.p (.bool false))] rfl rfl (by simp only [resultsD, go_sem, ti3, ti9, ti5, ti4, ti32, ti24, ti152, ti150, ti26, ti22, ti23, hlen, h2]) rfl
        simp only at hlen h1 h3
        rw [if_neg hz] at hch
        have hpb : prevH x.hs (i + 1) = u.t := by simp [prevH, hu]
        have hpge : 0 ≤ prevH x.hs i := by
          by_cases hi0 : 0 < i
          · have := hpos hi0; omega
          · unfold prevH; rw [if_pos (by omega)]; omega
        refine Wc.reg fun K hK => ?_; simp only [go_sem, ti3, ti9, ti5, ti4, ti32, ti24, ti152, ti150, ti26, ti22, ti23, hlen, h1, h3, i64n i (by omega)]; refine hK _ _ ?_; clear hK K
        refine ⟨x.hs.length - (i + 1), by omega, i + 1, rfl, by omega, rfl, by simp only [go_sem, ti3, ti9, ti5, ti4, ti32, ti24, ti152, ti150, ti26, ti22, ti23, hlen], by simp only [go_sem, ti3, ti9, ti5, ti4, ti32, ti24, ti152, ti150, ti26, ti22, ti23, hlen, h1], by simp only [go_sem, ti3, ti9, ti5, ti4, ti32, ti24, ti152, ti150, ti26, ti22, ti23, hlen], ?_, hch, fun _ => by omega⟩
        have q1 := ho.sub (List.Sublist.refl _) (List.sublist_cons_self _ _)
        refine OA.mono (b := s1.nx) ?_ (by simp only [St.nx_adv]; omega)
        repeat refine OA.adv ?_
        exact q1
      · have hil : i = x.hs.length := by have : ¬ (i : Int) < x.hs.length := by simpa using hc
                                         omega
        rw [hil, List.drop_length] at hch
        exact Wc.exit ⟨hch, rfl, by simp only [go_sem, ti3, ti9, ti5, ti4, ti32, ti24, ti152, ti150, ti26, ti22, ti23, hlen]⟩
    · refine ⟨0, rfl, by omega, rfl, by simp only [go_sem, ti3, ti9, ti5, ti4, ti32, ti24, ti152, ti150, ti26, ti22, ti23, hlen], by simp only [go_sem, ti3, ti9, ti5, ti4, ti32, ti24, ti152, ti150, ti26, ti22, ti23, hlen, h1], by simp only [go_sem, ti3, ti9, ti5, ti4, ti32, ti24, ti152, ti150, ti26, ti22, ti23, hlen]; rfl, ?_, hV.symm, fun h => by omega⟩
      refine OA.mono (b := s1.nx) ?_ (by simp only [St.nx_adv]; omega)
      repeat refine OA.adv ?_
      exact ho
  · rintro ⟨e, ds, s1⟩ ⟨hch, rfl, hlen⟩
    simp only at hlen
    rw [hch]
    refine Wc.seq ?_
    refine Wc.reg fun K hK => ?_; simp only [go_sem, ti3, ti9, ti5, ti4, ti32, ti24, ti152, ti150, ti26, ti22, ti23, hlen]; refine hK _ _ ?_; clear hK K
    exact Wc.ret (Pf.ret [.tmp 2] [.c (.p (.bool true))] rfl rfl (by simp only [resultsD, go_sem, ti3, ti9, ti5, ti4, ti32, ti24, ti152, ti150, ti26, ti22, ti23, hlen]) rfl)
end Go.Proofs.YtedcnhbblgmdnaaGreat.Ab
