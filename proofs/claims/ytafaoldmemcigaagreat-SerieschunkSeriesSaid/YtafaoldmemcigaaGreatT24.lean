/- A part of the proof: an evaluator of the code, its contracts, the law. No condition. -/
import Derived.Test.YtafaoldmemcigaaGreatT23
namespace Go.Proofs.YtafaoldmemcigaaGreat.Ab
set_option maxHeartbeats 8000000
set_option maxRecDepth 10000
set_option linter.unusedSimpArgs false
set_option linter.unusedVariables false
theorem sumI_zero {f : Nat → Int × Int → Int} : ∀ {l : List (Int × Int)} {i : Nat}, (∀ (j : Nat) (b : Int × Int), l[j]? = some b → f (i + j) b = 0) → sumI f i l = 0
  | [], i, h => rfl
  | b :: r, i, h => by
    have h1 : f i b = 0 := h 0 b rfl
    have h2 : sumI f (i + 1) r = 0 := sumI_zero fun j c hj => by
      have h3 := h (j + 1) c (by simpa using hj)
      have e : i + 1 + j = i + (j + 1) := by omega
      rw [e]; exact h3
    simp only [sumI, h1, h2]; rfl
theorem o148 : E0.opn 148 = false := by kernel_rfl
theorem x148 : E0.xt 148 = none := by kernel_rfl
/-- What a histogram's reference functions ask. -/
structure HCx (h : Hst) (q : Nat) : Prop where
  q8 : q ≤ 8
  p : h.p = q
  bs : BsOK q h.bs
  n : h.bs.length ≤ 500
  c : cnt h.bs ≤ 1048576
  a : 0 ≤ h.mn
  b : h.mn ≤ h.mx
  d : h.mx ≤ 1099511627776
theorem HCx.cnt_take {h : Hst} {q : Nat} (x : HCx h q) (i : Nat) : 0 ≤ cnt (h.bs.take i) ∧ cnt (h.bs.take i) ≤ 1048576 := by
  have := cnt_le x.bs.cn i
  have := x.c
  omega
theorem HCx.lo {h : Hst} {q : Nat} (x : HCx h q) {b : I2} (hb : b ∈ h.bs) : b.1.toNat ≤ (41 - q) * 2 ^ q ∧ (Go.Proofs.YtafaoldmemcigaaGreat.Ab.lo q b.1.toNat : Int) ≤ 1099511627776 ∧ (hi q b.1.toNat : Int) ≤ 1099511627776 ∧ 1 ≤ b.2 ∧ 0 ≤ b.1 := by
  have h0 := x.bs.lo0 b hb
  have h1 : b.1.toNat ≤ (41 - q) * 2 ^ q := by omega
  have h2 := lo_last x.q8 h1
  have h3 : hi q b.1.toNat ≤ 1099511627776 := Nat.min_le_right _ _
  have h4 := x.bs.cn b hb
  omega
theorem HCx.lowR {h : Hst} {q : Nat} (x : HCx h q) {i : Nat} {b : I2} (hb : b ∈ h.bs) : 0 ≤ lowR q h.mn i b ∧ lowR q h.mn i b ≤ 1099511627776 := by
  have h1 := x.lo hb
  have := x.a; have := x.b; have := x.d
  unfold Go.Proofs.YtafaoldmemcigaaGreat.Ab.lowR
  split <;> omega
theorem HCx.highR {h : Hst} {q : Nat} (x : HCx h q) {i : Nat} {b : I2} (hb : b ∈ h.bs) : 0 ≤ highR q h.mx h.bs.length i b ∧ highR q h.mx h.bs.length i b ≤ 1099511627776 := by
  have h1 := x.lo hb
  have := x.a; have := x.b; have := x.d
  unfold Go.Proofs.YtafaoldmemcigaaGreat.Ab.highR
  split <;> omega
theorem HCx.mulB {h : Hst} {q : Nat} (x : HCx h q) {g : Nat → I2 → Int} (hg : ∀ (i : Nat) (b : I2), b ∈ h.bs → 0 ≤ g i b ∧ g i b ≤ 1099511627776) (i : Nat) : 0 ≤ sumI (fun i b => g i b * b.2) 0 (h.bs.take i) ∧ sumI (fun i b => g i b * b.2) 0 (h.bs.take i) ≤ 1099511627776 * cnt (h.bs.take i) := by
  refine sumI_bound (m := 1099511627776) fun j c hc => ?_
  have hcm := List.mem_of_mem_take (List.mem_of_getElem? hc)
  have h1 := hg (0 + j) c hcm
  have h2 := x.bs.cn c hcm
  exact ⟨Int.mul_nonneg h1.1 (by omega), Int.mul_le_mul_of_nonneg_right h1.2 (by omega)⟩
/-- 133: the reference's least -/
theorem pf133 (h : Hst) (q : Nat) (x : HCx h q) : Pf E0 133 [.agg (h.pd.map .p)] (P' (pI (leastR q h.mn h.mx h.bs))) := by
  have hfl : (h.bs.flatMap p2).length = h.bs.length * 2 := flat_len (k := 2) (fun _ => rfl) _
  have xa := x.a
  have xb := x.b
  have xd := x.d
  have xn := x.n
  have w0 : IntKind.i64.wrap (h.mx - h.mn) = (h.mx - h.mn) := by rw [wi64]; omega
  refine Pf.body (fn := Tryz.f133) (by kernel_rfl) rfl ?_; simp only [List.map_cons, List.map_nil, List.cons_append, List.nil_append, List.length_cons, List.length_nil, Tryz.ntmps133, List.replicate, Nat.reduceSub, Nat.reduceAdd]
  refine Wc.seq ?_
  refine Wc.reg fun K hK => ?_; simp only [go_sem, ti3, ti9, ti5, ti4, ti35, ti53, ti55, ti83, x.p]; refine hK _ _ ?_; clear hK K
  refine Wc.seq ?_
  refine Wc.reg fun K hK => ?_; simp only [go_sem, ti3, ti9, ti5, ti4, ti35, ti53, ti55, ti83, w0]; refine hK _ _ ?_; clear hK K
  refine Wc.seq (Wc.seq ?_)
  refine Wc.reg fun K hK => ?_; simp only [go_sem, ti3, ti9, ti5, ti4, ti35, ti53, ti55, ti83, Int.natCast_zero]; refine hK _ _ ?_; clear hK K
  refine Wc.block (Wc.loop (fun k y => ∃ (i : Nat) (o : Int), k = h.bs.length - i ∧ i ≤ h.bs.length ∧ y.ds = [] ∧ y.e.length = 58 ∧ y.e.getD 1 .junk = .v (.c (.ref 0 0)) ∧ y.e.getD 3 .junk = P' (pI o) ∧ y.e.getD 4 .junk = P' (pI i) ∧ y.s.get 0 = some (.cells [.p (pI q), .p (pI h.c), .p (pI h.s), .p (pI h.mn), .p (pI h.mx), .p (.lst h.bs.length (h.bs.flatMap p2))] false) ∧ o = (h.mx - h.mn) + sumI (termL q h.mn h.bs.length) 0 (h.bs.take i)) ?_ (k := h.bs.length) ?_)
  · rintro k ⟨e, ds, s1⟩ ⟨i, o, rfl, hi, rfl, hlen, h1, h3, h4, g0, ho⟩
    simp only at hlen h1 h3 h4 g0
    refine Wc.seq (Wc.seq ?_)
    refine Wc.reg fun K hK => ?_; simp only [go_sem, ti3, ti9, ti5, ti4, ti35, ti53, ti55, ti83, hlen, h1, h3, h4, g0]; refine hK _ _ ?_; clear hK K
    refine Wc.cond (t := decide ((i : Int) < h.bs.length)) (by simp only [go_sem, ti3, ti9, ti5, ti4, ti35, ti53, ti55, ti83, hlen]) (fun hc => ?_) (fun hc => ?_)
    · have hil : i < h.bs.length := by have : (i : Int) < h.bs.length := by simpa using hc
                                       omega
      obtain ⟨b, hb⟩ : ∃ b, h.bs[i]? = some b := ⟨h.bs[i], List.getElem?_eq_getElem hil⟩
      have hbm := List.mem_of_getElem? hb
      obtain ⟨b1, b2, b3, b4, b5⟩ := x.lo hbm
      have hbi : b.1 = ((b.1.toNat : Nat) : Int) := by omega
      have hix := ixA ti53 rfl ti83 (j := i) (m := h.bs.length) (cs := h.bs.flatMap p2) hil hfl (by decide)
      have hca := rpA (off := i * 2) (drop_flat (f := p2) (k := 2) (fun _ => rfl) hb) (by rw [hfl]; omega)
      have hce := rpA (off := i * 2 + 1) (cs := h.bs.flatMap p2) (pre := [pI b.2]) (rest := (h.bs.drop (i + 1)).flatMap p2) (by rw [← List.drop_drop, drop_flat (f := p2) (k := 2) (fun _ => rfl) hb]; rfl) (by rw [hfl]; omega)
      have el1 : IntKind.i64.wrap ((h.bs.length : Int) - 1) = ((h.bs.length - 1 : Nat) : Int) := by rw [wi64]; omega
      have c1 := x.cnt_take i
      have c2 := x.cnt_take (i + 1)
      have c3 : cnt (h.bs.take (i + 1)) = cnt (h.bs.take i) + b.2 := sumI_take hb
      have hR := x.lowR (i := i) hbm
      have sB := x.mulB (g := (lowR q h.mn)) (fun i b hb => x.lowR hb) i
      have sT : sumI (termL q h.mn h.bs.length) 0 (h.bs.take (i + 1)) = sumI (termL q h.mn h.bs.length) 0 (h.bs.take i) + (termL q h.mn h.bs.length i b) := sumI_take hb
      have sD : ∃ d, -1099511627776 ≤ d ∧ d ≤ 1099511627776 ∧ sumI (termL q h.mn h.bs.length) 0 (h.bs.take i) = sumI (fun i b => lowR q h.mn i b * b.2) 0 (h.bs.take i) + d := by
        have e9 : sumI (termL q h.mn h.bs.length) 0 (h.bs.take i) = sumI (fun i b => lowR q h.mn i b * b.2) 0 (h.bs.take i) + sumI (fun i b => if i + 1 = h.bs.length then h.mn - lowR q h.mn i b else 0) 0 (h.bs.take i) := sumI_add _ _ _ _
        rw [sumI_zero (f := fun i b => if i + 1 = h.bs.length then h.mn - lowR q h.mn i b else 0) fun j c hj => by
          have hj1 := (List.getElem?_eq_some_iff.1 hj).1
          simp only [List.length_take] at hj1
          rw [if_neg (by omega)]] at e9
        exact ⟨0, by decide, by decide, e9⟩
      obtain ⟨d, d1, d2, sD⟩ := sD
      have tB : (termL q h.mn h.bs.length i b) = (lowR q h.mn i b) * b.2 + (if i + 1 = h.bs.length then h.mn - (lowR q h.mn i b) else 0) := rfl
      have X0 : 0 ≤ (lowR q h.mn i b) * b.2 := Int.mul_nonneg (by omega) (by omega)
      have X1 : (lowR q h.mn i b) * b.2 ≤ 1099511627776 * b.2 := Int.mul_le_mul_of_nonneg_right (by omega) (by omega)
      refine Wc.skip (Wc.seq (Wc.block (Wc.seq ?_)))
      refine Wc.regD fun K hK => ?_; simp only [go_sem, ti3, ti9, ti5, ti4, ti35, ti53, ti55, ti83, hlen, h1, h3, h4, g0, hix, hca]
      refine ⟨by simp [o148, x148, plainD, plainV, plainC], ?_⟩
      rw [hbi]
      refine wpCall.pf (pf148 q b.1.toNat x.q8 b1) (by kernel_rfl) (by kernel_rfl) rfl rfl ?_
      rw [← hbi]
      simp only [go_sem, ti3, ti9, ti5, ti4, ti35, ti53, ti55, ti83, hlen, h1, h3, h4, g0, hix, hca]; refine hK _ _ ?_; clear hK K
      refine Wc.seqA (fun y => y.ds = [] ∧ y.e.length = 58 ∧ y.e.getD 1 .junk = .v (.c (.ref 0 0)) ∧ y.e.getD 3 .junk = P' (pI o) ∧ y.e.getD 4 .junk = P' (pI i) ∧ y.e.getD 5 .junk = P' (pI ((lowR q h.mn i b))) ∧ y.s.get 0 = some (.cells [.p (pI q), .p (pI h.c), .p (pI h.s), .p (pI h.mn), .p (pI h.mx), .p (.lst h.bs.length (h.bs.flatMap p2))] false)) ?_ ?_
      · refine Wc.seq ?_
        refine Wc.reg fun K hK => ?_; simp only [go_sem, ti3, ti9, ti5, ti4, ti35, ti53, ti55, ti83, hlen, h1, h3, h4, g0, el1]; refine hK _ _ ?_; clear hK K
        refine Wc.cond (t := ((i : Int) == 0)) (by simp only [go_sem, ti3, ti9, ti5, ti4, ti35, ti53, ti55, ti83, hlen]) (fun hc => ?_) (fun hc => ?_)
        · have hc1 : i = 0 := by simp at hc; omega
          refine Wc.reg fun K hK => ?_; simp only [go_sem, ti3, ti9, ti5, ti4, ti35, ti53, ti55, ti83, hlen, h1, h3, h4, g0]; refine hK _ _ ?_; clear hK K
          exact ⟨rfl, rfl, by simp only [go_sem, ti3, ti9, ti5, ti4, ti35, ti53, ti55, ti83, hlen], by simp only [go_sem, ti3, ti9, ti5, ti4, ti35, ti53, ti55, ti83, hlen, h1], by simp only [go_sem, ti3, ti9, ti5, ti4, ti35, ti53, ti55, ti83, hlen, h3], by simp only [go_sem, ti3, ti9, ti5, ti4, ti35, ti53, ti55, ti83, hlen, h4], by simp only [go_sem, ti3, ti9, ti5, ti4, ti35, ti53, ti55, ti83, hlen, lowR, if_pos hc1], g0⟩
        · have hc1 : ¬ (i = 0) := by simp at hc; omega
          exact Wc.skip ⟨rfl, rfl, by simp only [go_sem, ti3, ti9, ti5, ti4, ti35, ti53, ti55, ti83, hlen], by simp only [go_sem, ti3, ti9, ti5, ti4, ti35, ti53, ti55, ti83, hlen, h1], by simp only [go_sem, ti3, ti9, ti5, ti4, ti35, ti53, ti55, ti83, hlen, h3], by simp only [go_sem, ti3, ti9, ti5, ti4, ti35, ti53, ti55, ti83, hlen, h4], by simp only [go_sem, ti3, ti9, ti5, ti4, ti35, ti53, ti55, ti83, hlen, lowR, if_neg hc1], g0⟩
      clear hlen h1 h3 h4 g0 e s1 hc
      rintro ⟨e, ds, s1⟩ ⟨rfl, hlen, h1, h3, h4, h9, g0⟩
      simp only at hlen h1 h3 h4 h9 g0
      generalize hRR : (lowR q h.mn i b) = r at *
      have w1 : IntKind.i64.wrap (r * b.2) = r * b.2 := by rw [wi64]; omega
      have w2 : IntKind.i64.wrap (o + r * b.2) = o + r * b.2 := by rw [wi64, ho]; omega
      refine Wc.seq ?_
      refine Wc.reg fun K hK => ?_; simp only [go_sem, ti3, ti9, ti5, ti4, ti35, ti53, ti55, ti83, hlen, h1, h3, h4, h9, g0, hix, hce, w1, w2]; refine hK _ _ ?_; clear hK K
      refine Wc.mono (Q := fun ex y => ex = .normal ∧ y.ds = [] ∧ y.e.length = 58 ∧ y.e.getD 1 .junk = .v (.c (.ref 0 0)) ∧ y.e.getD 3 .junk = P' (pI ((h.mx - h.mn) + sumI (termL q h.mn h.bs.length) 0 (h.bs.take (i + 1)))) ∧ y.e.getD 4 .junk = P' (pI i) ∧ y.s.get 0 = some (.cells [.p (pI q), .p (pI h.c), .p (pI h.s), .p (pI h.mn), .p (pI h.mx), .p (.lst h.bs.length (h.bs.flatMap p2))] false)) ?_ ?_
      · refine Wc.seq ?_
        refine Wc.reg fun K hK => ?_; simp only [go_sem, ti3, ti9, ti5, ti4, ti35, ti53, ti55, ti83, hlen, h1, h3, h4, h9, g0, el1]; refine hK _ _ ?_; clear hK K
        refine Wc.cond (t := ((i : Int) == ((h.bs.length - 1 : Nat) : Int))) (by simp only [go_sem, ti3, ti9, ti5, ti4, ti35, ti53, ti55, ti83, hlen]) (fun hc => ?_) (fun hc => ?_)
        · have hc1 : i + 1 = h.bs.length := by simp at hc; omega
          rw [if_pos hc1] at tB
          have w3 : IntKind.i64.wrap (o + r * b.2 + h.mn) = o + r * b.2 + h.mn := by rw [wi64, ho]; omega
          have w4 : IntKind.i64.wrap (o + r * b.2 + h.mn - r) = (h.mx - h.mn) + sumI (termL q h.mn h.bs.length) 0 (h.bs.take (i + 1)) := by rw [wi64, sT, tB, ho]; omega
          refine Wc.reg fun K hK => ?_; simp only [go_sem, ti3, ti9, ti5, ti4, ti35, ti53, ti55, ti83, hlen, h1, h3, h4, h9, g0, w3, w4]; refine hK _ _ ?_; clear hK K
          exact ⟨rfl, rfl, by simp only [go_sem, ti3, ti9, ti5, ti4, ti35, ti53, ti55, ti83, hlen], by simp only [go_sem, ti3, ti9, ti5, ti4, ti35, ti53, ti55, ti83, hlen, h1], by simp only [go_sem, ti3, ti9, ti5, ti4, ti35, ti53, ti55, ti83, hlen], by simp only [go_sem, ti3, ti9, ti5, ti4, ti35, ti53, ti55, ti83, hlen, h4], g0⟩
        · have hc1 : ¬ (i + 1 = h.bs.length) := by simp at hc; omega
          rw [if_neg hc1] at tB
          have w4 : o + r * b.2 = (h.mx - h.mn) + sumI (termL q h.mn h.bs.length) 0 (h.bs.take (i + 1)) := by rw [sT, tB, ho]; omega
          exact Wc.skip ⟨rfl, rfl, by simp only [go_sem, ti3, ti9, ti5, ti4, ti35, ti53, ti55, ti83, hlen], by simp only [go_sem, ti3, ti9, ti5, ti4, ti35, ti53, ti55, ti83, hlen, h1], by simp only [go_sem, ti3, ti9, ti5, ti4, ti35, ti53, ti55, ti83, hlen, w4], by simp only [go_sem, ti3, ti9, ti5, ti4, ti35, ti53, ti55, ti83, hlen, h4], g0⟩
      clear hlen h1 h3 h4 h9 g0 e s1
      rintro ex ⟨e, ds, s1⟩ ⟨rfl, rfl, hlen, h1, h3, h4, g0⟩
      simp only at hlen h1 h3 h4 g0
      refine Wc.reg fun K hK => ?_; simp only [go_sem, ti3, ti9, ti5, ti4, ti35, ti53, ti55, ti83, hlen, h1, h3, h4, i64n i (by omega)]; refine hK _ _ ?_; clear hK K
      exact ⟨h.bs.length - (i + 1), by omega, i + 1, _, rfl, by omega, rfl, by simp only [go_sem, ti3, ti9, ti5, ti4, ti35, ti53, ti55, ti83, hlen], by simp only [go_sem, ti3, ti9, ti5, ti4, ti35, ti53, ti55, ti83, hlen, h1], by simp only [go_sem, ti3, ti9, ti5, ti4, ti35, ti53, ti55, ti83, hlen, h3], by simp only [go_sem, ti3, ti9, ti5, ti4, ti35, ti53, ti55, ti83, hlen], g0, rfl⟩
    · have hil : i = h.bs.length := by have : ¬ (i : Int) < h.bs.length := by simpa using hc
                                       omega
      subst hil
      rw [List.take_length] at ho
      have e9 : o = leastR q h.mn h.mx h.bs := ho
      subst e9
      refine Wc.exit (Wc.seq ?_)
      refine Wc.reg fun K hK => ?_; simp only [go_sem, ti3, ti9, ti5, ti4, ti35, ti53, ti55, ti83, hlen, h3]; refine hK _ _ ?_; clear hK K
      exact Wc.ret (Pf.ret [.tmp 2] [.c (.p (pI (leastR q h.mn h.mx h.bs)))] rfl rfl (by simp only [resultsD, go_sem, ti3, ti9, ti5, ti4, ti35, ti53, ti55, ti83, hlen]) rfl)
  · exact ⟨0, (h.mx - h.mn), rfl, by omega, rfl, rfl, rfl, rfl, rfl, by simp only [go_sem, ti3, ti9, ti5, ti4, ti35, ti53, ti55, ti83], by simp [sumI]⟩
/-- 134: the reference's most -/
theorem pf134 (h : Hst) (q : Nat) (x : HCx h q) : Pf E0 134 [.agg (h.pd.map .p)] (P' (pI (mostR q h.mn h.mx h.bs))) := by
  have hfl : (h.bs.flatMap p2).length = h.bs.length * 2 := flat_len (k := 2) (fun _ => rfl) _
  have xa := x.a
  have xb := x.b
  have xd := x.d
  have xn := x.n
  have w0 : IntKind.i64.wrap (h.mn - h.mx) = (h.mn - h.mx) := by rw [wi64]; omega
  refine Pf.body (fn := Tryz.f134) (by kernel_rfl) rfl ?_; simp only [List.map_cons, List.map_nil, List.cons_append, List.nil_append, List.length_cons, List.length_nil, Tryz.ntmps134, List.replicate, Nat.reduceSub, Nat.reduceAdd]
  refine Wc.seq ?_
  refine Wc.reg fun K hK => ?_; simp only [go_sem, ti3, ti9, ti5, ti4, ti35, ti53, ti55, ti83, x.p]; refine hK _ _ ?_; clear hK K
  refine Wc.seq ?_
  refine Wc.reg fun K hK => ?_; simp only [go_sem, ti3, ti9, ti5, ti4, ti35, ti53, ti55, ti83, w0]; refine hK _ _ ?_; clear hK K
  refine Wc.seq (Wc.seq ?_)
  refine Wc.reg fun K hK => ?_; simp only [go_sem, ti3, ti9, ti5, ti4, ti35, ti53, ti55, ti83, Int.natCast_zero]; refine hK _ _ ?_; clear hK K
  refine Wc.block (Wc.loop (fun k y => ∃ (i : Nat) (o : Int), k = h.bs.length - i ∧ i ≤ h.bs.length ∧ y.ds = [] ∧ y.e.length = 58 ∧ y.e.getD 1 .junk = .v (.c (.ref 0 0)) ∧ y.e.getD 3 .junk = P' (pI o) ∧ y.e.getD 4 .junk = P' (pI i) ∧ y.s.get 0 = some (.cells [.p (pI q), .p (pI h.c), .p (pI h.s), .p (pI h.mn), .p (pI h.mx), .p (.lst h.bs.length (h.bs.flatMap p2))] false) ∧ o = (h.mn - h.mx) + sumI (termM q h.mx h.bs.length) 0 (h.bs.take i)) ?_ (k := h.bs.length) ?_)
  · rintro k ⟨e, ds, s1⟩ ⟨i, o, rfl, hi, rfl, hlen, h1, h3, h4, g0, ho⟩
    simp only at hlen h1 h3 h4 g0
    refine Wc.seq (Wc.seq ?_)
    refine Wc.reg fun K hK => ?_; simp only [go_sem, ti3, ti9, ti5, ti4, ti35, ti53, ti55, ti83, hlen, h1, h3, h4, g0]; refine hK _ _ ?_; clear hK K
    refine Wc.cond (t := decide ((i : Int) < h.bs.length)) (by simp only [go_sem, ti3, ti9, ti5, ti4, ti35, ti53, ti55, ti83, hlen]) (fun hc => ?_) (fun hc => ?_)
    · have hil : i < h.bs.length := by have : (i : Int) < h.bs.length := by simpa using hc
                                       omega
      obtain ⟨b, hb⟩ : ∃ b, h.bs[i]? = some b := ⟨h.bs[i], List.getElem?_eq_getElem hil⟩
      have hbm := List.mem_of_getElem? hb
      obtain ⟨b1, b2, b3, b4, b5⟩ := x.lo hbm
      have hbi : b.1 = ((b.1.toNat : Nat) : Int) := by omega
      have hix := ixA ti53 rfl ti83 (j := i) (m := h.bs.length) (cs := h.bs.flatMap p2) hil hfl (by decide)
      have hca := rpA (off := i * 2) (drop_flat (f := p2) (k := 2) (fun _ => rfl) hb) (by rw [hfl]; omega)
      have hce := rpA (off := i * 2 + 1) (cs := h.bs.flatMap p2) (pre := [pI b.2]) (rest := (h.bs.drop (i + 1)).flatMap p2) (by rw [← List.drop_drop, drop_flat (f := p2) (k := 2) (fun _ => rfl) hb]; rfl) (by rw [hfl]; omega)
      have el1 : IntKind.i64.wrap ((h.bs.length : Int) - 1) = ((h.bs.length - 1 : Nat) : Int) := by rw [wi64]; omega
      have c1 := x.cnt_take i
      have c2 := x.cnt_take (i + 1)
      have c3 : cnt (h.bs.take (i + 1)) = cnt (h.bs.take i) + b.2 := sumI_take hb
      have hR := x.highR (i := i) hbm
      have sB := x.mulB (g := (highR q h.mx h.bs.length)) (fun i b hb => x.highR hb) i
      have sT : sumI (termM q h.mx h.bs.length) 0 (h.bs.take (i + 1)) = sumI (termM q h.mx h.bs.length) 0 (h.bs.take i) + (termM q h.mx h.bs.length i b) := sumI_take hb
      have sD : ∃ d, -1099511627776 ≤ d ∧ d ≤ 1099511627776 ∧ sumI (termM q h.mx h.bs.length) 0 (h.bs.take i) = sumI (fun i b => highR q h.mx h.bs.length i b * b.2) 0 (h.bs.take i) + d := by
        have e9 : sumI (termM q h.mx h.bs.length) 0 (h.bs.take i) = sumI (fun i b => highR q h.mx h.bs.length i b * b.2) 0 (h.bs.take i) + sumI (fun i b => if i = 0 then h.mx - highR q h.mx h.bs.length i b else 0) 0 (h.bs.take i) := sumI_add _ _ _ _
        refine ⟨_, ?_, ?_, e9⟩
        all_goals
          cases ht : h.bs.take i with
          | nil => simp [sumI]
          | cons c r =>
            have hcm : c ∈ h.bs := List.mem_of_mem_take (i := i) (by rw [ht]; simp)
            have h9 := x.highR (i := 0) hcm
            rw [sumI, sumI_firstT _ r (0 + 1) (by decide), if_pos rfl]; omega
      obtain ⟨d, d1, d2, sD⟩ := sD
      have tB : (termM q h.mx h.bs.length i b) = (highR q h.mx h.bs.length i b) * b.2 + (if i = 0 then h.mx - (highR q h.mx h.bs.length i b) else 0) := rfl
      have X0 : 0 ≤ (highR q h.mx h.bs.length i b) * b.2 := Int.mul_nonneg (by omega) (by omega)
      have X1 : (highR q h.mx h.bs.length i b) * b.2 ≤ 1099511627776 * b.2 := Int.mul_le_mul_of_nonneg_right (by omega) (by omega)
      refine Wc.skip (Wc.seq (Wc.block (Wc.seq ?_)))
      refine Wc.regD fun K hK => ?_; simp only [go_sem, ti3, ti9, ti5, ti4, ti35, ti53, ti55, ti83, hlen, h1, h3, h4, g0, hix, hca]
      refine ⟨by simp [o148, x148, plainD, plainV, plainC], ?_⟩
      rw [hbi]
      refine wpCall.pf (pf148 q b.1.toNat x.q8 b1) (by kernel_rfl) (by kernel_rfl) rfl rfl ?_
      rw [← hbi]
      simp only [go_sem, ti3, ti9, ti5, ti4, ti35, ti53, ti55, ti83, hlen, h1, h3, h4, g0, hix, hca]; refine hK _ _ ?_; clear hK K
      refine Wc.seqA (fun y => y.ds = [] ∧ y.e.length = 58 ∧ y.e.getD 1 .junk = .v (.c (.ref 0 0)) ∧ y.e.getD 3 .junk = P' (pI o) ∧ y.e.getD 4 .junk = P' (pI i) ∧ y.e.getD 6 .junk = P' (pI ((highR q h.mx h.bs.length i b))) ∧ y.s.get 0 = some (.cells [.p (pI q), .p (pI h.c), .p (pI h.s), .p (pI h.mn), .p (pI h.mx), .p (.lst h.bs.length (h.bs.flatMap p2))] false)) ?_ ?_
      · refine Wc.seq ?_
        refine Wc.reg fun K hK => ?_; simp only [go_sem, ti3, ti9, ti5, ti4, ti35, ti53, ti55, ti83, hlen, h1, h3, h4, g0, el1]; refine hK _ _ ?_; clear hK K
        refine Wc.cond (t := ((i : Int) == ((h.bs.length - 1 : Nat) : Int))) (by simp only [go_sem, ti3, ti9, ti5, ti4, ti35, ti53, ti55, ti83, hlen]) (fun hc => ?_) (fun hc => ?_)
        · have hc1 : i + 1 = h.bs.length := by simp at hc; omega
          refine Wc.reg fun K hK => ?_; simp only [go_sem, ti3, ti9, ti5, ti4, ti35, ti53, ti55, ti83, hlen, h1, h3, h4, g0]; refine hK _ _ ?_; clear hK K
          exact ⟨rfl, rfl, by simp only [go_sem, ti3, ti9, ti5, ti4, ti35, ti53, ti55, ti83, hlen], by simp only [go_sem, ti3, ti9, ti5, ti4, ti35, ti53, ti55, ti83, hlen, h1], by simp only [go_sem, ti3, ti9, ti5, ti4, ti35, ti53, ti55, ti83, hlen, h3], by simp only [go_sem, ti3, ti9, ti5, ti4, ti35, ti53, ti55, ti83, hlen, h4], by simp only [go_sem, ti3, ti9, ti5, ti4, ti35, ti53, ti55, ti83, hlen, highR, if_pos hc1], g0⟩
        · have hc1 : ¬ (i + 1 = h.bs.length) := by simp at hc; omega
          exact Wc.skip ⟨rfl, rfl, by simp only [go_sem, ti3, ti9, ti5, ti4, ti35, ti53, ti55, ti83, hlen], by simp only [go_sem, ti3, ti9, ti5, ti4, ti35, ti53, ti55, ti83, hlen, h1], by simp only [go_sem, ti3, ti9, ti5, ti4, ti35, ti53, ti55, ti83, hlen, h3], by simp only [go_sem, ti3, ti9, ti5, ti4, ti35, ti53, ti55, ti83, hlen, h4], by simp only [go_sem, ti3, ti9, ti5, ti4, ti35, ti53, ti55, ti83, hlen, highR, if_neg hc1], g0⟩
      clear hlen h1 h3 h4 g0 e s1 hc
      rintro ⟨e, ds, s1⟩ ⟨rfl, hlen, h1, h3, h4, h9, g0⟩
      simp only at hlen h1 h3 h4 h9 g0
      generalize hRR : (highR q h.mx h.bs.length i b) = r at *
      have w1 : IntKind.i64.wrap (r * b.2) = r * b.2 := by rw [wi64]; omega
      have w2 : IntKind.i64.wrap (o + r * b.2) = o + r * b.2 := by rw [wi64, ho]; omega
      refine Wc.seq ?_
      refine Wc.reg fun K hK => ?_; simp only [go_sem, ti3, ti9, ti5, ti4, ti35, ti53, ti55, ti83, hlen, h1, h3, h4, h9, g0, hix, hce, w1, w2]; refine hK _ _ ?_; clear hK K
      refine Wc.mono (Q := fun ex y => ex = .normal ∧ y.ds = [] ∧ y.e.length = 58 ∧ y.e.getD 1 .junk = .v (.c (.ref 0 0)) ∧ y.e.getD 3 .junk = P' (pI ((h.mn - h.mx) + sumI (termM q h.mx h.bs.length) 0 (h.bs.take (i + 1)))) ∧ y.e.getD 4 .junk = P' (pI i) ∧ y.s.get 0 = some (.cells [.p (pI q), .p (pI h.c), .p (pI h.s), .p (pI h.mn), .p (pI h.mx), .p (.lst h.bs.length (h.bs.flatMap p2))] false)) ?_ ?_
      · refine Wc.seq ?_
        refine Wc.reg fun K hK => ?_; simp only [go_sem, ti3, ti9, ti5, ti4, ti35, ti53, ti55, ti83, hlen, h1, h3, h4, h9, g0, el1]; refine hK _ _ ?_; clear hK K
        refine Wc.cond (t := ((i : Int) == 0)) (by simp only [go_sem, ti3, ti9, ti5, ti4, ti35, ti53, ti55, ti83, hlen]) (fun hc => ?_) (fun hc => ?_)
        · have hc1 : i = 0 := by simp at hc; omega
          rw [if_pos hc1] at tB
          have w3 : IntKind.i64.wrap (o + r * b.2 + h.mx) = o + r * b.2 + h.mx := by rw [wi64, ho]; omega
          have w4 : IntKind.i64.wrap (o + r * b.2 + h.mx - r) = (h.mn - h.mx) + sumI (termM q h.mx h.bs.length) 0 (h.bs.take (i + 1)) := by rw [wi64, sT, tB, ho]; omega
          refine Wc.reg fun K hK => ?_; simp only [go_sem, ti3, ti9, ti5, ti4, ti35, ti53, ti55, ti83, hlen, h1, h3, h4, h9, g0, w3, w4]; refine hK _ _ ?_; clear hK K
          exact ⟨rfl, rfl, by simp only [go_sem, ti3, ti9, ti5, ti4, ti35, ti53, ti55, ti83, hlen], by simp only [go_sem, ti3, ti9, ti5, ti4, ti35, ti53, ti55, ti83, hlen, h1], by simp only [go_sem, ti3, ti9, ti5, ti4, ti35, ti53, ti55, ti83, hlen], by simp only [go_sem, ti3, ti9, ti5, ti4, ti35, ti53, ti55, ti83, hlen, h4], g0⟩
        · have hc1 : ¬ (i = 0) := by simp at hc; omega
          rw [if_neg hc1] at tB
          have w4 : o + r * b.2 = (h.mn - h.mx) + sumI (termM q h.mx h.bs.length) 0 (h.bs.take (i + 1)) := by rw [sT, tB, ho]; omega
          exact Wc.skip ⟨rfl, rfl, by simp only [go_sem, ti3, ti9, ti5, ti4, ti35, ti53, ti55, ti83, hlen], by simp only [go_sem, ti3, ti9, ti5, ti4, ti35, ti53, ti55, ti83, hlen, h1], by simp only [go_sem, ti3, ti9, ti5, ti4, ti35, ti53, ti55, ti83, hlen, w4], by simp only [go_sem, ti3, ti9, ti5, ti4, ti35, ti53, ti55, ti83, hlen, h4], g0⟩
      clear hlen h1 h3 h4 h9 g0 e s1
      rintro ex ⟨e, ds, s1⟩ ⟨rfl, rfl, hlen, h1, h3, h4, g0⟩
      simp only at hlen h1 h3 h4 g0
      refine Wc.reg fun K hK => ?_; simp only [go_sem, ti3, ti9, ti5, ti4, ti35, ti53, ti55, ti83, hlen, h1, h3, h4, i64n i (by omega)]; refine hK _ _ ?_; clear hK K
      exact ⟨h.bs.length - (i + 1), by omega, i + 1, _, rfl, by omega, rfl, by simp only [go_sem, ti3, ti9, ti5, ti4, ti35, ti53, ti55, ti83, hlen], by simp only [go_sem, ti3, ti9, ti5, ti4, ti35, ti53, ti55, ti83, hlen, h1], by simp only [go_sem, ti3, ti9, ti5, ti4, ti35, ti53, ti55, ti83, hlen, h3], by simp only [go_sem, ti3, ti9, ti5, ti4, ti35, ti53, ti55, ti83, hlen], g0, rfl⟩
    · have hil : i = h.bs.length := by have : ¬ (i : Int) < h.bs.length := by simpa using hc
                                       omega
      subst hil
      rw [List.take_length] at ho
      have e9 : o = mostR q h.mn h.mx h.bs := ho
      subst e9
      refine Wc.exit (Wc.seq ?_)
      refine Wc.reg fun K hK => ?_; simp only [go_sem, ti3, ti9, ti5, ti4, ti35, ti53, ti55, ti83, hlen, h3]; refine hK _ _ ?_; clear hK K
      exact Wc.ret (Pf.ret [.tmp 2] [.c (.p (pI (mostR q h.mn h.mx h.bs)))] rfl rfl (by simp only [resultsD, go_sem, ti3, ti9, ti5, ti4, ti35, ti53, ti55, ti83, hlen]) rfl)
  · exact ⟨0, (h.mn - h.mx), rfl, by omega, rfl, rfl, rfl, rfl, rfl, by simp only [go_sem, ti3, ti9, ti5, ti4, ti35, ti53, ti55, ti83], by simp [sumI]⟩
end Go.Proofs.YtafaoldmemcigaaGreat.Ab
namespace Go.Proofs.YtafaoldmemcigaaGreat.Ab
set_option maxHeartbeats 8000000
set_option maxRecDepth 10000
set_option linter.unusedSimpArgs false
set_option linter.unusedVariables false
theorem o112 : E0.opn 112 = false := by kernel_rfl
theorem x112 : E0.xt 112 = none := by kernel_rfl
theorem o133 : E0.opn 133 = false := by kernel_rfl
theorem x133 : E0.xt 133 = none := by kernel_rfl
theorem o134 : E0.opn 134 = false := by kernel_rfl
theorem x134 : E0.xt 134 = none := by kernel_rfl
/-- 113: fits -/
theorem pf113 (h : Hst) (t : Int) (q : Nat) (hq : q ≤ 8) (hp : h.p = q) (hb : BsOK q h.bs) (hn : h.bs.length ≤ 500) (ht : t = cnt h.bs) (ht2 : t ≤ 1048576) : Pf E0 113 [.agg (h.pd.map .p), .c (.p (pI t))] (P' (.bool (agrB h q t))) := by
  have hfl : (h.bs.flatMap p2).length = h.bs.length * 2 := flat_len (k := 2) (fun _ => rfl) _
  refine Pf.body (fn := Tryz.f113) (by kernel_rfl) rfl ?_; simp only [List.map_cons, List.map_nil, List.cons_append, List.nil_append, List.length_cons, List.length_nil, Tryz.ntmps113, List.replicate, Nat.reduceSub, Nat.reduceAdd]
  refine Wc.seq ?_
  refine Wc.reg fun K hK => ?_; simp only [go_sem, ti3, ti9, ti5, ti4, ti35, ti53, ti55, ti83, hp]; refine hK _ _ ?_; clear hK K
  refine Wc.seq (Wc.seq ?_)
  refine Wc.reg fun K hK => ?_; simp only [go_sem, ti3, ti9, ti5, ti4, ti35, ti53, ti55, ti83]; refine hK _ _ ?_; clear hK K
  refine Wc.cond (t := (t == 0)) (by simp only [go_sem, ti3, ti9, ti5, ti4, ti35, ti53, ti55, ti83]) (fun hc => ?_) (fun hc => ?_)
  · have ht0 : t = 0 := by simpa using hc
    have e : agrB h q t = (decide (h.c = 0) && (decide (h.s = 0) && (decide (h.mn = 0) && decide (h.mx = 0)))) := by
      unfold agrB
      by_cases h0 : h.c ≠ t
      · have n0 : ¬ h.c = 0 := by omega
        rw [if_pos h0, decide_eq_false n0, Bool.false_and]
      · have n0 : h.c = 0 := by omega
        rw [if_neg h0, if_pos ht0, decide_eq_true n0, Bool.true_and]
    rw [e]
    refine Wc.seq ?_
    by_cases h0 : h.c = 0
    · have b0 : (h.c == 0) = true := by simpa using h0
      by_cases h1 : h.s = 0
      · have b1 : (h.s == 0) = true := by simpa using h1
        by_cases h2 : h.mn = 0
        · have b2 : (h.mn == 0) = true := by simpa using h2
          refine Wc.reg fun K hK => ?_; simp only [go_sem, ti3, ti9, ti5, ti4, ti35, ti53, ti55, ti83, b0, b1, b2]; refine hK _ _ ?_; clear hK K
          rw [decide_eq_true h0, decide_eq_true h1, decide_eq_true h2, Bool.true_and, Bool.true_and, Bool.true_and]
          exact Wc.ret (Pf.ret [.tmp 4] [.c (.p (.bool (decide (h.mx = 0))))] rfl rfl (by simp only [resultsD, go_sem, ti3, ti9, ti5, ti4, ti35, ti53, ti55, ti83, b1, b2]; rfl) rfl)
        · have b2 : (h.mn == 0) = false := by simpa using h2
          refine Wc.reg fun K hK => ?_; simp only [go_sem, ti3, ti9, ti5, ti4, ti35, ti53, ti55, ti83, b0, b1, b2]; refine hK _ _ ?_; clear hK K
          rw [decide_eq_false h2, Bool.false_and, Bool.and_false, Bool.and_false]
          exact Wc.ret (Pf.ret [.tmp 4] [.c (.p (.bool false))] rfl rfl (by simp only [resultsD, go_sem, ti3, ti9, ti5, ti4, ti35, ti53, ti55, ti83, b1, b2]) rfl)
      · have b1 : (h.s == 0) = false := by simpa using h1
        refine Wc.reg fun K hK => ?_; simp only [go_sem, ti3, ti9, ti5, ti4, ti35, ti53, ti55, ti83, b0, b1]; refine hK _ _ ?_; clear hK K
        rw [decide_eq_false h1, Bool.false_and, Bool.and_false]
        exact Wc.ret (Pf.ret [.tmp 4] [.c (.p (.bool false))] rfl rfl (by simp only [resultsD, go_sem, ti3, ti9, ti5, ti4, ti35, ti53, ti55, ti83, b1]) rfl)
    · have b0 : (h.c == 0) = false := by simpa using h0
      refine Wc.reg fun K hK => ?_; simp only [go_sem, ti3, ti9, ti5, ti4, ti35, ti53, ti55, ti83, b0]; refine hK _ _ ?_; clear hK K
      rw [decide_eq_false h0, Bool.false_and]
      exact Wc.ret (Pf.ret [.tmp 4] [.c (.p (.bool false))] rfl rfl (by simp only [resultsD, go_sem, ti3, ti9, ti5, ti4, ti35, ti53, ti55, ti83, b0]) rfl)
  have ht0 : ¬ t = 0 := by simpa using hc
  have hne : h.bs ≠ [] := fun e => by rw [e] at ht; exact ht0 (by rw [ht]; rfl)
  have hl0 : 0 < h.bs.length := List.length_pos_iff.2 hne
  obtain ⟨f, hf⟩ : ∃ f, h.bs[0]? = some f := ⟨h.bs[0], List.getElem?_eq_getElem hl0⟩
  obtain ⟨l, hl⟩ : ∃ l, h.bs[h.bs.length - 1]? = some l := ⟨h.bs[h.bs.length - 1], List.getElem?_eq_getElem (by omega)⟩
  have bad : (h.mn < 0 ∨ mxv < h.mx ∨ h.mx < h.mn ∨ h.c ≠ t) → agrB h q t = false := fun hx => by
    unfold agrB
    by_cases h0 : h.c ≠ t
    · rw [if_pos h0]
    · rw [if_neg h0, if_neg ht0, hf, hl]
      have h9 : h.mn < 0 ∨ mxv < h.mn ∨ h.mx < 0 ∨ mxv < h.mx ∨ h.mx < h.mn := by omega
      simp only [agr1]
      rw [if_pos h9]
  have hM : mxv = 1099511627776 := rfl
  refine Wc.skip (Wc.seqR (fun y => (0 ≤ h.mn ∧ h.mx ≤ 1099511627776 ∧ h.mn ≤ h.mx ∧ h.c = t) ∧ y.ds = [] ∧ y.e.length = 100 ∧ y.e.getD 1 .junk = P' (pI t) ∧ y.e.getD 2 .junk = .v (.c (.ref 0 0)) ∧ y.s.get 0 = some (.cells [.p (pI q), .p (pI h.c), .p (pI h.s), .p (pI h.mn), .p (pI h.mx), .p (.lst h.bs.length (h.bs.flatMap p2))] false)) ?_ ?_)
  · refine Wc.seq ?_
    by_cases z1 : h.mn < 0
    · refine Wc.reg fun K hK => ?_; simp only [go_sem, ti3, ti9, ti5, ti4, ti35, ti53, ti55, ti83, z1]; refine hK _ _ ?_; clear hK K
      refine Wc.cond (t := true) (by simp only [go_sem, ti3, ti9, ti5, ti4, ti35, ti53, ti55, ti83]) (fun _ => ?_) (fun hc => by cases hc)
      refine Wc.seq ?_
      refine Wc.reg fun K hK => ?_; simp only [go_sem, ti3, ti9, ti5, ti4, ti35, ti53, ti55, ti83]; refine hK _ _ ?_; clear hK K
      rw [bad (.inl z1)]
      exact Wc.ret (Pf.ret [.tmp 4] [.c (.p (.bool false))] rfl rfl (by simp only [resultsD, go_sem, ti3, ti9, ti5, ti4, ti35, ti53, ti55, ti83]) rfl)
    by_cases z2 : 1099511627776 < h.mx
    · refine Wc.reg fun K hK => ?_; simp only [go_sem, ti3, ti9, ti5, ti4, ti35, ti53, ti55, ti83, z1, z2]; refine hK _ _ ?_; clear hK K
      refine Wc.cond (t := true) (by simp only [go_sem, ti3, ti9, ti5, ti4, ti35, ti53, ti55, ti83]) (fun _ => ?_) (fun hc => by cases hc)
      refine Wc.seq ?_
      refine Wc.reg fun K hK => ?_; simp only [go_sem, ti3, ti9, ti5, ti4, ti35, ti53, ti55, ti83]; refine hK _ _ ?_; clear hK K
      rw [bad (.inr (.inl z2))]
      exact Wc.ret (Pf.ret [.tmp 4] [.c (.p (.bool false))] rfl rfl (by simp only [resultsD, go_sem, ti3, ti9, ti5, ti4, ti35, ti53, ti55, ti83]) rfl)
    by_cases z3 : h.mx < h.mn
    · refine Wc.reg fun K hK => ?_; simp only [go_sem, ti3, ti9, ti5, ti4, ti35, ti53, ti55, ti83, z1, z2, z3]; refine hK _ _ ?_; clear hK K
      refine Wc.cond (t := true) (by simp only [go_sem, ti3, ti9, ti5, ti4, ti35, ti53, ti55, ti83]) (fun _ => ?_) (fun hc => by cases hc)
      refine Wc.seq ?_
      refine Wc.reg fun K hK => ?_; simp only [go_sem, ti3, ti9, ti5, ti4, ti35, ti53, ti55, ti83]; refine hK _ _ ?_; clear hK K
      rw [bad (.inr (.inr (.inl z3)))]
      exact Wc.ret (Pf.ret [.tmp 4] [.c (.p (.bool false))] rfl rfl (by simp only [resultsD, go_sem, ti3, ti9, ti5, ti4, ti35, ti53, ti55, ti83]) rfl)
    refine Wc.reg fun K hK => ?_; simp only [go_sem, ti3, ti9, ti5, ti4, ti35, ti53, ti55, ti83, z1, z2, z3]; refine hK _ _ ?_; clear hK K
    refine Wc.cond (t := (h.c != t)) (by simp only [go_sem, ti3, ti9, ti5, ti4, ti35, ti53, ti55, ti83]) (fun hc => ?_) (fun hc => ?_)
    · have z4 : h.c ≠ t := by simpa using hc
      refine Wc.seq ?_
      refine Wc.reg fun K hK => ?_; simp only [go_sem, ti3, ti9, ti5, ti4, ti35, ti53, ti55, ti83]; refine hK _ _ ?_; clear hK K
      rw [bad (.inr (.inr (.inr z4)))]
      exact Wc.ret (Pf.ret [.tmp 4] [.c (.p (.bool false))] rfl rfl (by simp only [resultsD, go_sem, ti3, ti9, ti5, ti4, ti35, ti53, ti55, ti83]) rfl)
    · have z4 : h.c = t := by simpa using hc
      exact Wc.skip ⟨by omega, rfl, rfl, rfl, rfl, by simp only [go_sem, ti3, ti9, ti5, ti4, ti35, ti53, ti55, ti83]⟩
  rintro ⟨e, ds, s1⟩ ⟨⟨m0, m1, m2, m3⟩, rfl, hlen, h1, h2, g0⟩
  simp only at hlen h1 h2 g0
  obtain ⟨a, ea⟩ : ∃ a : Nat, h.mn = (a : Int) := ⟨h.mn.toNat, by omega⟩
  obtain ⟨b, eb⟩ : ∃ b : Nat, h.mx = (b : Int) := ⟨h.mx.toNat, by omega⟩
  have ta : h.mn.toNat = a := by omega
  have tb : h.mx.toNat = b := by omega
  have eA : agrB h q t = if (ix q a : Int) ≠ f.1 ∨ (ix q b : Int) ≠ l.1 then false else if t = 1 then decide (h.mn = h.mx) && decide (h.s = h.mn) else decide (leastR q h.mn h.mx h.bs ≤ h.s) && decide (h.s ≤ mostR q h.mn h.mx h.bs) := by
    have e1 : agrB h q t = agr1 q h.s h.mn h.mx h.bs f l t := by unfold agrB; rw [if_neg (by omega), if_neg ht0, hf, hl]
    rw [e1, ← fit_agr hb hf hl ht]
    unfold fit1; rw [if_neg (by omega), ta, tb]
  rw [eA]
  have hif := ixA ti53 rfl ti83 (j := 0) (m := h.bs.length) (cs := h.bs.flatMap p2) hl0 hfl (by decide)
  have hcf := rpA (off := 0 * 2) (drop_flat (f := p2) (k := 2) (fun _ => rfl) hf) (by omega)
  rw [show ((0 : Nat) : Int) = 0 from rfl, Nat.zero_mul] at hif
  rw [Nat.zero_mul] at hcf
  have hil := ixA ti53 rfl ti83 (j := h.bs.length - 1) (m := h.bs.length) (cs := h.bs.flatMap p2) (by omega) hfl (by decide)
  have hcl := rpA (off := (h.bs.length - 1) * 2) (drop_flat (f := p2) (k := 2) (fun _ => rfl) hl) (by rw [hfl]; omega)
  have el1 : IntKind.i64.wrap ((h.bs.length : Int) - 1) = ((h.bs.length - 1 : Nat) : Int) := by rw [wi64]; omega
  refine Wc.seqR (fun y => ((ix q a : Int) = f.1 ∧ (ix q b : Int) = l.1) ∧ y.ds = [] ∧ y.e.length = 100 ∧ y.e.getD 1 .junk = P' (pI t) ∧ y.e.getD 2 .junk = .v (.c (.ref 0 0)) ∧ y.s.get 0 = some (.cells [.p (pI q), .p (pI h.c), .p (pI h.s), .p (pI h.mn), .p (pI h.mx), .p (.lst h.bs.length (h.bs.flatMap p2))] false)) ?_ ?_
  · refine Wc.seq ?_
    refine Wc.regD fun K hK => ?_; simp only [go_sem, ti3, ti9, ti5, ti4, ti35, ti53, ti55, ti83, hlen, h1, h2, g0, ea, eb, hif, hcf, hil, hcl, el1]
    refine ⟨by simp [o112, x112, plainD, plainV, plainC], ?_⟩
    refine wpCall.pf (pf112 q a hq (by omega)) (by kernel_rfl) (by kernel_rfl) rfl rfl ?_
    by_cases v1 : (ix q a : Int) = f.1
    · have b1 : ((ix q a : Int) != f.1) = false := by simpa using v1
      simp only [go_sem, ti3, ti9, ti5, ti4, ti35, ti53, ti55, ti83, hlen, h1, h2, g0, ea, eb, hif, hcf, hil, hcl, el1, b1]
      refine ⟨by simp [o112, x112, plainD, plainV, plainC], ?_⟩
      refine wpCall.pf (pf112 q b hq (by omega)) (by kernel_rfl) (by kernel_rfl) rfl rfl ?_
      simp only [go_sem, ti3, ti9, ti5, ti4, ti35, ti53, ti55, ti83, hlen, h1, h2, g0, ea, eb, hif, hcf, hil, hcl, el1, b1]; refine hK _ _ ?_; clear hK K
      refine Wc.cond (t := ((ix q b : Int) != l.1)) (by simp only [go_sem, ti3, ti9, ti5, ti4, ti35, ti53, ti55, ti83, hlen]) (fun hc => ?_) (fun hc => ?_)
      · have hc3 : (ix q b : Int) ≠ l.1 := by simpa using hc
        refine Wc.seq ?_
        refine Wc.reg fun K hK => ?_; simp only [go_sem, ti3, ti9, ti5, ti4, ti35, ti53, ti55, ti83, hlen]; refine hK _ _ ?_; clear hK K
        rw [if_pos (.inr hc3)]
        exact Wc.ret (Pf.ret [.tmp 4] [.c (.p (.bool false))] rfl rfl (by simp only [resultsD, go_sem, ti3, ti9, ti5, ti4, ti35, ti53, ti55, ti83, hlen]) rfl)
      · have hc3 : (ix q b : Int) = l.1 := by simpa using hc
        exact Wc.skip ⟨⟨v1, hc3⟩, rfl, by simp only [go_sem, ti3, ti9, ti5, ti4, ti35, ti53, ti55, ti83, hlen], by simp only [go_sem, ti3, ti9, ti5, ti4, ti35, ti53, ti55, ti83, hlen, h1], by simp only [go_sem, ti3, ti9, ti5, ti4, ti35, ti53, ti55, ti83, hlen, h2], g0⟩
    · have b1 : ((ix q a : Int) != f.1) = true := by simpa using v1
      simp only [go_sem, ti3, ti9, ti5, ti4, ti35, ti53, ti55, ti83, hlen, h1, h2, g0, ea, eb, hif, hcf, hil, hcl, el1, b1]; refine hK _ _ ?_; clear hK K
      refine Wc.cond (t := true) (by simp only [go_sem, ti3, ti9, ti5, ti4, ti35, ti53, ti55, ti83, hlen]) (fun _ => ?_) (fun hc => by cases hc)
      refine Wc.seq ?_
      refine Wc.reg fun K hK => ?_; simp only [go_sem, ti3, ti9, ti5, ti4, ti35, ti53, ti55, ti83, hlen]; refine hK _ _ ?_; clear hK K
      rw [if_pos (.inl v1)]
      exact Wc.ret (Pf.ret [.tmp 4] [.c (.p (.bool false))] rfl rfl (by simp only [resultsD, go_sem, ti3, ti9, ti5, ti4, ti35, ti53, ti55, ti83, hlen]) rfl)
  clear hlen h1 h2 g0 e s1
  rintro ⟨e, ds, s1⟩ ⟨⟨i1, i2⟩, rfl, hlen, h1, h2, g0⟩
  simp only at hlen h1 h2 g0
  rw [if_neg (by omega)]
  refine Wc.seq (Wc.seq ?_)
  refine Wc.reg fun K hK => ?_; simp only [go_sem, ti3, ti9, ti5, ti4, ti35, ti53, ti55, ti83, hlen, h1, h2]; refine hK _ _ ?_; clear hK K
  refine Wc.cond (t := (t == 1)) (by simp only [go_sem, ti3, ti9, ti5, ti4, ti35, ti53, ti55, ti83, hlen]) (fun hc => ?_) (fun hc => ?_)
  · have z1 : t = 1 := by simpa using hc
    rw [if_pos z1]
    refine Wc.seq ?_
    by_cases z2 : h.mn = h.mx
    · have b2 : (h.mn == h.mx) = true := by simpa using z2
      refine Wc.reg fun K hK => ?_; simp only [go_sem, ti3, ti9, ti5, ti4, ti35, ti53, ti55, ti83, hlen, h1, h2, g0, b2]; refine hK _ _ ?_; clear hK K
      rw [decide_eq_true z2, Bool.true_and]
      exact Wc.ret (Pf.ret [.tmp 4] [.c (.p (.bool (decide (h.s = h.mn))))] rfl rfl (by simp only [resultsD, go_sem, ti3, ti9, ti5, ti4, ti35, ti53, ti55, ti83, hlen]; rfl) rfl)
    · have b2 : (h.mn == h.mx) = false := by simpa using z2
      refine Wc.reg fun K hK => ?_; simp only [go_sem, ti3, ti9, ti5, ti4, ti35, ti53, ti55, ti83, hlen, h1, h2, g0, b2]; refine hK _ _ ?_; clear hK K
      rw [decide_eq_false z2, Bool.false_and]
      exact Wc.ret (Pf.ret [.tmp 4] [.c (.p (.bool false))] rfl rfl (by simp only [resultsD, go_sem, ti3, ti9, ti5, ti4, ti35, ti53, ti55, ti83, hlen]) rfl)
  have z1 : ¬ t = 1 := by simpa using hc
  rw [if_neg z1]
  have xx : HCx h q := ⟨hq, hp, hb, hn, by omega, m0, m2, m1⟩
  have p133 := pf133 h q xx
  have p134 := pf134 h q xx
  simp only [List.map_cons, List.map_nil, hp] at p133 p134
  refine Wc.skip (Wc.seq ?_)
  refine Wc.regD fun K hK => ?_; simp only [go_sem, ti3, ti9, ti5, ti4, ti35, ti53, ti55, ti83, hlen, h1, h2, g0]
  refine ⟨by simp [o133, x133, plainD, plainV, plainC], ?_⟩
  refine wpCall.pf p133 (by kernel_rfl) (by kernel_rfl) rfl rfl ?_
  by_cases z2 : leastR q h.mn h.mx h.bs ≤ h.s
  · simp only [go_sem, ti3, ti9, ti5, ti4, ti35, ti53, ti55, ti83, hlen, h1, h2, g0, z2]
    refine ⟨by simp [o134, x134, plainD, plainV, plainC], ?_⟩
    refine wpCall.pf p134 (by kernel_rfl) (by kernel_rfl) rfl rfl ?_
    simp only [go_sem, ti3, ti9, ti5, ti4, ti35, ti53, ti55, ti83, hlen, h1, h2, g0, z2]; refine hK _ _ ?_; clear hK K
    try rw [decide_eq_true z2, Bool.true_and]
    exact Wc.ret (Pf.ret [.tmp 4] [.c (.p (.bool (decide (h.s ≤ mostR q h.mn h.mx h.bs))))] rfl rfl (by simp only [resultsD, go_sem, ti3, ti9, ti5, ti4, ti35, ti53, ti55, ti83, hlen]) rfl)
  · simp only [go_sem, ti3, ti9, ti5, ti4, ti35, ti53, ti55, ti83, hlen, h1, h2, g0, z2]; refine hK _ _ ?_; clear hK K
    rw [decide_eq_false z2, Bool.false_and]
    exact Wc.ret (Pf.ret [.tmp 4] [.c (.p (.bool false))] rfl rfl (by simp only [resultsD, go_sem, ti3, ti9, ti5, ti4, ti35, ti53, ti55, ti83, hlen]) rfl)
end Go.Proofs.YtafaoldmemcigaaGreat.Ab
