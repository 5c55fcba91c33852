/- A part of the proof: an evaluator of the code, its contracts, the law. No condition. -/
import Derived.Test.YtedcnhbblgmdnaaGreatT17
import Derived.Test.YtedcnhbblgmdnaaGreatT22
import Derived.Test.YtedcnhbblgmdnaaGreatT23
namespace Go.Proofs.YtedcnhbblgmdnaaGreat.Ab
set_option maxHeartbeats 4000000
set_option linter.unusedSimpArgs false
set_option linter.unusedVariables false
/-! ### reading numbers -/
/-- The number at the beginning of a string, its bytes, why not. -/
def rdB : Nat → Nat → List UInt8 → Nat × Nat × Int
  | _, _, [] => (0, 0, 11)
  | i, acc, b :: r => if (128 ≤ b.toNat ∧ i = 8) ∨ (b.toNat = 0 ∧ 0 < i) then (0, 0, 12) else if b.toNat < 128 then (acc + b.toNat * 2 ^ (7 * i), i + 1, 0) else rdB (i + 1) (acc + (b.toNat - 128) * 2 ^ (7 * i)) r
def rdV (s : List UInt8) : Int × Nat × Int := if (rdB 0 0 s).2.2 ≠ 0 then (0, 0, (rdB 0 0 s).2.2) else if 1152921504606846976 < (rdB 0 0 s).1 then (0, 0, 12) else ((rdB 0 0 s).1, (rdB 0 0 s).2.1, 0)
def unf (u : Nat) : Int := if u % 2 = 0 then ((u / 2 : Nat) : Int) else -((u / 2 : Nat) : Int) - 1
def rdS (s : List UInt8) : Int × Nat × Int := if (rdB 0 0 s).2.2 ≠ 0 then (0, 0, (rdB 0 0 s).2.2) else if inR (unf (rdB 0 0 s).1) = false then (0, 0, 12) else (unf (rdB 0 0 s).1, (rdB 0 0 s).2.1, 0)
theorem vb_pos (n : Nat) : 0 < (vb n).length := by
  rcases Nat.lt_or_ge n 128 with h | h
  · rw [vb_lt h]; simp
  · rw [vb_ge h]; simp
theorem rdB_vb : ∀ (k n i acc : Nat) (rest : List UInt8), i + k = 9 → n < 2 ^ (7 * k) → (i = 0 ∨ 0 < n) → rdB i acc (vb n ++ rest) = (acc + n * 2 ^ (7 * i), i + (vb n).length, 0)
  | 0, n, i, acc, rest, hi, hn, h0 => by
    have : n = 0 := by simpa using hn
    omega
  | k + 1, n, i, acc, rest, hi, hn, h0 => by
    rcases Nat.lt_or_ge n 128 with h | h
    · rw [vb_lt h]
      have e : (UInt8.ofNat n).toNat = n := by simp; omega
      simp only [List.cons_append, List.nil_append, rdB, e]
      rw [if_neg (by omega), if_pos h]; rfl
    · rw [vb_ge h]
      have e : (UInt8.ofNat (n % 128 + 128)).toNat = n % 128 + 128 := by simp; omega
      have hk : k ≠ 0 := by
        rintro rfl
        simp at hn; omega
      simp only [List.cons_append, rdB, e]
      rw [if_neg (by omega), if_neg (by omega)]
      have hd : n / 128 < 2 ^ (7 * k) := by
        have e2 : 2 ^ (7 * (k + 1)) = 2 ^ (7 * k) * 128 := by rw [Nat.mul_add, Nat.pow_add]
        rw [e2] at hn
        exact Nat.div_lt_of_lt_mul (by rw [Nat.mul_comm]; exact hn)
      rw [rdB_vb k (n / 128) (i + 1) _ rest (by omega) hd (.inr (by omega))]
      have e3 : 2 ^ (7 * (i + 1)) = 2 ^ (7 * i) * 128 := by rw [Nat.mul_add, Nat.pow_add]
      have e4 : n % 128 + 128 - 128 = n % 128 := by omega
      have e5 : n * 2 ^ (7 * i) = (n % 128) * 2 ^ (7 * i) + n / 128 * (2 ^ (7 * i) * 128) := by
        have : n = n % 128 + 128 * (n / 128) := (Nat.mod_add_div n 128).symm
        conv => lhs; rw [this]
        rw [Nat.add_mul, Nat.mul_comm (2 ^ (7 * i)) 128, ← Nat.mul_assoc, Nat.mul_comm (n / 128) 128]
      simp only [Prod.mk.injEq, and_true]
      refine ⟨?_, ?_⟩
      · rw [e3, e4, e5]; omega
      · simp only [List.length_cons]; omega
theorem rdV_vb {n : Nat} (h : n ≤ 1152921504606846976) (rest : List UInt8) : rdV (vb n ++ rest) = ((n : Int), (vb n).length, 0) := by
  have := rdB_vb 9 n 0 0 rest rfl (by omega) (.inl rfl)
  unfold rdV
  rw [this]
  simp only [Nat.mul_zero, Nat.pow_zero, Nat.mul_one, Nat.zero_add, ne_eq, not_true_eq_false, if_false]
  rw [if_neg (by omega)]
theorem unf_zz {n : Int} (h : inR n = true) : unf (zz n) = n := by
  simp only [inR, Bool.and_eq_true, decide_eq_true_eq] at h
  unfold unf zz
  split <;> split <;> omega
theorem rdS_vb {n : Int} (h : inR n = true) (rest : List UInt8) : rdS (vb (zz n) ++ rest) = (n, (vb (zz n)).length, 0) := by
  have := rdB_vb 9 (zz n) 0 0 rest rfl (by have := zz_lt h; omega) (.inl rfl)
  unfold rdS
  rw [this]
  simp only [Nat.mul_zero, Nat.pow_zero, Nat.mul_one, Nat.zero_add, ne_eq, not_true_eq_false, if_false, unf_zz h]
  rw [if_neg (by simp [h])]
theorem rdB_le : ∀ (s : List UInt8) (i acc : Nat), i ≤ 8 → acc < 2 ^ (7 * i) → (rdB i acc s).2.1 ≤ i + s.length ∧ (rdB i acc s).2.1 ≤ 9 ∧ (rdB i acc s).1 < 2 ^ 63 ∧ ((rdB i acc s).2.2 = 0 → i < (rdB i acc s).2.1)
  | [], i, acc, hi, ha => by simp [rdB]
  | b :: r, i, acc, hi, ha => by
    have hb := b.toNat_lt
    simp only [rdB]
    split
    · simp
    · split
      · simp only [List.length_cons]
        refine ⟨by omega, by omega, ?_, fun _ => by omega⟩
        have e2 : 2 ^ (7 * (i + 1)) = 128 * 2 ^ (7 * i) := by rw [Nat.mul_add, Nat.pow_add, Nat.mul_comm]
        have h1 : (b.toNat + 1) * 2 ^ (7 * i) ≤ 128 * 2 ^ (7 * i) := Nat.mul_le_mul_right _ (by omega)
        rw [Nat.add_mul] at h1
        have h2 : 2 ^ (7 * (i + 1)) ≤ 2 ^ 63 := Nat.pow_le_pow_right (by omega) (by omega)
        omega
      · rename_i h1 h2
        have e2 : 2 ^ (7 * (i + 1)) = 128 * 2 ^ (7 * i) := by rw [Nat.mul_add, Nat.pow_add, Nat.mul_comm]
        have h3 : (b.toNat - 128 + 1) * 2 ^ (7 * i) ≤ 128 * 2 ^ (7 * i) := Nat.mul_le_mul_right _ (by omega)
        rw [Nat.add_mul] at h3
        have := rdB_le r (i + 1) (acc + (b.toNat - 128) * 2 ^ (7 * i)) (by omega) (by omega)
        simp only [List.length_cons]
        refine ⟨by omega, by omega, this.2.2.1, fun h => by have := this.2.2.2 h; omega⟩
theorem rdV_le (s : List UInt8) : (rdV s).2.1 ≤ s.length ∧ 0 ≤ (rdV s).1 ∧ (rdV s).1 ≤ 1152921504606846976 ∧ ((rdV s).2.2 = 0 → 0 < (rdV s).2.1) := by
  have := rdB_le s 0 0 (by omega) (by decide)
  unfold rdV
  split
  · simp
    intro h; contradiction
  · rename_i h0
    split
    · simp
    · refine ⟨by simp only; omega, by simp only; omega, by simp only; omega, fun _ => this.2.2.2 (by simpa using h0)⟩
theorem rdS_le (s : List UInt8) : (rdS s).2.1 ≤ s.length ∧ inR (rdS s).1 = true ∧ ((rdS s).2.2 = 0 → 0 < (rdS s).2.1) := by
  have := rdB_le s 0 0 (by omega) (by decide)
  unfold rdS
  split
  · refine ⟨by simp, show inR 0 = true by decide, fun h => ?_⟩
    contradiction
  · rename_i h0
    split
    · exact ⟨by simp, show inR 0 = true by decide, fun h => by simp at h⟩
    · rename_i h1
      exact ⟨by simp only; omega, by simpa using h1, fun _ => this.2.2.2 (by simpa using h0)⟩
/-! ### lists of numbers -/
def rdN : Nat → List UInt8 → List Int × Nat × Int
  | 0, _ => ([], 0, 0)
  | k + 1, s => if (rdS s).2.2 ≠ 0 then ([], 0, (rdS s).2.2) else
    if (rdN k (s.drop (rdS s).2.1)).2.2 ≠ 0 then ([], 0, (rdN k (s.drop (rdS s).2.1)).2.2) else ((rdS s).1 :: (rdN k (s.drop (rdS s).2.1)).1, (rdS s).2.1 + (rdN k (s.drop (rdS s).2.1)).2.1, 0)
def decI (s : List UInt8) : List Int × Int := if (rdV s).2.2 ≠ 0 then ([], (rdV s).2.2) else if 20000 < (rdV s).1 then ([], 4) else
  if (rdN (rdV s).1.toNat (s.drop (rdV s).2.1)).2.2 ≠ 0 then ([], (rdN (rdV s).1.toNat (s.drop (rdV s).2.1)).2.2) else
  if (rdV s).2.1 + (rdN (rdV s).1.toNat (s.drop (rdV s).2.1)).2.1 ≠ s.length then ([], 12) else ((rdN (rdV s).1.toNat (s.drop (rdV s).2.1)).1, 0)
theorem rdN_enc : ∀ (l : List Int) (rest : List UInt8), l.all inR = true → rdN l.length (encL l ++ rest) = (l, (encL l).length, 0)
  | [], rest, _ => rfl
  | x :: r, rest, h => by
    simp only [List.all_cons, Bool.and_eq_true] at h
    have e : encL (x :: r) ++ rest = vb (zz x) ++ (encL r ++ rest) := by simp [encL]
    have hd : (vb (zz x) ++ (encL r ++ rest)).drop (vb (zz x)).length = encL r ++ rest := by simp
    rw [List.length_cons, e, rdN, rdS_vb h.1, hd, rdN_enc r rest h.2]
    simp [encL]
theorem decI_enc {l : List Int} (h : (encI l).2 = 0) : decI (encI l).1 = (l, 0) := by
  unfold encI at *
  split at h
  · cases h
  · rename_i hl
    split at h
    · rename_i hr
      rw [if_neg hl, if_pos hr]
      simp only
      unfold decI
      rw [rdV_vb (by omega)]
      have hd : (vb l.length ++ encL l).drop (vb l.length).length = encL l := by simp
      have e := rdN_enc l [] hr
      rw [List.append_nil] at e
      simp only [ne_eq, not_true_eq_false, if_false]
      rw [if_neg (by omega), Int.toNat_natCast, hd, e]
      simp
    · cases h
/-! ### columns -/
/-- A reader of a text: where it is, why it stopped. -/
abbrev RdT := Nat × Int
def numR (rd : List UInt8 → Int × Nat × Int) (t : List UInt8) (st : RdT) : Int × RdT := if st.2 ≠ 0 then (0, st) else ((rd (t.drop st.1)).1, (st.1 + (rd (t.drop st.1)).2.1, (rd (t.drop st.1)).2.2))
def runB (m : Nat) (y : Int × RdT) : Int := if y.2.2 = 0 ∧ (y.1 = 0 ∨ (m : Int) < y.1) then 12 else y.2.2
/-- The runs of m numbers, by fuel. -/
def runsR (t : List UInt8) : Nat → Nat → RdT → List Int × RdT
  | 0, _, st => ([], st)
  | k + 1, m, st => if m = 0 then ([], st) else
    let x := numR rdS t st
    let y := numR rdV t x.2
    if runB m y ≠ 0 then ([], (y.2.1, runB m y)) else
    let q := runsR t k (m - y.1.toNat) y.2
    (if q.2.2 ≠ 0 then ([], q.2) else (List.replicate y.1.toNat x.1 ++ q.1, q.2))
def sumsW (f : Int) : List Int → List Int
  | [] => [f]
  | x :: r => f :: sumsW (IntKind.i64.wrap (f + x)) r
def timesR (t : List UInt8) (c : Nat) (st : RdT) : List Int × RdT :=
  if c = 0 then ([], st) else
  let f := numR rdS t st
  if c = 1 then ([f.1], f.2) else
  let d := numR rdS t f.2
  let o := runsR t (c - 2) (c - 2) d.2
  (sumsW f.1 (sumsW d.1 o.1), o.2)
def valuesR (t : List UInt8) (c : Nat) (st : RdT) : List Int × RdT :=
  if c = 0 then ([], st) else
  let f := numR rdS t st
  let o := runsR t (c - 1) (c - 1) f.2
  (sumsW f.1 o.1, o.2)
def colR (rd : Nat → RdT → List Int × RdT) (enc : List Int → List UInt8 × Int) (t : List UInt8) : List Int × Int :=
  let c := numR rdV t (0, 0)
  if 20000 < c.1 then ([], 4) else
  let q := rd c.1.toNat c.2
  if q.2.2 ≠ 0 then ([], q.2.2) else if q.2.1 ≠ t.length then ([], 12) else if (enc q.1).2 = 0 ∧ (enc q.1).1 = t then (q.1, 0) else ([], 12)
def decT (t : List UInt8) : List Int × Int := colR (timesR t) encT t
def decV (t : List UInt8) : List Int × Int := colR (valuesR t) encV t
theorem numR_S {t rest : List UInt8} {at_ : Nat} {n : Int} (hd : t.drop at_ = vb (zz n) ++ rest) (h : inR n = true) : numR rdS t (at_, 0) = (n, (at_ + (vb (zz n)).length, 0)) := by
  simp [numR, hd, rdS_vb h]
theorem numR_V {t rest : List UInt8} {at_ n : Nat} (hd : t.drop at_ = vb n ++ rest) (h : n ≤ 1152921504606846976) : numR rdV t (at_, 0) = ((n : Int), (at_ + (vb n).length, 0)) := by
  simp [numR, hd, rdV_vb h]
theorem runE_cons (x : Int) (r : List Int) : ∃ m r', x :: r = List.replicate (m + 1) x ++ r' ∧ runE (x :: r) = vb (zz x) ++ (vb (m + 1) ++ runE r') ∧ r'.length + (m + 1) = r.length + 1 := by
  refine ⟨(r.takeWhile (· == x)).length, r.dropWhile (· == x), ?_, by rw [runE], ?_⟩
  · have h1 : r.takeWhile (· == x) = List.replicate (r.takeWhile (· == x)).length x := by
      rw [List.eq_replicate_iff]
      exact ⟨rfl, fun y hy => by have := List.all_eq_true.1 (List.all_takeWhile (p := (· == x)) (l := r)) y hy; simpa using this⟩
    rw [List.replicate_succ, ← h1, List.cons_append, List.takeWhile_append_dropWhile]
  · have := congrArg List.length (List.takeWhile_append_dropWhile (p := (· == x)) (l := r))
    rw [List.length_append] at this
    omega
theorem runsR_enc (t : List UInt8) : ∀ (k : Nat) (l : List Int) (at_ : Nat) (rest : List UInt8), l.length ≤ k → l.length ≤ 20000 → l.all inR = true → t.drop at_ = runE l ++ rest → runsR t k l.length (at_, 0) = (l, (at_ + (runE l).length, 0))
  | 0, l, at_, rest, hk, _, _, hd => by
    have : l = [] := List.length_eq_zero_iff.1 (by omega)
    subst this
    simp [runsR, runE]
  | k + 1, [], at_, rest, hk, _, _, hd => by simp [runsR, runE]
  | k + 1, x :: r, at_, rest, hk, hm, hr, hd => by
    obtain ⟨m, r', e1, e2, e3⟩ := runE_cons x r
    have hx : inR x = true := by simp only [List.all_cons, Bool.and_eq_true] at hr; exact hr.1
    have hr' : r'.all inR = true := by rw [e1, List.all_append, Bool.and_eq_true] at hr; exact hr.2
    simp only [List.length_cons] at hk hm
    rw [e2, List.append_assoc, List.append_assoc] at hd
    have n1 := numR_S hd hx
    have hd2 : t.drop (at_ + (vb (zz x)).length) = vb (m + 1) ++ (runE r' ++ rest) := by rw [← List.drop_drop, hd]; simp
    have n2 := numR_V hd2 (by omega)
    have hd3 : t.drop (at_ + (vb (zz x)).length + (vb (m + 1)).length) = runE r' ++ rest := by rw [← List.drop_drop, hd2]; simp
    have ih := runsR_enc t k r' _ rest (by omega) (by omega) hr' hd3
    rw [runsR, if_neg (by simp)]
    simp only [n1, n2]
    have hb : runB (x :: r).length (((m + 1 : Nat) : Int), (at_ + (vb (zz x)).length + (vb (m + 1)).length, 0)) = 0 := by
      unfold runB
      rw [if_neg]
      simp only [List.length_cons]
      omega
    have el : (x :: r).length - ((m + 1 : Nat) : Int).toNat = r'.length := by simp only [List.length_cons]; omega
    rw [if_neg (by rw [hb]; simp), el, ih]
    simp only [ne_eq, not_true_eq_false, if_false]
    refine Prod.ext ?_ (Prod.ext ?_ rfl)
    · show List.replicate ((m + 1 : Nat) : Int).toNat x ++ r' = x :: r
      rw [Int.toNat_natCast, e1]
    · rw [e2]; simp only [List.length_append]; omega
theorem sumsW_diffs : ∀ (x : Int) (r : List Int), (∀ y ∈ x :: r, -9223372036854775808 ≤ y ∧ y < 9223372036854775808) → sumsW x (diffs (x :: r)) = x :: r
  | x, [], _ => rfl
  | x, y :: r, h => by
    have hy := h y (by simp)
    have e : IntKind.i64.wrap (x + (y - x)) = y := by rw [wi64]; omega
    simp only [diffs, sumsW, e]
    rw [sumsW_diffs y r fun z hz => h z (by simp at hz ⊢; right; exact hz)]
theorem sumsW_diffs' {l : List Int} {x : Int} {r : List Int} (e : l = x :: r) (h : ∀ y ∈ l, -9223372036854775808 ≤ y ∧ y < 9223372036854775808) : sumsW x (diffs l) = l := by
  subst e; exact sumsW_diffs x r h
theorem decV_enc {l : List Int} (h : (encV l).2 = 0) : decV (encV l).1 = (l, 0) := by
  have hen : encV l = (vb l.length ++ first1 l ++ runE (diffs l), 0) ∧ l.length ≤ 20000 ∧ l.all inV = true := by
    unfold encV at h ⊢
    split at h
    · cases h
    · rename_i h1
      split at h
      · rename_i h2; rw [if_neg h1, if_pos h2]; exact ⟨rfl, by omega, h2⟩
      · cases h
  obtain ⟨he, hl, hv⟩ := hen
  have hV := inV_all hv
  have hR : ∀ x ∈ l, inR x = true := fun x hx => inV_R (List.all_eq_true.1 hv x hx)
  have hdR : (diffs l).all inR = true := List.all_eq_true.2 fun d hd => by have := diffs_mem hV d hd; simp [inR]; omega
  have hdl := diffs_len l
  generalize ht : (encV l).1 = t
  rw [he] at ht
  simp only at ht
  have n1 := numR_V (t := t) (at_ := 0) (n := l.length) (rest := first1 l ++ runE (diffs l)) (by rw [List.drop_zero, ← ht, List.append_assoc]) (by omega)
  have hq : valuesR t l.length (0 + (vb l.length).length, 0) = (l, (t.length, 0)) := by
    unfold valuesR
    cases l with
    | nil =>
      rw [← ht]
      simp [first1, diffs, runE]
    | cons x r =>
      rw [if_neg (by simp)]
      have hd : t.drop (0 + (vb (x :: r).length).length) = vb (zz x) ++ runE (diffs (x :: r)) := by rw [← ht]; simp [first1]
      have n2 := numR_S hd (hR x (by simp))
      have hd2 : t.drop (0 + (vb (x :: r).length).length + (vb (zz x)).length) = runE (diffs (x :: r)) ++ [] := by rw [← List.drop_drop, hd]; simp
      have n3 := runsR_enc t (diffs (x :: r)).length (diffs (x :: r)) _ [] (Nat.le_refl _) (by omega) hdR hd2
      rw [hdl] at n3
      simp only [n2, n3]
      rw [sumsW_diffs x r fun y hy => by have := hV y hy; omega]
      refine Prod.ext rfl (Prod.ext ?_ rfl)
      show _ = t.length
      rw [← ht]; simp only [List.length_append, first1]; omega
  show colR (valuesR t) encV t = _
  unfold colR
  simp only [n1]
  rw [if_neg (by omega), Int.toNat_natCast, hq]
  simp only [ne_eq, not_true_eq_false, if_false, he, ht, and_self, if_true]
theorem decT_enc {l : List Int} (h : (encT l).2 = 0) : decT (encT l).1 = (l, 0) := by
  have hc : chkT l = 0 := by
    unfold encT at h
    split at h
    · assumption
    · exact h
  have he : encT l = (vb l.length ++ first1 l ++ first1 (diffs l) ++ runE (diffs (diffs l)), 0) := by unfold encT; rw [if_pos hc]
  obtain ⟨hl, hV⟩ := chkT_ok hc
  have hR : ∀ x ∈ l, inR x = true := fun x hx => by have := hV x hx; simp [inR]; omega
  have hD := diffs_mem hV
  have hDR : ∀ x ∈ diffs l, inR x = true := fun x hx => by have := hD x hx; simp [inR]; omega
  have hDD := diffs_mem hD
  have hDDR : (diffs (diffs l)).all inR = true := List.all_eq_true.2 fun d hd => by have := hDD d hd; simp [inR]; omega
  have hdl := diffs_len l
  have hddl := diffs_len (diffs l)
  generalize ht : (encT l).1 = t
  rw [he] at ht
  simp only at ht
  have n1 := numR_V (t := t) (at_ := 0) (n := l.length) (rest := first1 l ++ (first1 (diffs l) ++ runE (diffs (diffs l)))) (by rw [List.drop_zero, ← ht]; simp only [List.append_assoc]) (by omega)
  have hq : timesR t l.length (0 + (vb l.length).length, 0) = (l, (t.length, 0)) := by
    unfold timesR
    match l, hl, hV, hR, hD, hDR, hDD, hDDR, hdl, hddl, ht with
    | [], _, _, _, _, _, _, _, _, _, ht =>
      rw [← ht]
      simp [first1, diffs, runE]
    | [x], _, _, hR, _, _, _, _, _, _, ht =>
      have hd : t.drop (0 + (vb [x].length).length) = vb (zz x) ++ [] := by rw [← ht]; simp [first1, diffs, runE]
      have n2 := numR_S hd (hR x (by simp))
      simp only [n2]
      rw [if_neg (by simp), if_pos (by simp), ← ht]
      simp [first1, diffs, runE]
    | x :: y :: r, hl, hV, hR, hD, hDR, hDD, hDDR, hdl, hddl, ht =>
      rw [if_neg (by simp)]
      have hd : t.drop (0 + (vb (x :: y :: r).length).length) = vb (zz x) ++ (vb (zz (y - x)) ++ runE (diffs (diffs (x :: y :: r)))) := by rw [← ht]; simp [first1, diffs]
      have n2 := numR_S hd (hR x (by simp))
      have hd2 : t.drop (0 + (vb (x :: y :: r).length).length + (vb (zz x)).length) = vb (zz (y - x)) ++ runE (diffs (diffs (x :: y :: r))) := by rw [← List.drop_drop, hd]; simp
      have n3 := numR_S hd2 (hDR (y - x) (by simp [diffs]))
      have hd3 : t.drop (0 + (vb (x :: y :: r).length).length + (vb (zz x)).length + (vb (zz (y - x))).length) = runE (diffs (diffs (x :: y :: r))) ++ [] := by rw [← List.drop_drop, hd2]; simp
      have n4 := runsR_enc t (diffs (diffs (x :: y :: r))).length (diffs (diffs (x :: y :: r))) _ [] (Nat.le_refl _) (by omega) hDDR hd3
      have e0 : (diffs (diffs (x :: y :: r))).length = (x :: y :: r).length - 2 := by omega
      rw [e0] at n4
      simp only [n2, n3, n4]
      rw [if_neg (by simp), sumsW_diffs' (l := diffs (x :: y :: r)) rfl fun z hz => by have := hD z hz; omega,
        sumsW_diffs' (l := x :: y :: r) rfl fun z hz => by have := hV z hz; omega]
      refine Prod.ext rfl (Prod.ext ?_ rfl)
      show _ = t.length
      rw [← ht]; simp only [List.length_append, first1, diffs]; omega
  show colR (timesR t) encT t = _
  unfold colR
  simp only [n1]
  rw [if_neg (by omega), Int.toNat_natCast, hq]
  simp only [ne_eq, not_true_eq_false, if_false, he, ht, and_self, if_true]
def decF (f : Int) (s : List UInt8) : List Int × Int := if f = 0 then decT s else if f = 1 then decV s else decI s
theorem decF_enc {f : Int} {l : List Int} (h : (encF f l).2 = 0) : decF f (encF f l).1 = (l, 0) := by
  unfold encF decF at *
  split at h
  · rename_i h0; rw [if_pos h0, if_pos h0]; exact decT_enc h
  · rename_i h0
    rw [if_neg h0, if_neg h0]
    split at h
    · rename_i h1; rw [if_pos h1, if_pos h1]; exact decV_enc h
    · rename_i h1; rw [if_neg h1, if_neg h1]; exact decI_enc h
/-! ### parts -/
/-- The contents of the parts, if there are just so many. -/
def splitN : Nat → List UInt8 → Option (List (List UInt8))
  | 0, s => if s = [] then some [] else none
  | k + 1, s => if s = [] then none else if (rdV s).2.2 ≠ 0 ∨ ((s.length - (rdV s).2.1 : Nat) : Int) < (rdV s).1 then none else
    (splitN k (s.drop ((rdV s).2.1 + (rdV s).1.toNat))).map (((s.drop (rdV s).2.1).take (rdV s).1.toNat) :: ·)
theorem flatP_cons (s : List UInt8) (r : List (List UInt8)) : flatP (s :: r) = vb s.length ++ (s ++ flatP r) := by simp [flatP]
theorem splitN_flat : ∀ ss : List (List UInt8), (∀ s ∈ ss, s.length ≤ 1152921504606846976) → splitN ss.length (flatP ss) = some ss
  | [], _ => rfl
  | s :: r, h => by
    have hs := h s (by simp)
    have hv := rdV_vb hs (s ++ flatP r)
    have hp := vb_pos s.length
    have hne : ¬ (flatP (s :: r) = []) := fun e => by
      have := congrArg List.length e
      rw [flatP_cons, List.length_append, List.length_nil] at this
      omega
    rw [List.length_cons, splitN, if_neg hne, flatP_cons, hv]
    simp only
    have hl : ((vb s.length ++ (s ++ flatP r)).length - (vb s.length).length : Nat) = s.length + (flatP r).length := by simp only [List.length_append]; omega
    rw [if_neg (by rw [hl]; rintro (h0 | h0); exact h0 rfl; omega), Int.toNat_natCast]
    have d1 : (vb s.length ++ (s ++ flatP r)).drop ((vb s.length).length + s.length) = flatP r := by rw [← List.drop_drop]; simp
    have d2 : ((vb s.length ++ (s ++ flatP r)).drop (vb s.length).length).take s.length = s := by simp
    rw [d1, d2, splitN_flat r fun x hx => h x (by simp [hx])]
    rfl
end Go.Proofs.YtedcnhbblgmdnaaGreat.Ab
namespace Go.Proofs.YtedcnhbblgmdnaaGreat.Ab
set_option maxHeartbeats 4000000
set_option linter.unusedSimpArgs false
set_option linter.unusedVariables false
/-- A column that is read: its form, its setter. -/
abbrev ColR (A : Type) := Int × (A → Int → A)
def unpkG {A : Type} : List (ColR A) → List (List UInt8) → List A → Option (List A)
  | c :: cs, s :: ss, l => if (decF c.1 s).2 ≠ 0 ∨ (decF c.1 s).1.length ≠ l.length then none else unpkG cs ss (List.zipWith c.2 l (decF c.1 s).1)
  | _, _, l => some l
def unpk {A : Type} (z : A) : List (ColR A) → List (List UInt8) → Option (List A)
  | c :: cs, s :: ss => if (decF c.1 s).2 ≠ 0 then none else unpkG cs ss ((decF c.1 s).1.map (c.2 z))
  | _, _ => some []
def smpR : List (ColR I2) := [(0, fun x n => (n, x.2)), (1, fun x n => (x.1, n))]
def bckR : List (ColR I2) := [(1, fun x n => (n, x.2)), (1, fun x n => (x.1, n))]
def hstR : List (ColR HSm) := [(0, fun x n => { x with t := n }), (1, fun x n => { x with h := { x.h with p := n } }), (1, fun x n => { x with h := { x.h with c := n } }), (1, fun x n => { x with h := { x.h with mn := n } }), (1, fun x n => { x with h := { x.h with mx := n } })]
def zHS : HSm := ⟨0, ⟨0, 0, 0, 0, 0, []⟩⟩
/-- Each histogram gets its sum and its buckets. -/
def distH : List HSm → List Int → List Int → List I2 → Option (List HSm)
  | x :: l, n :: ns, s :: ss, bs => if n < 0 ∨ (bs.length : Int) < n then none else (distH l ns ss (bs.drop n.toNat)).map ({ x with h := { x.h with s := s, bs := bs.take n.toNat } } :: ·)
  | _, _, _, bs => if bs = [] then some [] else none
def unpH : List (List UInt8) → Option (List HSm)
  | [c0, c1, c2, c3, c4, c5, c6, c7, c8] => match unpk zHS hstR [c0, c1, c2, c3, c4] with
    | none => none
    | some l => if (decV c5).2 ≠ 0 ∨ (decV c5).1.length ≠ l.length then none else match unpk (0, 0) bckR [c6, c7] with
      | none => none
      | some bs => if (decI c8).2 ≠ 0 ∨ (decI c8).1.length ≠ l.length then none else distH l (decV c5).1 (decI c8).1 bs
  | _ => none
/-- The series in data, valid or not. -/
def parseS (lb : List Lb) (d : List UInt8) : Option Ser :=
  if (rdV d).2.2 ≠ 0 ∨ 262144 < d.length then none else
  if (rdV d).1 = 3 then (match splitN 9 (d.drop (rdV d).2.1) with
    | none => none
    | some ss => (unpH ss).map fun l => ⟨lb, (rdV d).1, [], l⟩)
  else match splitN 2 (d.drop (rdV d).2.1) with
    | none => none
    | some ss => (unpk (0, 0) smpR ss).map fun l => ⟨lb, (rdV d).1, l, []⟩
/-- The data of Encode. -/
def encO (x : Ser) : Option (List UInt8) := if serOK x = false then none else match colsOK (serCs x) with
  | none => none
  | some ss => jn (appV [] x.k).1 ss
instance : DecidableEq Zo := fun ⟨a, b, c, d, e⟩ ⟨a', b', c', d', e'⟩ => decidable_of_iff (a = a' ∧ b = b' ∧ c = c' ∧ d = d' ∧ e = e') (by simp)
/-- The series of a chunk. -/
def decR (lb : List Lb) (z : Zo) (d : List UInt8) : Option Ser := match parseS lb d with
  | none => none
  | some x => if encO x = some d ∧ serZ x = z then some x else none
theorem zipWith_mm {A B : Type} (f : B → Int → B) (g : A → B) (h : A → Int) : ∀ l : List A, List.zipWith f (l.map g) (l.map h) = l.map fun a => f (g a) (h a)
  | [] => rfl
  | a :: r => by simp [zipWith_mm f g h r]
theorem unpkG_enc {A : Type} (l : List A) : ∀ (cs : List (ColR A × (A → Int))) (g : A → A), (∀ c ∈ cs, (encF c.1.1 (l.map c.2)).2 = 0) →
    unpkG (cs.map (·.1)) (cs.map fun c => (encF c.1.1 (l.map c.2)).1) (l.map g) = some (l.map (cs.foldl (fun g c => fun a => c.1.2 (g a) (c.2 a)) g))
  | [], g, _ => rfl
  | c :: r, g, h => by
    simp only [List.map_cons, unpkG, decF_enc (h c (by simp)), List.length_map]
    rw [if_neg (by simp), zipWith_mm, unpkG_enc l r _ fun x hx => h x (by simp [hx])]
    rfl
theorem unpk_enc {A : Type} (z : A) (l : List A) (c : ColR A × (A → Int)) (cs : List (ColR A × (A → Int))) (h : ∀ x ∈ c :: cs, (encF x.1.1 (l.map x.2)).2 = 0) :
    unpk z ((c :: cs).map (·.1)) ((c :: cs).map fun c => (encF c.1.1 (l.map c.2)).1) = some (l.map ((c :: cs).foldl (fun g c => fun a => c.1.2 (g a) (c.2 a)) fun _ => z)) := by
  simp only [List.map_cons, unpk, decF_enc (h c (by simp)), List.map_map]
  rw [if_neg (by simp)]
  exact unpkG_enc l cs _ fun x hx => h x (by simp [hx])
theorem colsOK_some {cs : List (List UInt8 × Int)} {ss : List (List UInt8)} (h : colsOK cs = some ss) : ss = cs.map (·.1) ∧ ∀ c ∈ cs, c.2 = 0 := by
  unfold colsOK at h
  split at h
  · rename_i hc
    cases h
    refine ⟨rfl, fun c hm => ?_⟩
    have := List.all_eq_true.1 hc c hm
    simpa using this
  · cases h
/-- A histogram without its sum and its buckets. -/
def bareH (x : HSm) : HSm := ⟨x.t, ⟨x.h.p, x.h.c, 0, x.h.mn, x.h.mx, []⟩⟩
end Go.Proofs.YtedcnhbblgmdnaaGreat.Ab
namespace Go.Proofs.YtedcnhbblgmdnaaGreat.Ab
set_option maxHeartbeats 4000000
set_option linter.unusedSimpArgs false
set_option linter.unusedVariables false
/-! ### rollups, encoded and read again -/
/-- A zone with whatever bits. -/
structure ZG where
  c : Int
  t1 : Int
  t2 : Int
  v1 : Int
  v2 : Int
  b0 : Int
  b1 : Int
  b2 : Int
  b3 : Int
  b4 : Int
  b5 : Int
  b6 : Int
  b7 : Int
  deriving DecidableEq
abbrev pU (n : Int) : Pd := .int .u32 n
abbrev ZG.pd (z : ZG) : List Pd := [pI z.c, pI z.t1, pI z.t2, pI z.v1, pI z.v2, pU z.b0, pU z.b1, pU z.b2, pU z.b3, pU z.b4, pU z.b5, pU z.b6, pU z.b7]
abbrev Zo.g (z : Zo) : ZG := ⟨z.c, z.t1, z.t2, z.v1, z.v2, 0, 0, 0, 0, 0, 0, 0, 0⟩
def zB : Bkt := ⟨0, 0, 0, 0, 0, 0, 0, 0, 0, 0⟩
def bktR : List (ColR Bkt) := [(0, fun b n => { b with st := IntKind.i64.wrap (n - 1) }), (1, fun b n => { b with c := n }), (1, fun b n => { b with s := n }), (1, fun b n => { b with mn := n }), (1, fun b n => { b with mx := n }), (1, fun b n => { b with f := n }), (1, fun b n => { b with l := n }), (1, fun b n => { b with ft := n }), (1, fun b n => { b with lt := n }), (1, fun b n => { b with inc := n })]
/-- The rollup in data, valid or not. -/
def parseL (lb : List Lb) (d : List UInt8) : Option Rlp :=
  if (rdV d).2.2 ≠ 0 ∨ 262144 < d.length then none else
  if (rdV (d.drop (rdV d).2.1)).2.2 ≠ 0 then none else
  match splitN 10 (d.drop ((rdV d).2.1 + (rdV (d.drop (rdV d).2.1)).2.1)) with
  | none => none
  | some ss => (unpk zB bktR ss).map fun l => ⟨lb, (rdV d).1, (rdV (d.drop (rdV d).2.1)).1, l⟩
/-- The data of EncodeRollup. -/
def encLo (x : Rlp) : Option (List UInt8) := if rlpOK x = false then none else match packE x.bs bktCols with
  | none => none
  | some ss => jn (appV (appV [] x.k).1 x.w).1 ss
theorem encR_some {x : Rlp} {d : List UInt8} (h : encLo x = some d) : encR x = .tup [chV 6 (.lst x.lb.length (x.lb.flatMap lbP)) (rlpZ x.bs).pd d, .c (.p (pI 0))] := by
  unfold encLo at h
  unfold encR
  split at h
  · cases h
  · rename_i hs
    rw [if_neg hs]
    split at h
    · cases h
    · rename_i ss hss
      rw [hss]
      simp only [h, finE]
theorem encR_none {x : Rlp} (h : encLo x = none) : encR x = .tup [noCh, .c (.p (pI (if rlpOK x then 4 else 1)))] := by
  unfold encLo at h
  unfold encR
  split at h
  · rename_i hs; rw [if_pos hs, hs]; rfl
  · rename_i hs
    have hs' : rlpOK x = true := by simpa using hs
    rw [if_neg hs, hs', if_pos rfl]
    split at h
    · rename_i hss; rw [hss]
    · rename_i ss hss
      rw [hss]
      simp only [h, finE]
/-- The rollup of a chunk. -/
def decL (lb : List Lb) (z : ZG) (d : List UInt8) : Option Rlp := match parseL lb d with
  | none => none
  | some x => if encLo x = some d ∧ (rlpZ x.bs).g = z then some x else none
theorem bksOK_st {k w : Int} : ∀ {l : List Bkt} {p : Int}, bksOK k w p l = true → -1 ≤ p → ∀ b ∈ l, 0 ≤ b.st ∧ b.st < 1099511627776
  | [], p, _, _ => fun b hb => by cases hb
  | a :: r, p, h, hp => by
    simp only [bksOK, Bool.and_eq_true, Bool.not_eq_true', Bool.or_eq_false_iff, decide_eq_false_iff_not] at h
    obtain ⟨⟨⟨h1, h2⟩, _⟩, _, h3⟩ := h
    intro b hb
    rcases List.mem_cons.1 hb with rfl | hb
    · omega
    · exact bksOK_st h3 (by omega) b hb
def bktCs (l : List Bkt) : List (List UInt8 × Int) := bktCols.map fun c => encF c.f (l.map c.get)
theorem unpk_bkt {l : List Bkt} {ss : List (List UInt8)} (h : colsOK (bktCs l) = some ss) (hb : ∀ b ∈ l, 0 ≤ b.st ∧ b.st < 1099511627776) : unpk zB bktR ss = some l := by
  obtain ⟨rfl, hz⟩ := colsOK_some h
  simp only [bktCs, bktCols, List.map_cons, List.map_nil, List.forall_mem_cons] at hz
  obtain ⟨z0, z1, z2, z3, z4, z5, z6, z7, z8, z9, _⟩ := hz
  have := unpk_enc zB l ((0, fun b n => { b with st := IntKind.i64.wrap (n - 1) }), (fun b => IntKind.i64.wrap (b.st + 1))) [((1, fun b n => { b with c := n }), (·.c)), ((1, fun b n => { b with s := n }), (·.s)), ((1, fun b n => { b with mn := n }), (·.mn)), ((1, fun b n => { b with mx := n }), (·.mx)), ((1, fun b n => { b with f := n }), (·.f)), ((1, fun b n => { b with l := n }), (·.l)), ((1, fun b n => { b with ft := n }), (·.ft)), ((1, fun b n => { b with lt := n }), (·.lt)), ((1, fun b n => { b with inc := n }), (·.inc))] (by
    intro c hc
    simp only [List.mem_cons, List.not_mem_nil, or_false] at hc
    rcases hc with rfl | rfl | rfl | rfl | rfl | rfl | rfl | rfl | rfl | rfl <;> assumption)
  simp only [List.map_cons, List.map_nil, List.foldl_cons, List.foldl_nil] at this
  simp only [bktCs, bktCols, bktR, List.map_cons, List.map_nil]
  rw [this]
  congr 1
  rw [List.map_congr_left (g := id), List.map_id]
  intro b hbm
  obtain ⟨h1, h2⟩ := hb b hbm
  have e : IntKind.i64.wrap (IntKind.i64.wrap (b.st + 1) - 1) = b.st := by rw [wi64, wi64]; omega
  simp only [e, id]
/-- What encLo tells. -/
theorem encLo_some {x : Rlp} {d : List UInt8} (h : encLo x = some d) : rlpOK x = true ∧ ∃ ss, colsOK (bktCs x.bs) = some ss ∧ d = vb x.k.toNat ++ (vb x.w.toNat ++ flatP ss) ∧ d.length ≤ 262144 := by
  unfold encLo at h
  split at h
  · cases h
  · rename_i hs
    have hs' : rlpOK x = true := by simpa using hs
    obtain ⟨hk, hw, _, _⟩ := rlpOK_some hs'
    refine ⟨hs', ?_⟩
    rw [packE_cols] at h
    split at h
    · cases h
    · rename_i ss hss
      have e : (appV (appV [] x.k).1 x.w).1 = vb x.k.toNat ++ vb x.w.toNat := by
        have e1 : appV [] x.k = (vb x.k.toNat, 0) := by unfold appV; rw [if_neg (by omega)]; rfl
        rw [e1]; unfold appV; rw [if_neg (by omega)]
      have hv := vb_len10 (n := x.k.toNat) (by omega)
      have hv2 := vb_len10 (n := x.w.toNat) (by omega)
      rw [e, jn_eq _ _ (by rw [List.length_append]; omega)] at h
      split at h
      · cases h
      · rename_i hl
        cases h
        exact ⟨ss, hss, by rw [List.append_assoc], by omega⟩
theorem bktCs_n (l : List Bkt) {ss : List (List UInt8)} (h : colsOK (bktCs l) = some ss) : ss.length = 10 := by
  obtain ⟨rfl, _⟩ := colsOK_some h
  simp [bktCs, bktCols]
theorem flatP_parts {p d : List UInt8} {ss : List (List UInt8)} (hd : d = p ++ flatP ss) (hl : d.length ≤ 262144) : ∀ s ∈ ss, s.length ≤ 1152921504606846976 := by
  intro s hs
  have : s.length ≤ (flatP ss).length := by
    obtain ⟨a, b, rfl⟩ := List.append_of_mem hs
    simp only [flatP, List.flatMap_append, List.flatMap_cons, List.length_append]
    omega
  rw [hd, List.length_append] at hl
  omega
/-- Reading what was encoded. -/
theorem parseL_enc {x : Rlp} {d : List UInt8} (h : encLo x = some d) : parseL x.lb d = some x := by
  obtain ⟨hs, ss, hss, hd, hl⟩ := encLo_some h
  obtain ⟨hk, hw, _, _⟩ := rlpOK_some hs
  have hp := flatP_parts (p := vb x.k.toNat ++ vb x.w.toNat) (by rw [hd, List.append_assoc]) hl
  have hn := bktCs_n x.bs hss
  have hv := rdV_vb (n := x.k.toNat) (by omega) (vb x.w.toNat ++ flatP ss)
  rw [← hd] at hv
  have hdr : d.drop (vb x.k.toNat).length = vb x.w.toNat ++ flatP ss := by rw [hd]; simp
  have hv2 := rdV_vb (n := x.w.toNat) (by omega) (flatP ss)
  have hdr2 : d.drop ((vb x.k.toNat).length + (vb x.w.toNat).length) = flatP ss := by rw [← List.drop_drop, hdr]; simp
  have hkk : ((x.k.toNat : Nat) : Int) = x.k := by omega
  have hww : ((x.w.toNat : Nat) : Int) = x.w := by omega
  have hst : ∀ b ∈ x.bs, 0 ≤ b.st ∧ b.st < 1099511627776 := by
    unfold rlpOK at hs
    simp only [Bool.and_eq_true] at hs
    exact bksOK_st hs.2.2 (Int.le_refl _)
  have hsp := splitN_flat ss hp
  rw [hn] at hsp
  unfold parseL
  rw [hv]
  simp only [hdr, hv2, hdr2, hkk, hww]
  rw [if_neg (by simp; omega), if_neg (by simp), hsp]
  simp only [unpk_bkt hss hst, Option.map_some]
theorem decL_enc {x : Rlp} {d : List UInt8} (h : encLo x = some d) : decL x.lb (rlpZ x.bs).g d = some x := by
  unfold decL
  rw [parseL_enc h]
  simp only [h]
  rw [if_pos ⟨trivial, trivial⟩]
end Go.Proofs.YtedcnhbblgmdnaaGreat.Ab
namespace Go.Proofs.YtedcnhbblgmdnaaGreat.Ab
set_option maxHeartbeats 8000000
set_option maxRecDepth 10000
set_option linter.unusedSimpArgs false
set_option linter.unusedVariables false
/-- A chunk. -/
structure Chk where
  sig : Int
  lb : List Lb
  z : ZG
  d : List UInt8
abbrev Chk.pd (c : Chk) : List Pd := [pI c.sig, .lst c.lb.length (c.lb.flatMap lbP), pI c.z.c, pI c.z.t1, pI c.z.t2, pI c.z.v1, pI c.z.v2, pU c.z.b0, pU c.z.b1, pU c.z.b2, pU c.z.b3, pU c.z.b4, pU c.z.b5, pU c.z.b6, pU c.z.b7, .str c.d]
/-- A block. -/
structure Blk where
  id : Int
  w : Int
  fr : Int
  cs : List Chk
abbrev Blk.pd (b : Blk) : List Pd := [pI b.id, pI b.w, pI b.fr, .lst b.cs.length (b.cs.flatMap Chk.pd)]
/-- A chunk that is not too long. -/
structure Cz (c : Chk) : Prop where
  lb : c.lb.length < 2^40
  ls : ∀ y ∈ c.lb, y.1.length < 2^50 ∧ y.2.length < 2^50
  d : c.d.length < 2^40
def cmpI (a b : Int) : Int := if a < b then -1 else if b < a then 1 else 0
def zG1 (z : ZG) : Bool := (z.t1 == 0) && ((z.t2 == 0) && ((z.v1 == 0) && ((z.v2 == 0) && ((z.b0 == 0) && ((z.b1 == 0) && ((z.b2 == 0) && ((z.b3 == 0) && ((z.b4 == 0) && ((z.b5 == 0) && ((z.b6 == 0) && (z.b7 == 0)))))))))))
/-- Why a zone is not valid. -/
def zkG (z : ZG) : Int := bif decide (z.c < 0) || decide (1152921504606846976 < z.c) then 2 else bif z.c == 0 then (bif zG1 z then 0 else 10) else bif !isT z.t1 || !isT z.t2 then 2 else bif decide (z.t2 < z.t1) then 9 else bif !isVl z.v1 || !isVl z.v2 then 2 else bif decide (z.v2 < z.v1) then 9 else 0
/-- Why a chunk cannot be in a block. -/
def ckC (c : Chk) (w : Int) : Int := bif decide (c.sig < 1) || decide (6 < c.sig) then 8 else bif !((c.sig == 6) == (w != 0)) then 8 else bif lckA c.lb != 0 then lckA c.lb else bif ((c.sig == 3) || (c.sig == 5)) && decide (0 < (c.lb.length : Int)) then 1 else bif zkG c.z != 0 then zkG c.z else bif decide (262144 < (c.d.length : Int)) then 4 else 0
def cmpC (a b : Chk) : Int := if cmpI a.sig b.sig ≠ 0 then cmpI a.sig b.sig else cmpL a.lb b.lb
def cksC (w : Int) : Option Chk → List Chk → Int
  | _, [] => 0
  | none, c :: r => bif ckC c w != 0 then ckC c w else cksC w (some c) r
  | some q, c :: r => bif ckC c w != 0 then ckC c w else bif decide (0 ≤ cmpC q c) then 9 else cksC w (some c) r
/-- Why a block is not valid. -/
def blkC (b : Blk) : Int := bif decide (b.id < 1) || decide (1152921504606846976 < b.id) then 2 else bif decide (b.w < 0) || decide (1099511627776 < b.w) then 2 else bif (decide (b.fr < 0) || decide (1099511627776 < b.fr)) || ((b.w == 0) && (b.fr != 0)) then 2 else bif decide (4000 < (b.cs.length : Int)) then 4 else cksC b.w none b.cs
def prevC (l : List Chk) (i : Nat) : Option Chk := if i = 0 then none else l[i - 1]?
/-- 214: cmp.isNaN[int] -/
theorem pf214 (a : Int) : Pf E0 214 [.c (.p (pI a))] (P' (.bool false)) := by
  refine Pf.body (fn := Tryz.f214) (by kernel_rfl) rfl ?_; simp only [List.map_cons, List.map_nil, List.cons_append, List.nil_append, List.length_cons, List.length_nil, Tryz.ntmps214, List.replicate, Nat.reduceSub, Nat.reduceAdd]
  refine Wc.seq ?_
  refine Wc.reg fun K hK => ?_; simp only [go_sem, ti3, ti4, ti5, ti9, ti32, ti22, ti94, ti96, ti65, ti67, ti175, Int.natCast_zero]; refine hK _ _ ?_; clear hK K
  refine Wc.seq ?_
  refine Wc.reg fun K hK => ?_; simp only [go_sem, ti3, ti4, ti5, ti9, ti32, ti22, ti94, ti96, ti65, ti67, ti175, Int.natCast_zero, bne_self_eq_false]; refine hK _ _ ?_; clear hK K
  exact Wc.ret (Pf.ret [.tmp 2] [.c (.p (.bool false))] rfl rfl (by simp only [resultsD, go_sem, ti3, ti4, ti5, ti9, ti32, ti22, ti94, ti96, ti65, ti67, ti175, Int.natCast_zero]) rfl)
/-- 138: cmp.Compare[int] -/
theorem pf138 (a b : Int) : Pf E0 138 [.c (.p (pI a)), .c (.p (pI b))] (P' (pI (cmpI a b))) := by
  refine Pf.body (fn := Tryz.f138) (by kernel_rfl) rfl ?_; simp only [List.map_cons, List.map_nil, List.cons_append, List.nil_append, List.length_cons, List.length_nil, Tryz.ntmps138, List.replicate, Nat.reduceSub, Nat.reduceAdd]
  refine Wc.seq ?_
  refine Wc.reg fun K hK => ?_; simp only [go_sem, ti3, ti4, ti5, ti9, ti32, ti22, ti94, ti96, ti65, ti67, ti175, Int.natCast_zero]; refine hK _ _ ?_; clear hK K
  refine Wc.seq ?_
  refine Wc.reg fun K hK => ?_; simp only [go_sem, ti3, ti4, ti5, ti9, ti32, ti22, ti94, ti96, ti65, ti67, ti175, Int.natCast_zero]
  refine wpCall.pf (pf214 a) (by kernel_rfl) (by kernel_rfl) rfl rfl ?_
  simp only [go_sem, ti3, ti4, ti5, ti9, ti32, ti22, ti94, ti96, ti65, ti67, ti175, Int.natCast_zero]; refine hK _ _ ?_; clear hK K
  refine Wc.seq ?_
  refine Wc.reg fun K hK => ?_; simp only [go_sem, ti3, ti4, ti5, ti9, ti32, ti22, ti94, ti96, ti65, ti67, ti175, Int.natCast_zero]
  refine wpCall.pf (pf214 b) (by kernel_rfl) (by kernel_rfl) rfl rfl ?_
  simp only [go_sem, ti3, ti4, ti5, ti9, ti32, ti22, ti94, ti96, ti65, ti67, ti175, Int.natCast_zero]; refine hK _ _ ?_; clear hK K
  refine Wc.seq (Wc.seq ?_)
  refine Wc.reg fun K hK => ?_; simp only [go_sem, ti3, ti4, ti5, ti9, ti32, ti22, ti94, ti96, ti65, ti67, ti175, Int.natCast_zero]; refine hK _ _ ?_; clear hK K
  refine Wc.cond (t := false) (by simp only [go_sem, ti3, ti4, ti5, ti9, ti32, ti22, ti94, ti96, ti65, ti67, ti175, Int.natCast_zero]) (fun hc => by cases hc) (fun _ => Wc.skip ?_)
  refine Wc.seq (Wc.seq ?_)
  refine Wc.reg fun K hK => ?_; simp only [go_sem, ti3, ti4, ti5, ti9, ti32, ti22, ti94, ti96, ti65, ti67, ti175, Int.natCast_zero]; refine hK _ _ ?_; clear hK K
  refine Wc.cond (t := false) (by simp only [go_sem, ti3, ti4, ti5, ti9, ti32, ti22, ti94, ti96, ti65, ti67, ti175, Int.natCast_zero]) (fun hc => by cases hc) (fun _ => Wc.skip ?_)
  refine Wc.seq (Wc.seq ?_)
  by_cases h1 : a < b
  · have e : cmpI a b = -1 := by unfold cmpI; rw [if_pos h1]
    rw [e]
    refine Wc.reg fun K hK => ?_; simp only [go_sem, ti3, ti4, ti5, ti9, ti32, ti22, ti94, ti96, ti65, ti67, ti175, Int.natCast_zero, h1]; refine hK _ _ ?_; clear hK K
    refine Wc.cond (t := true) (by simp only [go_sem, ti3, ti4, ti5, ti9, ti32, ti22, ti94, ti96, ti65, ti67, ti175, Int.natCast_zero, h1]) (fun _ => ?_) (fun hc => by cases hc)
    refine Wc.seq ?_
    refine Wc.reg fun K hK => ?_; simp only [go_sem, ti3, ti4, ti5, ti9, ti32, ti22, ti94, ti96, ti65, ti67, ti175, Int.natCast_zero]; refine hK _ _ ?_; clear hK K
    exact Wc.ret (Pf.ret [.tmp 4] [.c (.p (pI (-1)))] rfl rfl (by simp only [resultsD, go_sem, ti3, ti4, ti5, ti9, ti32, ti22, ti94, ti96, ti65, ti67, ti175, Int.natCast_zero]) rfl)
  refine Wc.reg fun K hK => ?_; simp only [go_sem, ti3, ti4, ti5, ti9, ti32, ti22, ti94, ti96, ti65, ti67, ti175, Int.natCast_zero, h1]; refine hK _ _ ?_; clear hK K
  refine Wc.cond (t := false) (by simp only [go_sem, ti3, ti4, ti5, ti9, ti32, ti22, ti94, ti96, ti65, ti67, ti175, Int.natCast_zero, h1]) (fun hc => by cases hc) (fun _ => Wc.skip ?_)
  refine Wc.seq (Wc.seq ?_)
  by_cases h2 : b < a
  · have e : cmpI a b = 1 := by unfold cmpI; rw [if_neg h1, if_pos h2]
    rw [e]
    refine Wc.reg fun K hK => ?_; simp only [go_sem, ti3, ti4, ti5, ti9, ti32, ti22, ti94, ti96, ti65, ti67, ti175, Int.natCast_zero, h1, h2]; refine hK _ _ ?_; clear hK K
    refine Wc.cond (t := true) (by simp only [go_sem, ti3, ti4, ti5, ti9, ti32, ti22, ti94, ti96, ti65, ti67, ti175, Int.natCast_zero, h1, h2]) (fun _ => ?_) (fun hc => by cases hc)
    refine Wc.seq ?_
    refine Wc.reg fun K hK => ?_; simp only [go_sem, ti3, ti4, ti5, ti9, ti32, ti22, ti94, ti96, ti65, ti67, ti175, Int.natCast_zero]; refine hK _ _ ?_; clear hK K
    exact Wc.ret (Pf.ret [.tmp 4] [.c (.p (pI 1))] rfl rfl (by simp only [resultsD, go_sem, ti3, ti4, ti5, ti9, ti32, ti22, ti94, ti96, ti65, ti67, ti175, Int.natCast_zero]) rfl)
  · have e : cmpI a b = 0 := by unfold cmpI; rw [if_neg h1, if_neg h2]
    rw [e]
    refine Wc.reg fun K hK => ?_; simp only [go_sem, ti3, ti4, ti5, ti9, ti32, ti22, ti94, ti96, ti65, ti67, ti175, Int.natCast_zero, h1, h2]; refine hK _ _ ?_; clear hK K
    refine Wc.cond (t := false) (by simp only [go_sem, ti3, ti4, ti5, ti9, ti32, ti22, ti94, ti96, ti65, ti67, ti175, Int.natCast_zero, h1, h2]) (fun hc => by cases hc) (fun _ => Wc.skip ?_)
    refine Wc.seq ?_
    refine Wc.reg fun K hK => ?_; simp only [go_sem, ti3, ti4, ti5, ti9, ti32, ti22, ti94, ti96, ti65, ti67, ti175, Int.natCast_zero]; refine hK _ _ ?_; clear hK K
    exact Wc.ret (Pf.ret [.tmp 4] [.c (.p (pI 0))] rfl rfl (by simp only [resultsD, go_sem, ti3, ti4, ti5, ti9, ti32, ti22, ti94, ti96, ti65, ti67, ti175, Int.natCast_zero]) rfl)
/-- 190: unlabelled -/
theorem pf190 (a : Int) : Pf E0 190 [.c (.p (pI a))] (P' (.bool ((a == 3) || (a == 5)))) := by
  refine Pf.body (fn := Tryz.f190) (by kernel_rfl) rfl ?_; simp only [List.map_cons, List.map_nil, List.cons_append, List.nil_append, List.length_cons, List.length_nil, Tryz.ntmps190, List.replicate, Nat.reduceSub, Nat.reduceAdd]
  refine Wc.seq ?_
  refine Wc.reg fun K hK => ?_; simp only [go_sem, ti3, ti4, ti5, ti9, ti32, ti22, ti94, ti96, ti65, ti67, ti175, Int.natCast_zero]; refine hK _ _ ?_; clear hK K
  refine Wc.seq ?_
  cases h : (a == 3) with
  | true =>
    refine Wc.reg fun K hK => ?_; simp only [go_sem, ti3, ti4, ti5, ti9, ti32, ti22, ti94, ti96, ti65, ti67, ti175, Int.natCast_zero, h]; refine hK _ _ ?_; clear hK K
    exact Wc.ret (Pf.ret [.tmp 2] [.c (.p (.bool true))] rfl rfl (by simp only [resultsD, go_sem, ti3, ti4, ti5, ti9, ti32, ti22, ti94, ti96, ti65, ti67, ti175, Int.natCast_zero]) rfl)
  | false =>
    refine Wc.reg fun K hK => ?_; simp only [go_sem, ti3, ti4, ti5, ti9, ti32, ti22, ti94, ti96, ti65, ti67, ti175, Int.natCast_zero, h]; refine hK _ _ ?_; clear hK K
    exact Wc.ret (Pf.ret [.tmp 2] [.c (.p (.bool (a == 5)))] rfl rfl (by simp only [resultsD, go_sem, ti3, ti4, ti5, ti9, ti32, ti22, ti94, ti96, ti65, ti67, ti175, Int.natCast_zero]) rfl)
/-- 191: Check -/
theorem pf191 (z : ZG) : Pf E0 191 [.agg (z.pd.map .p)] (P' (pI (zkG z))) := by
  generalize hR : zkG z = R
  unfold zkG at hR
  refine Pf.body (fn := Tryz.f191) (by kernel_rfl) rfl ?_; simp only [List.map_cons, List.map_nil, List.cons_append, List.nil_append, List.length_cons, List.length_nil, Tryz.ntmps191, List.replicate, Nat.reduceSub, Nat.reduceAdd]
  refine Wc.seq ?_
  refine Wc.reg fun K hK => ?_; simp only [go_sem, ti3, ti4, ti5, ti9, ti32, ti22, ti94, ti96, ti65, ti67, ti175, Int.natCast_zero]; refine hK _ _ ?_; clear hK K
  refine Wc.seq (Wc.seq ?_)
  rcases Bool.eq_false_or_eq_true (decide (z.c < 0)) with a1 | a1
  · refine Wc.reg fun K hK => ?_; simp only [go_sem, ti3, ti4, ti5, ti9, ti32, ti22, ti94, ti96, ti65, ti67, ti175, Int.natCast_zero, a1]; refine hK _ _ ?_; clear hK K
    refine Wc.cond (t := true) (by simp only [go_sem, ti3, ti4, ti5, ti9, ti32, ti22, ti94, ti96, ti65, ti67, ti175, Int.natCast_zero, a1]) (fun _ => ?_) (fun hc => by cases hc)
    refine Wc.seq ?_
    refine Wc.reg fun K hK => ?_; simp only [go_sem, ti3, ti4, ti5, ti9, ti32, ti22, ti94, ti96, ti65, ti67, ti175, Int.natCast_zero]; refine hK _ _ ?_; clear hK K
    obtain rfl : R = 2 := by rw [← hR]; simp only [a1, Bool.or_true, Bool.true_or, Bool.or_false, Bool.false_or, Bool.and_true, Bool.true_and, Bool.false_and, Bool.and_false, Bool.not_true, Bool.not_false, cond_true, cond_false]
    exact Wc.ret (Pf.ret [.tmp 2] [.c (.p (pI 2))] rfl rfl (by simp only [resultsD, go_sem, ti3, ti4, ti5, ti9, ti32, ti22, ti94, ti96, ti65, ti67, ti175, Int.natCast_zero]) rfl)
  rcases Bool.eq_false_or_eq_true (decide (1152921504606846976 < z.c)) with a2 | a2
  · refine Wc.reg fun K hK => ?_; simp only [go_sem, ti3, ti4, ti5, ti9, ti32, ti22, ti94, ti96, ti65, ti67, ti175, Int.natCast_zero, a1, a2]; refine hK _ _ ?_; clear hK K
    refine Wc.cond (t := true) (by simp only [go_sem, ti3, ti4, ti5, ti9, ti32, ti22, ti94, ti96, ti65, ti67, ti175, Int.natCast_zero, a1, a2]) (fun _ => ?_) (fun hc => by cases hc)
    refine Wc.seq ?_
    refine Wc.reg fun K hK => ?_; simp only [go_sem, ti3, ti4, ti5, ti9, ti32, ti22, ti94, ti96, ti65, ti67, ti175, Int.natCast_zero]; refine hK _ _ ?_; clear hK K
    obtain rfl : R = 2 := by rw [← hR]; simp only [a1, a2, Bool.or_true, Bool.true_or, Bool.or_false, Bool.false_or, Bool.and_true, Bool.true_and, Bool.false_and, Bool.and_false, Bool.not_true, Bool.not_false, cond_true, cond_false]
    exact Wc.ret (Pf.ret [.tmp 2] [.c (.p (pI 2))] rfl rfl (by simp only [resultsD, go_sem, ti3, ti4, ti5, ti9, ti32, ti22, ti94, ti96, ti65, ti67, ti175, Int.natCast_zero]) rfl)
  refine Wc.reg fun K hK => ?_; simp only [go_sem, ti3, ti4, ti5, ti9, ti32, ti22, ti94, ti96, ti65, ti67, ti175, Int.natCast_zero, a1, a2]; refine hK _ _ ?_; clear hK K
  refine Wc.cond (t := false) (by simp only [go_sem, ti3, ti4, ti5, ti9, ti32, ti22, ti94, ti96, ti65, ti67, ti175, Int.natCast_zero, a1, a2]) (fun hc => by cases hc) (fun _ => Wc.skip ?_)
  simp only [a1, a2, Bool.or_true, Bool.true_or, Bool.or_false, Bool.false_or, Bool.and_true, Bool.true_and, Bool.false_and, Bool.and_false, Bool.not_true, Bool.not_false, cond_true, cond_false] at hR
  refine Wc.seq (Wc.seq ?_)
  rcases Bool.eq_false_or_eq_true (z.c == 0) with k0 | k0
  · simp only [k0, Bool.or_true, Bool.true_or, Bool.or_false, Bool.false_or, Bool.and_true, Bool.true_and, Bool.false_and, Bool.and_false, Bool.not_true, Bool.not_false, cond_true, cond_false] at hR
    refine Wc.reg fun K hK => ?_; simp only [go_sem, ti3, ti4, ti5, ti9, ti32, ti22, ti94, ti96, ti65, ti67, ti175, Int.natCast_zero, k0]; refine hK _ _ ?_; clear hK K
    refine Wc.cond (t := true) (by simp only [go_sem, ti3, ti4, ti5, ti9, ti32, ti22, ti94, ti96, ti65, ti67, ti175, Int.natCast_zero, k0]) (fun _ => ?_) (fun hc => by cases hc)
    refine Wc.seq (Wc.seq ?_)
    unfold zG1 at hR
    have kz := eq_of_beq k0
    rcases Bool.eq_false_or_eq_true ((z.t1 == 0) && ((z.t2 == 0) && ((z.v1 == 0) && ((z.v2 == 0) && ((z.b0 == 0) && ((z.b1 == 0) && ((z.b2 == 0) && ((z.b3 == 0) && ((z.b4 == 0) && ((z.b5 == 0) && ((z.b6 == 0) && (z.b7 == 0)))))))))))) with k1 | k1
    · simp only [k1, cond_true] at hR
      subst hR
      refine Wc.reg fun K hK => ?_; simp only [go_sem, ti3, ti4, ti5, ti9, ti32, ti22, ti94, ti96, ti65, ti67, ti175, Int.natCast_zero, k0, k1, eqL, eqS]; refine hK _ _ ?_; clear hK K
      refine Wc.cond (t := false) (by simp only [go_sem, ti3, ti4, ti5, ti9, ti32, ti22, ti94, ti96, ti65, ti67, ti175, Int.natCast_zero, k1]) (fun hc => by cases hc) (fun _ => Wc.skip ?_)
      refine Wc.seq ?_
      refine Wc.reg fun K hK => ?_; simp only [go_sem, ti3, ti4, ti5, ti9, ti32, ti22, ti94, ti96, ti65, ti67, ti175, Int.natCast_zero]; refine hK _ _ ?_; clear hK K
      exact Wc.ret (Pf.ret [.tmp 2] [.c (.p (pI 0))] rfl rfl (by simp only [resultsD, go_sem, ti3, ti4, ti5, ti9, ti32, ti22, ti94, ti96, ti65, ti67, ti175, Int.natCast_zero]) rfl)
    · simp only [k1, cond_false] at hR
      subst hR
      refine Wc.reg fun K hK => ?_; simp only [go_sem, ti3, ti4, ti5, ti9, ti32, ti22, ti94, ti96, ti65, ti67, ti175, Int.natCast_zero, k0, k1, eqL, eqS]; refine hK _ _ ?_; clear hK K
      refine Wc.cond (t := true) (by simp only [go_sem, ti3, ti4, ti5, ti9, ti32, ti22, ti94, ti96, ti65, ti67, ti175, Int.natCast_zero, k1]) (fun _ => ?_) (fun hc => by cases hc)
      refine Wc.seq ?_
      refine Wc.reg fun K hK => ?_; simp only [go_sem, ti3, ti4, ti5, ti9, ti32, ti22, ti94, ti96, ti65, ti67, ti175, Int.natCast_zero]; refine hK _ _ ?_; clear hK K
      exact Wc.ret (Pf.ret [.tmp 2] [.c (.p (pI 10))] rfl rfl (by simp only [resultsD, go_sem, ti3, ti4, ti5, ti9, ti32, ti22, ti94, ti96, ti65, ti67, ti175, Int.natCast_zero]) rfl)
  simp only [k0, Bool.or_true, Bool.true_or, Bool.or_false, Bool.false_or, Bool.and_true, Bool.true_and, Bool.false_and, Bool.and_false, Bool.not_true, Bool.not_false, cond_true, cond_false] at hR
  refine Wc.reg fun K hK => ?_; simp only [go_sem, ti3, ti4, ti5, ti9, ti32, ti22, ti94, ti96, ti65, ti67, ti175, Int.natCast_zero, k0]; refine hK _ _ ?_; clear hK K
  refine Wc.cond (t := false) (by simp only [go_sem, ti3, ti4, ti5, ti9, ti32, ti22, ti94, ti96, ti65, ti67, ti175, Int.natCast_zero, k0]) (fun hc => by cases hc) (fun _ => Wc.skip ?_)
  refine Wc.seq (Wc.seq ?_)
  cases h1 : isT z.t1 with
  | false =>
    refine Wc.reg fun K hK => ?_; simp only [go_sem, ti3, ti4, ti5, ti9, ti32, ti22, ti94, ti96, ti65, ti67, ti175, Int.natCast_zero]
    refine wpCall.pf (pf235 z.t1) (by kernel_rfl) (by kernel_rfl) rfl rfl ?_
    simp only [go_sem, ti3, ti4, ti5, ti9, ti32, ti22, ti94, ti96, ti65, ti67, ti175, Int.natCast_zero, h1]; refine hK _ _ ?_; clear hK K
    refine Wc.cond (t := true) (by simp only [go_sem, ti3, ti4, ti5, ti9, ti32, ti22, ti94, ti96, ti65, ti67, ti175, Int.natCast_zero]) (fun _ => ?_) (fun hc => by cases hc)
    refine Wc.seq ?_
    refine Wc.reg fun K hK => ?_; simp only [go_sem, ti3, ti4, ti5, ti9, ti32, ti22, ti94, ti96, ti65, ti67, ti175, Int.natCast_zero]; refine hK _ _ ?_; clear hK K
    obtain rfl : R = 2 := by rw [← hR]; simp only [h1, Bool.or_true, Bool.true_or, Bool.or_false, Bool.false_or, Bool.and_true, Bool.true_and, Bool.false_and, Bool.and_false, Bool.not_true, Bool.not_false, cond_true, cond_false]
    exact Wc.ret (Pf.ret [.tmp 2] [.c (.p (pI 2))] rfl rfl (by simp only [resultsD, go_sem, ti3, ti4, ti5, ti9, ti32, ti22, ti94, ti96, ti65, ti67, ti175, Int.natCast_zero]) rfl)
  | true =>
  cases h2 : isT z.t2 with
  | false =>
    refine Wc.reg fun K hK => ?_; simp only [go_sem, ti3, ti4, ti5, ti9, ti32, ti22, ti94, ti96, ti65, ti67, ti175, Int.natCast_zero]
    refine wpCall.pf (pf235 z.t1) (by kernel_rfl) (by kernel_rfl) rfl rfl ?_
    simp only [go_sem, ti3, ti4, ti5, ti9, ti32, ti22, ti94, ti96, ti65, ti67, ti175, Int.natCast_zero, h1]
    refine wpCall.pf (pf235 z.t2) (by kernel_rfl) (by kernel_rfl) rfl rfl ?_
    simp only [go_sem, ti3, ti4, ti5, ti9, ti32, ti22, ti94, ti96, ti65, ti67, ti175, Int.natCast_zero, h2]; refine hK _ _ ?_; clear hK K
    refine Wc.cond (t := true) (by simp only [go_sem, ti3, ti4, ti5, ti9, ti32, ti22, ti94, ti96, ti65, ti67, ti175, Int.natCast_zero]) (fun _ => ?_) (fun hc => by cases hc)
    refine Wc.seq ?_
    refine Wc.reg fun K hK => ?_; simp only [go_sem, ti3, ti4, ti5, ti9, ti32, ti22, ti94, ti96, ti65, ti67, ti175, Int.natCast_zero]; refine hK _ _ ?_; clear hK K
    obtain rfl : R = 2 := by rw [← hR]; simp only [h1, h2, Bool.or_true, Bool.true_or, Bool.or_false, Bool.false_or, Bool.and_true, Bool.true_and, Bool.false_and, Bool.and_false, Bool.not_true, Bool.not_false, cond_true, cond_false]
    exact Wc.ret (Pf.ret [.tmp 2] [.c (.p (pI 2))] rfl rfl (by simp only [resultsD, go_sem, ti3, ti4, ti5, ti9, ti32, ti22, ti94, ti96, ti65, ti67, ti175, Int.natCast_zero]) rfl)
  | true =>
  simp only [h1, h2, Bool.or_true, Bool.true_or, Bool.or_false, Bool.false_or, Bool.and_true, Bool.true_and, Bool.false_and, Bool.and_false, Bool.not_true, Bool.not_false, cond_true, cond_false] at hR
  refine Wc.reg fun K hK => ?_; simp only [go_sem, ti3, ti4, ti5, ti9, ti32, ti22, ti94, ti96, ti65, ti67, ti175, Int.natCast_zero]
  refine wpCall.pf (pf235 z.t1) (by kernel_rfl) (by kernel_rfl) rfl rfl ?_
  simp only [go_sem, ti3, ti4, ti5, ti9, ti32, ti22, ti94, ti96, ti65, ti67, ti175, Int.natCast_zero, h1]
  refine wpCall.pf (pf235 z.t2) (by kernel_rfl) (by kernel_rfl) rfl rfl ?_
  simp only [go_sem, ti3, ti4, ti5, ti9, ti32, ti22, ti94, ti96, ti65, ti67, ti175, Int.natCast_zero, h2]; refine hK _ _ ?_; clear hK K
  refine Wc.cond (t := false) (by simp only [go_sem, ti3, ti4, ti5, ti9, ti32, ti22, ti94, ti96, ti65, ti67, ti175, Int.natCast_zero]) (fun hc => by cases hc) (fun _ => Wc.skip ?_)
  refine Wc.seq (Wc.seq ?_)
  refine Wc.reg fun K hK => ?_; simp only [go_sem, ti3, ti4, ti5, ti9, ti32, ti22, ti94, ti96, ti65, ti67, ti175, Int.natCast_zero]; refine hK _ _ ?_; clear hK K
  refine Wc.cond (t := decide (z.t2 < z.t1)) (by simp only [go_sem, ti3, ti4, ti5, ti9, ti32, ti22, ti94, ti96, ti65, ti67, ti175, Int.natCast_zero]) (fun hc => ?_) (fun hc => ?_)
  · simp only [hc, Bool.or_true, Bool.true_or, Bool.or_false, Bool.false_or, Bool.and_true, Bool.true_and, Bool.false_and, Bool.and_false, Bool.not_true, Bool.not_false, cond_true, cond_false] at hR
    subst hR
    refine Wc.seq ?_
    refine Wc.reg fun K hK => ?_; simp only [go_sem, ti3, ti4, ti5, ti9, ti32, ti22, ti94, ti96, ti65, ti67, ti175, Int.natCast_zero]; refine hK _ _ ?_; clear hK K
    exact Wc.ret (Pf.ret [.tmp 2] [.c (.p (pI 9))] rfl rfl (by simp only [resultsD, go_sem, ti3, ti4, ti5, ti9, ti32, ti22, ti94, ti96, ti65, ti67, ti175, Int.natCast_zero]) rfl)
  simp only [hc, Bool.or_true, Bool.true_or, Bool.or_false, Bool.false_or, Bool.and_true, Bool.true_and, Bool.false_and, Bool.and_false, Bool.not_true, Bool.not_false, cond_true, cond_false] at hR
  refine Wc.skip (Wc.seq (Wc.seq ?_))
  cases h3 : isVl z.v1 with
  | false =>
    refine Wc.reg fun K hK => ?_; simp only [go_sem, ti3, ti4, ti5, ti9, ti32, ti22, ti94, ti96, ti65, ti67, ti175, Int.natCast_zero]
    refine wpCall.pf (pf236 z.v1) (by kernel_rfl) (by kernel_rfl) rfl rfl ?_
    simp only [go_sem, ti3, ti4, ti5, ti9, ti32, ti22, ti94, ti96, ti65, ti67, ti175, Int.natCast_zero, h3]; refine hK _ _ ?_; clear hK K
    refine Wc.cond (t := true) (by simp only [go_sem, ti3, ti4, ti5, ti9, ti32, ti22, ti94, ti96, ti65, ti67, ti175, Int.natCast_zero]) (fun _ => ?_) (fun hc => by cases hc)
    refine Wc.seq ?_
    refine Wc.reg fun K hK => ?_; simp only [go_sem, ti3, ti4, ti5, ti9, ti32, ti22, ti94, ti96, ti65, ti67, ti175, Int.natCast_zero]; refine hK _ _ ?_; clear hK K
    obtain rfl : R = 2 := by rw [← hR]; simp only [h3, Bool.or_true, Bool.true_or, Bool.or_false, Bool.false_or, Bool.and_true, Bool.true_and, Bool.false_and, Bool.and_false, Bool.not_true, Bool.not_false, cond_true, cond_false]
    exact Wc.ret (Pf.ret [.tmp 2] [.c (.p (pI 2))] rfl rfl (by simp only [resultsD, go_sem, ti3, ti4, ti5, ti9, ti32, ti22, ti94, ti96, ti65, ti67, ti175, Int.natCast_zero]) rfl)
  | true =>
  cases h4 : isVl z.v2 with
  | false =>
    refine Wc.reg fun K hK => ?_; simp only [go_sem, ti3, ti4, ti5, ti9, ti32, ti22, ti94, ti96, ti65, ti67, ti175, Int.natCast_zero]
    refine wpCall.pf (pf236 z.v1) (by kernel_rfl) (by kernel_rfl) rfl rfl ?_
    simp only [go_sem, ti3, ti4, ti5, ti9, ti32, ti22, ti94, ti96, ti65, ti67, ti175, Int.natCast_zero, h3]
    refine wpCall.pf (pf236 z.v2) (by kernel_rfl) (by kernel_rfl) rfl rfl ?_
    simp only [go_sem, ti3, ti4, ti5, ti9, ti32, ti22, ti94, ti96, ti65, ti67, ti175, Int.natCast_zero, h4]; refine hK _ _ ?_; clear hK K
    refine Wc.cond (t := true) (by simp only [go_sem, ti3, ti4, ti5, ti9, ti32, ti22, ti94, ti96, ti65, ti67, ti175, Int.natCast_zero]) (fun _ => ?_) (fun hc => by cases hc)
    refine Wc.seq ?_
    refine Wc.reg fun K hK => ?_; simp only [go_sem, ti3, ti4, ti5, ti9, ti32, ti22, ti94, ti96, ti65, ti67, ti175, Int.natCast_zero]; refine hK _ _ ?_; clear hK K
    obtain rfl : R = 2 := by rw [← hR]; simp only [h3, h4, Bool.or_true, Bool.true_or, Bool.or_false, Bool.false_or, Bool.and_true, Bool.true_and, Bool.false_and, Bool.and_false, Bool.not_true, Bool.not_false, cond_true, cond_false]
    exact Wc.ret (Pf.ret [.tmp 2] [.c (.p (pI 2))] rfl rfl (by simp only [resultsD, go_sem, ti3, ti4, ti5, ti9, ti32, ti22, ti94, ti96, ti65, ti67, ti175, Int.natCast_zero]) rfl)
  | true =>
  simp only [h3, h4, Bool.or_true, Bool.true_or, Bool.or_false, Bool.false_or, Bool.and_true, Bool.true_and, Bool.false_and, Bool.and_false, Bool.not_true, Bool.not_false, cond_true, cond_false] at hR
  refine Wc.reg fun K hK => ?_; simp only [go_sem, ti3, ti4, ti5, ti9, ti32, ti22, ti94, ti96, ti65, ti67, ti175, Int.natCast_zero]
  refine wpCall.pf (pf236 z.v1) (by kernel_rfl) (by kernel_rfl) rfl rfl ?_
  simp only [go_sem, ti3, ti4, ti5, ti9, ti32, ti22, ti94, ti96, ti65, ti67, ti175, Int.natCast_zero, h3]
  refine wpCall.pf (pf236 z.v2) (by kernel_rfl) (by kernel_rfl) rfl rfl ?_
  simp only [go_sem, ti3, ti4, ti5, ti9, ti32, ti22, ti94, ti96, ti65, ti67, ti175, Int.natCast_zero, h4]; refine hK _ _ ?_; clear hK K
  refine Wc.cond (t := false) (by simp only [go_sem, ti3, ti4, ti5, ti9, ti32, ti22, ti94, ti96, ti65, ti67, ti175, Int.natCast_zero]) (fun hc => by cases hc) (fun _ => Wc.skip ?_)
  refine Wc.seq (Wc.seq ?_)
  refine Wc.reg fun K hK => ?_; simp only [go_sem, ti3, ti4, ti5, ti9, ti32, ti22, ti94, ti96, ti65, ti67, ti175, Int.natCast_zero]; refine hK _ _ ?_; clear hK K
  refine Wc.cond (t := decide (z.v2 < z.v1)) (by simp only [go_sem, ti3, ti4, ti5, ti9, ti32, ti22, ti94, ti96, ti65, ti67, ti175, Int.natCast_zero]) (fun hc => ?_) (fun hc => ?_)
  · simp only [hc, Bool.or_true, Bool.true_or, Bool.or_false, Bool.false_or, Bool.and_true, Bool.true_and, Bool.false_and, Bool.and_false, Bool.not_true, Bool.not_false, cond_true, cond_false] at hR
    subst hR
    refine Wc.seq ?_
    refine Wc.reg fun K hK => ?_; simp only [go_sem, ti3, ti4, ti5, ti9, ti32, ti22, ti94, ti96, ti65, ti67, ti175, Int.natCast_zero]; refine hK _ _ ?_; clear hK K
    exact Wc.ret (Pf.ret [.tmp 2] [.c (.p (pI 9))] rfl rfl (by simp only [resultsD, go_sem, ti3, ti4, ti5, ti9, ti32, ti22, ti94, ti96, ti65, ti67, ti175, Int.natCast_zero]) rfl)
  simp only [hc, Bool.or_true, Bool.true_or, Bool.or_false, Bool.false_or, Bool.and_true, Bool.true_and, Bool.false_and, Bool.and_false, Bool.not_true, Bool.not_false, cond_true, cond_false] at hR
  subst hR
  refine Wc.skip (Wc.seq ?_)
  refine Wc.reg fun K hK => ?_; simp only [go_sem, ti3, ti4, ti5, ti9, ti32, ti22, ti94, ti96, ti65, ti67, ti175, Int.natCast_zero]; refine hK _ _ ?_; clear hK K
  exact Wc.ret (Pf.ret [.tmp 2] [.c (.p (pI 0))] rfl rfl (by simp only [resultsD, go_sem, ti3, ti4, ti5, ti9, ti32, ti22, ti94, ti96, ti65, ti67, ti175, Int.natCast_zero]) rfl)
end Go.Proofs.YtedcnhbblgmdnaaGreat.Ab
