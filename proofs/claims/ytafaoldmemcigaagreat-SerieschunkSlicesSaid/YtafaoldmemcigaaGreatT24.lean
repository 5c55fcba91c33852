/- A part of the proof: an evaluator of the code, its contracts, the law. No condition. -/
import Derived.Test.YtafaoldmemcigaaGreatT23
namespace Go.Proofs.YtafaoldmemcigaaGreat.Ab
set_option maxHeartbeats 4000000
set_option maxRecDepth 10000
set_option linter.unusedSimpArgs false
set_option linter.unusedVariables false
/-- What is known of a frame. -/
def Fs (e : List D) (n : Nat) : List (Nat × D) → Prop
  | [] => e.length = n
  | (j, d) :: r => e.getD j .junk = d ∧ Fs e n r
theorem OA.newB {s : St} {c k : Nat} {o : Ob} {L : List (Nat × D × Nat × List Pd)} {M : List (Nat × Ob)} (h : OA k s L M) (hc : k < c) (hf : o.isFront = false) : OA c (s.put k o) L ((k, o) :: M) :=
  (h.new (Nat.le_refl _) hf).mono hc
theorem OA.advB {s : St} {c n : Nat} {L : List (Nat × D × Nat × List Pd)} {M : List (Nat × Ob)} (h : OA c s L M) : OA c (s.adv n) L M := h.adv
/-- One object is laid anew. -/
def OAs (c : Nat) (s : St) (L : List (Nat × D × Nat × List Pd)) (M1 : List (Nat × Ob)) (k : Nat) (M2 : List (Nat × Ob)) : Prop := ∃ o, OA c s L (M1 ++ (k, o) :: M2)
theorem OAs.adv {c n : Nat} {s : St} {L : List (Nat × D × Nat × List Pd)} {M1 M2 : List (Nat × Ob)} {k : Nat} (h : OAs c s L M1 k M2) : OAs c (s.adv n) L M1 k M2 := by
  obtain ⟨o, h⟩ := h; exact ⟨o, h.adv⟩
theorem OAs.put {c : Nat} {s : St} {L : List (Nat × D × Nat × List Pd)} {M1 M2 : List (Nat × Ob)} {k : Nat} {o' : Ob} (h : OAs c s L M1 k M2) (hf : o'.isFront = false := by rfl) : OAs c (s.put k o') L M1 k M2 := by
  obtain ⟨o, h⟩ := h; exact ⟨o', h.set hf⟩
theorem OA.ofS {c : Nat} {s : St} {L : List (Nat × D × Nat × List Pd)} {M1 M2 : List (Nat × Ob)} {k : Nat} {o' : Ob} (h : OAs c s L M1 k M2) (hf : o'.isFront = false := by rfl) : OA c (s.put k o') L (M1 ++ (k, o') :: M2) := by
  obtain ⟨o, h⟩ := h; exact h.set hf
attribute [go_sem] St.put_put
/-- A cut at a part's end. -/
theorem Wc.cutA {E : Env} {ro : Option Nat} {c : Code} {x : Fr} {Q : Ex → Fr → Prop} (A : Fr → Prop) (h1 : Wc E ro c x fun ex y => ex = .normal ∧ A y) (h2 : ∀ y, A y → Q .normal y) : Wc E ro c x Q :=
  h1.mono (by rintro ex y ⟨rfl, h⟩; exact h2 y h)
/-- An iterator whose rounds may also end it. -/
def IterG (g : Nat) (cap : List C) (H : St → Prop) (step : Nat → Nat → List V → Prop) (last : Nat → Prop) : Prop :=
  ∃ fn c, E0.fn g = some fn ∧ fn.body = some c ∧ ∀ (l : Nat) (J : Nat → St → Prop) (Z : St → Prop), (∀ i s n, J i s → J i (s.adv n)) → (∀ i s n k o, J i s → s.nx ≤ k → k < s.nx + n → J i ((s.adv n).put k o)) → (∀ s n, Z s → Z (s.adv n)) → (∀ i s, J i s → H s) →
    (∀ i k a s, J i s → step i k a → wpCall E0 (.v (.c (.fn (.yield l) [] []))) (a.map .v) s (fun d s' => (d = P' (.bool true) ∧ J k s') ∨ (d = P' (.bool false) ∧ Z s'))) →
    ∀ s, J 0 s → ∀ Q : D → St → Prop, (∀ d s' i, last i → J i s' → Q d s') → (∀ d s', Z s' → Q d s') →
      Wc E0 none c { e := (V.c (.fn (.yield l) [] []) :: cap.map .c).map .v ++ List.replicate (fn.ntmps - (V.c (.fn (.yield l) [] []) :: cap.map .c).length) (.tup []), ds := [], s := s } (bodyQ E0 fn Q)
/-- How a round ends. -/
def endG (R Z : Prop) : Ex → Prop
  | .normal => R
  | _ => Z
/-- A loop over such an iterator. -/
theorem Wc.iterG {g : Nat} {cap : List C} {H : St → Prop} {step : Nat → Nat → List V → Prop} {last : Nat → Prop} (hi : IterG g cap H step last) {f : Operand} {ps : Array Nat} {assign body : Code} {x : Fr} {Q : Ex → Fr → Prop} {L : List (Nat × D × Nat × List Pd)} {M : List (Nat × Ob)}
    (R : Nat → List (Nat × D × Nat × List Pd) → List (Nat × Ob) → Prop) (Z : Ex → List (Nat × D × Nat × List Pd) → List (Nat × Ob) → Prop) (ht : opd x.e f = .v (.c (.fn (.func g) [] cap))) (ho : OA x.s.nx x.s L M) (h0 : R 0 L M) (hH : ∀ i L M s, R i L M → (∀ y ∈ M, s.get y.1 = some y.2) → H s) (hps : ∀ i k a, step i k a → ps.toList.length = a.length)
    (hround : ∀ i k a (lp : LoopR) (s : St) L M, step i k a → R i L M → OA s.nx s L ((x.s.nx, .loop lp) :: (x.s.nx + 1, .defr) :: M) →
      Wc E0 (some x.s.nx) assign { e := setAll x.e (ps.toList.zip a), ds := [], s := s } fun ex y => ex = .normal ∧ ∃ L1 M1, OA y.s.nx y.s L1 ((x.s.nx, .loop lp) :: (x.s.nx + 1, .defr) :: M1) ∧
        ∀ (lq : LoopR) (s' : St), OA s'.nx s' L1 ((x.s.nx, .loop lq) :: (x.s.nx + 1, .defr) :: M1) → Wc E0 (some x.s.nx) body { e := y.e, ds := [], s := s' } fun ex z =>
          ∃ L' M', OA z.s.nx z.s L' ((x.s.nx, .loop lq) :: (x.s.nx + 1, .defr) :: M') ∧ endG (R k L' M') (Z ex L' M') ex)
    (hQ : ∀ L M s' i, last i → OA s'.nx s' L ((x.s.nx + 1, .defr) :: M) → R i L M → Q .normal { e := x.e, ds := [x.s.nx + 1] ++ x.ds, s := s' })
    (hZ : ∀ ex L M s', ex ≠ .normal → OA s'.nx s' L ((x.s.nx + 1, .defr) :: M) → Z ex L M → Q ex { e := x.e, ds := [x.s.nx + 1] ++ x.ds, s := s' }) : Wc E0 none (.rangeFunc f ps assign body) x Q := by
  obtain ⟨fn, c, hf, hb, hi⟩ := hi
  refine Wc.range (g := g) (cap := cap.map .c) (ds := [x.s.nx + 1]) (s1 := ({ x.s with nx := x.s.nx + 2 } : St).put (x.s.nx + 1) .defr) (by rw [ht]; rfl) rfl hf hb ?_
  have hc := St.put_comm ({ x.s with nx := x.s.nx + 2 } : St) (k := x.s.nx + 1) (j := x.s.nx) (by omega) .defr
  rw [hc]
  have ho' : OA x.s.nx ({ x.s with nx := x.s.nx + 2 } : St) L M := ho.adv (n := 2)
  generalize hlp : (LoopR.mk .ready none x.e ps.toList assign body) = lp
  have h1 := (ho'.new (k := x.s.nx) (o := .loop lp) (Nat.le_refl _) rfl).new (k := x.s.nx + 1) (o := .defr) (Nat.le_refl _) rfl
  have hl1 : lp.st = .ready := by rw [← hlp]
  have hl2 : lp.ps = ps.toList := by rw [← hlp]
  have hl3 : lp.e = x.e := by rw [← hlp]
  have hl4 : lp.assign = assign := by rw [← hlp]
  have hl5 : lp.body = body := by rw [← hlp]
  have hl6 : lp.pend = none := by rw [← hlp]
  refine hi x.s.nx (fun i s => ∃ L M, OA s.nx s L ((x.s.nx, .loop lp) :: (x.s.nx + 1, .defr) :: M) ∧ R i L M)
    (fun s => ∃ ex L M lq, ex ≠ Ex.normal ∧ OA s.nx s L ((x.s.nx, .loop lq) :: (x.s.nx + 1, .defr) :: M) ∧ lq.st = .done ∧ lq.pend = jumpOf ex ∧ Z ex L M) ?_ ?_ ?_ ?_ ?_ _ ?_ _ ?_ ?_
  · rintro i s n ⟨L, M, h, hr⟩
    exact ⟨L, M, (h.mono (Nat.le_add_right _ n)).adv, hr⟩
  · rintro i s n k o ⟨L, M, h, hr⟩ h1 h2
    exact ⟨L, M, (OA.put (h.adv (n := n)) h1).mono (by simp only [St.nx_put, St.nx_adv]; omega), hr⟩
  · rintro s n ⟨ex, L, M, lq, hne, h, h2, h3, hz⟩
    exact ⟨ex, L, M, lq, hne, (h.mono (Nat.le_add_right _ n)).adv, h2, h3, hz⟩
  · rintro i s ⟨L, M, h, hr⟩
    exact hH i L M s hr fun y hy => h.at_ y (by simp [hy])
  · rintro i k a s ⟨L, M, h, hr⟩ hst
    have hg : s.get x.s.nx = some (.loop lp) := h.at_ (x.s.nx, .loop lp) (by simp)
    refine wpCall.yield (vs_map a) hg (by rw [hl2]; exact hps _ _ _ hst) ?_
    rw [hl2, hl3, hl4]
    refine (hround i k a lp s L M hst hr h).mono ?_
    rintro ex y ⟨rfl, L1, M1, hy, hbody⟩
    refine ⟨rfl, lp, hy.at_ (x.s.nx, .loop lp) (by simp), hl1, ?_⟩
    rw [← hl5] at hbody
    have hset := hy.set (M1 := []) (k := x.s.nx) (o := .loop lp) (o' := .loop { lp with st := .busy }) rfl
    refine (hbody { lp with st := .busy } _ hset).mono ?_
    rintro ex z ⟨L', M', hz, hr'⟩
    refine ⟨_, hz.at_ (x.s.nx, .loop { lp with st := .busy }) (by simp), ?_⟩
    by_cases hex : ex = .normal
    · subst hex
      refine .inl ⟨rfl, L', M', ?_, hr'⟩
      have hset2 := hz.set (M1 := []) (k := x.s.nx) (o := .loop { lp with st := .busy }) (o' := .loop lp) rfl
      have e : ({ ({ lp with st := .busy } : LoopR) with st := if (jumpOf .normal).isNone then .ready else .done, pend := jumpOf .normal } : LoopR) = lp := by
        obtain ⟨a, b, c, d, e, f⟩ := lp
        simp only at hl1 hl6
        subst hl1 hl6
        rfl
      rw [e]
      exact hset2
    · have hj : (jumpOf ex).isNone = false := by cases ex with
        | normal => exact absurd rfl hex
        | exit i => rfl
        | ret => rfl
      have hz' : Z ex L' M' := by cases ex with
        | normal => exact absurd rfl hex
        | exit i => exact hr'
        | ret => exact hr'
      refine .inr ⟨by rw [hj], ex, L', M', { ({ lp with st := .busy } : LoopR) with st := .done, pend := jumpOf ex }, hex, ?_, rfl, rfl, hz'⟩
      rw [hj]
      exact hz.set (M1 := []) (k := x.s.nx) (o := .loop { lp with st := .busy }) (o' := .loop { ({ lp with st := .busy } : LoopR) with st := .done, pend := jumpOf ex }) rfl
  · refine ⟨L, M, ?_, h0⟩
    have := h1.sub (L1 := L) (M1 := (x.s.nx + 1, .defr) :: (x.s.nx, .loop lp) :: M) (List.Sublist.refl _) (List.Sublist.refl _)
    refine ⟨this.free, this.own, this.dis, fun y hy => this.at_ y (by simp at hy ⊢; rcases hy with h | h | h <;> simp [h]), fun y hy => this.nof y (by simp at hy ⊢; rcases hy with h | h | h <;> simp [h]), ?_⟩
    have hd := this.dism
    simp only [List.pairwise_cons] at hd ⊢
    obtain ⟨a1, a2, a3⟩ := hd
    refine ⟨fun y hy => ?_, fun y hy => a1 y (by simp [hy]), a3⟩
    rcases List.mem_cons.1 hy with rfl | hy
    · simp
    · exact a2 y hy
  · rintro d s' i hlast ⟨L, M, h, hr⟩
    have hg : s'.get x.s.nx = some (.loop lp) := h.at_ (x.s.nx, .loop lp) (by simp)
    refine ⟨none, s'.put x.s.nx (.loop { lp with st := .exhausted }), ?_, ?_⟩
    · simp only [endLoopD, hg, hl1, hl6]
      rfl
    · have hset := h.set (M1 := []) (k := x.s.nx) (o := .loop lp) (o' := .loop { lp with st := .exhausted }) rfl
      exact hQ L M _ i hlast (OA.sub (M := [] ++ (x.s.nx, .loop { lp with st := .exhausted }) :: (x.s.nx + 1, .defr) :: M) hset (List.Sublist.refl _) (List.sublist_cons_self _ _)) hr
  · rintro d s' ⟨ex, L, M, lq, hne, h, h2, h3, hz⟩
    have hg : s'.get x.s.nx = some (.loop lq) := h.at_ (x.s.nx, .loop lq) (by simp)
    have hset := h.set (M1 := []) (k := x.s.nx) (o := .loop lq) (o' := .loop { lq with st := .exhausted }) rfl
    have hq := hZ ex L M (s'.put x.s.nx (.loop { lq with st := .exhausted })) hne (OA.sub (M := [] ++ (x.s.nx, .loop { lq with st := .exhausted }) :: (x.s.nx + 1, .defr) :: M) hset (List.Sublist.refl _) (List.sublist_cons_self _ _)) hz
    refine ⟨jumpOf ex, s'.put x.s.nx (.loop { lq with st := .exhausted }), ?_, ?_⟩
    · simp only [endLoopD, hg, h2, h3]
      rfl
    · cases ex with
      | normal => exact absurd rfl hne
      | exit i => exact hq
      | ret => exact hq
end Go.Proofs.YtafaoldmemcigaaGreat.Ab
namespace Go.Proofs.YtafaoldmemcigaaGreat.Ab
set_option maxHeartbeats 4000000
set_option linter.unusedSimpArgs false
set_option linter.unusedVariables false
/-! ### reading numbers -/
/-- The number at the beginning of a string, its bytes, why not. -/
def rdB : Nat → Nat → List UInt8 → Nat × Nat × Int
  | _, _, [] => (0, 0, 11)
  | i, acc, b :: r => if (128 ≤ b.toNat ∧ i = 8) ∨ (b.toNat = 0 ∧ 0 < i) then (0, 0, 12) else if b.toNat < 128 then (acc + b.toNat * 2 ^ (7 * i), i + 1, 0) else rdB (i + 1) (acc + (b.toNat - 128) * 2 ^ (7 * i)) r
def rdV (s : List UInt8) : Int × Nat × Int := if (rdB 0 0 s).2.2 ≠ 0 then (0, 0, (rdB 0 0 s).2.2) else if 1152921504606846976 < (rdB 0 0 s).1 then (0, 0, 12) else ((rdB 0 0 s).1, (rdB 0 0 s).2.1, 0)
def unf (u : Nat) : Int := if u % 2 = 0 then ((u / 2 : Nat) : Int) else -((u / 2 : Nat) : Int) - 1
def rdS (s : List UInt8) : Int × Nat × Int := if (rdB 0 0 s).2.2 ≠ 0 then (0, 0, (rdB 0 0 s).2.2) else if inR (unf (rdB 0 0 s).1) = false then (0, 0, 12) else (unf (rdB 0 0 s).1, (rdB 0 0 s).2.1, 0)
theorem vb_pos (n : Nat) : 0 < (vb n).length := by
  rcases Nat.lt_or_ge n 128 with h | h
  · rw [vb_lt h]; simp
  · rw [vb_ge h]; simp
theorem rdB_vb : ∀ (k n i acc : Nat) (rest : List UInt8), i + k = 9 → n < 2 ^ (7 * k) → (i = 0 ∨ 0 < n) → rdB i acc (vb n ++ rest) = (acc + n * 2 ^ (7 * i), i + (vb n).length, 0)
  | 0, n, i, acc, rest, hi, hn, h0 => by
    have : n = 0 := by simpa using hn
    omega
  | k + 1, n, i, acc, rest, hi, hn, h0 => by
    rcases Nat.lt_or_ge n 128 with h | h
    · rw [vb_lt h]
      have e : (UInt8.ofNat n).toNat = n := by simp; omega
      simp only [List.cons_append, List.nil_append, rdB, e]
      rw [if_neg (by omega), if_pos h]; rfl
    · rw [vb_ge h]
      have e : (UInt8.ofNat (n % 128 + 128)).toNat = n % 128 + 128 := by simp; omega
      have hk : k ≠ 0 := by
        rintro rfl
        simp at hn; omega
      simp only [List.cons_append, rdB, e]
      rw [if_neg (by omega), if_neg (by omega)]
      have hd : n / 128 < 2 ^ (7 * k) := by
        have e2 : 2 ^ (7 * (k + 1)) = 2 ^ (7 * k) * 128 := by rw [Nat.mul_add, Nat.pow_add]
        rw [e2] at hn
        exact Nat.div_lt_of_lt_mul (by rw [Nat.mul_comm]; exact hn)
      rw [rdB_vb k (n / 128) (i + 1) _ rest (by omega) hd (.inr (by omega))]
      have e3 : 2 ^ (7 * (i + 1)) = 2 ^ (7 * i) * 128 := by rw [Nat.mul_add, Nat.pow_add]
      have e4 : n % 128 + 128 - 128 = n % 128 := by omega
      have e5 : n * 2 ^ (7 * i) = (n % 128) * 2 ^ (7 * i) + n / 128 * (2 ^ (7 * i) * 128) := by
        have : n = n % 128 + 128 * (n / 128) := (Nat.mod_add_div n 128).symm
        conv => lhs; rw [this]
        rw [Nat.add_mul, Nat.mul_comm (2 ^ (7 * i)) 128, ← Nat.mul_assoc, Nat.mul_comm (n / 128) 128]
      simp only [Prod.mk.injEq, and_true]
      refine ⟨?_, ?_⟩
      · rw [e3, e4, e5]; omega
      · simp only [List.length_cons]; omega
theorem rdV_vb {n : Nat} (h : n ≤ 1152921504606846976) (rest : List UInt8) : rdV (vb n ++ rest) = ((n : Int), (vb n).length, 0) := by
  have := rdB_vb 9 n 0 0 rest rfl (by omega) (.inl rfl)
  unfold rdV
  rw [this]
  simp only [Nat.mul_zero, Nat.pow_zero, Nat.mul_one, Nat.zero_add, ne_eq, not_true_eq_false, if_false]
  rw [if_neg (by omega)]
theorem unf_zz {n : Int} (h : inR n = true) : unf (zz n) = n := by
  simp only [inR, Bool.and_eq_true, decide_eq_true_eq] at h
  unfold unf zz
  split <;> split <;> omega
theorem rdS_vb {n : Int} (h : inR n = true) (rest : List UInt8) : rdS (vb (zz n) ++ rest) = (n, (vb (zz n)).length, 0) := by
  have := rdB_vb 9 (zz n) 0 0 rest rfl (by have := zz_lt h; omega) (.inl rfl)
  unfold rdS
  rw [this]
  simp only [Nat.mul_zero, Nat.pow_zero, Nat.mul_one, Nat.zero_add, ne_eq, not_true_eq_false, if_false, unf_zz h]
  rw [if_neg (by simp [h])]
theorem rdB_le : ∀ (s : List UInt8) (i acc : Nat), i ≤ 8 → acc < 2 ^ (7 * i) → (rdB i acc s).2.1 ≤ i + s.length ∧ (rdB i acc s).2.1 ≤ 9 ∧ (rdB i acc s).1 < 2 ^ 63 ∧ ((rdB i acc s).2.2 = 0 → i < (rdB i acc s).2.1)
  | [], i, acc, hi, ha => by simp [rdB]
  | b :: r, i, acc, hi, ha => by
    have hb := b.toNat_lt
    simp only [rdB]
    split
    · simp
    · split
      · simp only [List.length_cons]
        refine ⟨by omega, by omega, ?_, fun _ => by omega⟩
        have e2 : 2 ^ (7 * (i + 1)) = 128 * 2 ^ (7 * i) := by rw [Nat.mul_add, Nat.pow_add, Nat.mul_comm]
        have h1 : (b.toNat + 1) * 2 ^ (7 * i) ≤ 128 * 2 ^ (7 * i) := Nat.mul_le_mul_right _ (by omega)
        rw [Nat.add_mul] at h1
        have h2 : 2 ^ (7 * (i + 1)) ≤ 2 ^ 63 := Nat.pow_le_pow_right (by omega) (by omega)
        omega
      · rename_i h1 h2
        have e2 : 2 ^ (7 * (i + 1)) = 128 * 2 ^ (7 * i) := by rw [Nat.mul_add, Nat.pow_add, Nat.mul_comm]
        have h3 : (b.toNat - 128 + 1) * 2 ^ (7 * i) ≤ 128 * 2 ^ (7 * i) := Nat.mul_le_mul_right _ (by omega)
        rw [Nat.add_mul] at h3
        have := rdB_le r (i + 1) (acc + (b.toNat - 128) * 2 ^ (7 * i)) (by omega) (by omega)
        simp only [List.length_cons]
        refine ⟨by omega, by omega, this.2.2.1, fun h => by have := this.2.2.2 h; omega⟩
theorem rdV_le (s : List UInt8) : (rdV s).2.1 ≤ s.length ∧ 0 ≤ (rdV s).1 ∧ (rdV s).1 ≤ 1152921504606846976 ∧ ((rdV s).2.2 = 0 → 0 < (rdV s).2.1) := by
  have := rdB_le s 0 0 (by omega) (by decide)
  unfold rdV
  split
  · simp
    intro h; contradiction
  · rename_i h0
    split
    · simp
    · refine ⟨by simp only; omega, by simp only; omega, by simp only; omega, fun _ => this.2.2.2 (by simpa using h0)⟩
theorem rdS_le (s : List UInt8) : (rdS s).2.1 ≤ s.length ∧ inR (rdS s).1 = true ∧ ((rdS s).2.2 = 0 → 0 < (rdS s).2.1) := by
  have := rdB_le s 0 0 (by omega) (by decide)
  unfold rdS
  split
  · refine ⟨by simp, show inR 0 = true by decide, fun h => ?_⟩
    contradiction
  · rename_i h0
    split
    · exact ⟨by simp, show inR 0 = true by decide, fun h => by simp at h⟩
    · rename_i h1
      exact ⟨by simp only; omega, by simpa using h1, fun _ => this.2.2.2 (by simpa using h0)⟩
/-! ### lists of numbers -/
def rdN : Nat → List UInt8 → List Int × Nat × Int
  | 0, _ => ([], 0, 0)
  | k + 1, s => if (rdS s).2.2 ≠ 0 then ([], 0, (rdS s).2.2) else
    if (rdN k (s.drop (rdS s).2.1)).2.2 ≠ 0 then ([], 0, (rdN k (s.drop (rdS s).2.1)).2.2) else ((rdS s).1 :: (rdN k (s.drop (rdS s).2.1)).1, (rdS s).2.1 + (rdN k (s.drop (rdS s).2.1)).2.1, 0)
def decI (s : List UInt8) : List Int × Int := if (rdV s).2.2 ≠ 0 then ([], (rdV s).2.2) else if 20000 < (rdV s).1 then ([], 4) else
  if (rdN (rdV s).1.toNat (s.drop (rdV s).2.1)).2.2 ≠ 0 then ([], (rdN (rdV s).1.toNat (s.drop (rdV s).2.1)).2.2) else
  if (rdV s).2.1 + (rdN (rdV s).1.toNat (s.drop (rdV s).2.1)).2.1 ≠ s.length then ([], 12) else ((rdN (rdV s).1.toNat (s.drop (rdV s).2.1)).1, 0)
theorem rdN_enc : ∀ (l : List Int) (rest : List UInt8), l.all inR = true → rdN l.length (encL l ++ rest) = (l, (encL l).length, 0)
  | [], rest, _ => rfl
  | x :: r, rest, h => by
    simp only [List.all_cons, Bool.and_eq_true] at h
    have e : encL (x :: r) ++ rest = vb (zz x) ++ (encL r ++ rest) := by simp [encL]
    have hd : (vb (zz x) ++ (encL r ++ rest)).drop (vb (zz x)).length = encL r ++ rest := by simp
    rw [List.length_cons, e, rdN, rdS_vb h.1, hd, rdN_enc r rest h.2]
    simp [encL]
theorem decI_enc {l : List Int} (h : (encI l).2 = 0) : decI (encI l).1 = (l, 0) := by
  unfold encI at *
  split at h
  · cases h
  · rename_i hl
    split at h
    · rename_i hr
      rw [if_neg hl, if_pos hr]
      simp only
      unfold decI
      rw [rdV_vb (by omega)]
      have hd : (vb l.length ++ encL l).drop (vb l.length).length = encL l := by simp
      have e := rdN_enc l [] hr
      rw [List.append_nil] at e
      simp only [ne_eq, not_true_eq_false, if_false]
      rw [if_neg (by omega), Int.toNat_natCast, hd, e]
      simp
    · cases h
/-! ### columns -/
/-- A reader of a text: where it is, why it stopped. -/
abbrev RdT := Nat × Int
def numR (rd : List UInt8 → Int × Nat × Int) (t : List UInt8) (st : RdT) : Int × RdT := if st.2 ≠ 0 then (0, st) else ((rd (t.drop st.1)).1, (st.1 + (rd (t.drop st.1)).2.1, (rd (t.drop st.1)).2.2))
def runB (m : Nat) (y : Int × RdT) : Int := if y.2.2 = 0 ∧ (y.1 = 0 ∨ (m : Int) < y.1) then 12 else y.2.2
/-- The runs of m numbers, by fuel. -/
def runsR (t : List UInt8) : Nat → Nat → RdT → List Int × RdT
  | 0, _, st => ([], st)
  | k + 1, m, st => if m = 0 then ([], st) else
    let x := numR rdS t st
    let y := numR rdV t x.2
    if runB m y ≠ 0 then ([], (y.2.1, runB m y)) else
    let q := runsR t k (m - y.1.toNat) y.2
    (if q.2.2 ≠ 0 then ([], q.2) else (List.replicate y.1.toNat x.1 ++ q.1, q.2))
def sumsW (f : Int) : List Int → List Int
  | [] => [f]
  | x :: r => f :: sumsW (IntKind.i64.wrap (f + x)) r
def timesR (t : List UInt8) (c : Nat) (st : RdT) : List Int × RdT :=
  if c = 0 then ([], st) else
  let f := numR rdS t st
  if c = 1 then ([f.1], f.2) else
  let d := numR rdS t f.2
  let o := runsR t (c - 2) (c - 2) d.2
  (sumsW f.1 (sumsW d.1 o.1), o.2)
def valuesR (t : List UInt8) (c : Nat) (st : RdT) : List Int × RdT :=
  if c = 0 then ([], st) else
  let f := numR rdS t st
  let o := runsR t (c - 1) (c - 1) f.2
  (sumsW f.1 o.1, o.2)
def colR (rd : Nat → RdT → List Int × RdT) (enc : List Int → List UInt8 × Int) (t : List UInt8) : List Int × Int :=
  let c := numR rdV t (0, 0)
  if 20000 < c.1 then ([], 4) else
  let q := rd c.1.toNat c.2
  if q.2.2 ≠ 0 then ([], q.2.2) else if q.2.1 ≠ t.length then ([], 12) else if (enc q.1).2 = 0 ∧ (enc q.1).1 = t then (q.1, 0) else ([], 12)
def decT (t : List UInt8) : List Int × Int := colR (timesR t) encT t
def decV (t : List UInt8) : List Int × Int := colR (valuesR t) encV t
theorem numR_S {t rest : List UInt8} {at_ : Nat} {n : Int} (hd : t.drop at_ = vb (zz n) ++ rest) (h : inR n = true) : numR rdS t (at_, 0) = (n, (at_ + (vb (zz n)).length, 0)) := by
  simp [numR, hd, rdS_vb h]
theorem numR_V {t rest : List UInt8} {at_ n : Nat} (hd : t.drop at_ = vb n ++ rest) (h : n ≤ 1152921504606846976) : numR rdV t (at_, 0) = ((n : Int), (at_ + (vb n).length, 0)) := by
  simp [numR, hd, rdV_vb h]
theorem runE_cons (x : Int) (r : List Int) : ∃ m r', x :: r = List.replicate (m + 1) x ++ r' ∧ runE (x :: r) = vb (zz x) ++ (vb (m + 1) ++ runE r') ∧ r'.length + (m + 1) = r.length + 1 := by
  refine ⟨(r.takeWhile (· == x)).length, r.dropWhile (· == x), ?_, by rw [runE], ?_⟩
  · have h1 : r.takeWhile (· == x) = List.replicate (r.takeWhile (· == x)).length x := by
      rw [List.eq_replicate_iff]
      exact ⟨rfl, fun y hy => by have := List.all_eq_true.1 (List.all_takeWhile (p := (· == x)) (l := r)) y hy; simpa using this⟩
    rw [List.replicate_succ, ← h1, List.cons_append, List.takeWhile_append_dropWhile]
  · have := congrArg List.length (List.takeWhile_append_dropWhile (p := (· == x)) (l := r))
    rw [List.length_append] at this
    omega
theorem runsR_enc (t : List UInt8) : ∀ (k : Nat) (l : List Int) (at_ : Nat) (rest : List UInt8), l.length ≤ k → l.length ≤ 20000 → l.all inR = true → t.drop at_ = runE l ++ rest → runsR t k l.length (at_, 0) = (l, (at_ + (runE l).length, 0))
  | 0, l, at_, rest, hk, _, _, hd => by
    have : l = [] := List.length_eq_zero_iff.1 (by omega)
    subst this
    simp [runsR, runE]
  | k + 1, [], at_, rest, hk, _, _, hd => by simp [runsR, runE]
  | k + 1, x :: r, at_, rest, hk, hm, hr, hd => by
    obtain ⟨m, r', e1, e2, e3⟩ := runE_cons x r
    have hx : inR x = true := by simp only [List.all_cons, Bool.and_eq_true] at hr; exact hr.1
    have hr' : r'.all inR = true := by rw [e1, List.all_append, Bool.and_eq_true] at hr; exact hr.2
    simp only [List.length_cons] at hk hm
    rw [e2, List.append_assoc, List.append_assoc] at hd
    have n1 := numR_S hd hx
    have hd2 : t.drop (at_ + (vb (zz x)).length) = vb (m + 1) ++ (runE r' ++ rest) := by rw [← List.drop_drop, hd]; simp
    have n2 := numR_V hd2 (by omega)
    have hd3 : t.drop (at_ + (vb (zz x)).length + (vb (m + 1)).length) = runE r' ++ rest := by rw [← List.drop_drop, hd2]; simp
    have ih := runsR_enc t k r' _ rest (by omega) (by omega) hr' hd3
    rw [runsR, if_neg (by simp)]
    simp only [n1, n2]
    have hb : runB (x :: r).length (((m + 1 : Nat) : Int), (at_ + (vb (zz x)).length + (vb (m + 1)).length, 0)) = 0 := by
      unfold runB
      rw [if_neg]
      simp only [List.length_cons]
      omega
    have el : (x :: r).length - ((m + 1 : Nat) : Int).toNat = r'.length := by simp only [List.length_cons]; omega
    rw [if_neg (by rw [hb]; simp), el, ih]
    simp only [ne_eq, not_true_eq_false, if_false]
    refine Prod.ext ?_ (Prod.ext ?_ rfl)
    · show List.replicate ((m + 1 : Nat) : Int).toNat x ++ r' = x :: r
      rw [Int.toNat_natCast, e1]
    · rw [e2]; simp only [List.length_append]; omega
theorem sumsW_diffs : ∀ (x : Int) (r : List Int), (∀ y ∈ x :: r, -9223372036854775808 ≤ y ∧ y < 9223372036854775808) → sumsW x (diffs (x :: r)) = x :: r
  | x, [], _ => rfl
  | x, y :: r, h => by
    have hy := h y (by simp)
    have e : IntKind.i64.wrap (x + (y - x)) = y := by rw [wi64]; omega
    simp only [diffs, sumsW, e]
    rw [sumsW_diffs y r fun z hz => h z (by simp at hz ⊢; right; exact hz)]
theorem sumsW_diffs' {l : List Int} {x : Int} {r : List Int} (e : l = x :: r) (h : ∀ y ∈ l, -9223372036854775808 ≤ y ∧ y < 9223372036854775808) : sumsW x (diffs l) = l := by
  subst e; exact sumsW_diffs x r h
theorem decV_enc {l : List Int} (h : (encV l).2 = 0) : decV (encV l).1 = (l, 0) := by
  have hen : encV l = (vb l.length ++ first1 l ++ runE (diffs l), 0) ∧ l.length ≤ 20000 ∧ l.all inV = true := by
    unfold encV at h ⊢
    split at h
    · cases h
    · rename_i h1
      split at h
      · rename_i h2; rw [if_neg h1, if_pos h2]; exact ⟨rfl, by omega, h2⟩
      · cases h
  obtain ⟨he, hl, hv⟩ := hen
  have hV := inV_all hv
  have hR : ∀ x ∈ l, inR x = true := fun x hx => inV_R (List.all_eq_true.1 hv x hx)
  have hdR : (diffs l).all inR = true := List.all_eq_true.2 fun d hd => by have := diffs_mem hV d hd; simp [inR]; omega
  have hdl := diffs_len l
  generalize ht : (encV l).1 = t
  rw [he] at ht
  simp only at ht
  have n1 := numR_V (t := t) (at_ := 0) (n := l.length) (rest := first1 l ++ runE (diffs l)) (by rw [List.drop_zero, ← ht, List.append_assoc]) (by omega)
  have hq : valuesR t l.length (0 + (vb l.length).length, 0) = (l, (t.length, 0)) := by
    unfold valuesR
    cases l with
    | nil =>
      rw [← ht]
      simp [first1, diffs, runE]
    | cons x r =>
      rw [if_neg (by simp)]
      have hd : t.drop (0 + (vb (x :: r).length).length) = vb (zz x) ++ runE (diffs (x :: r)) := by rw [← ht]; simp [first1]
      have n2 := numR_S hd (hR x (by simp))
      have hd2 : t.drop (0 + (vb (x :: r).length).length + (vb (zz x)).length) = runE (diffs (x :: r)) ++ [] := by rw [← List.drop_drop, hd]; simp
      have n3 := runsR_enc t (diffs (x :: r)).length (diffs (x :: r)) _ [] (Nat.le_refl _) (by omega) hdR hd2
      rw [hdl] at n3
      simp only [n2, n3]
      rw [sumsW_diffs x r fun y hy => by have := hV y hy; omega]
      refine Prod.ext rfl (Prod.ext ?_ rfl)
      show _ = t.length
      rw [← ht]; simp only [List.length_append, first1]; omega
  show colR (valuesR t) encV t = _
  unfold colR
  simp only [n1]
  rw [if_neg (by omega), Int.toNat_natCast, hq]
  simp only [ne_eq, not_true_eq_false, if_false, he, ht, and_self, if_true]
theorem decT_enc {l : List Int} (h : (encT l).2 = 0) : decT (encT l).1 = (l, 0) := by
  have hc : chkT l = 0 := by
    unfold encT at h
    split at h
    · assumption
    · exact h
  have he : encT l = (vb l.length ++ first1 l ++ first1 (diffs l) ++ runE (diffs (diffs l)), 0) := by unfold encT; rw [if_pos hc]
  obtain ⟨hl, hV⟩ := chkT_ok hc
  have hR : ∀ x ∈ l, inR x = true := fun x hx => by have := hV x hx; simp [inR]; omega
  have hD := diffs_mem hV
  have hDR : ∀ x ∈ diffs l, inR x = true := fun x hx => by have := hD x hx; simp [inR]; omega
  have hDD := diffs_mem hD
  have hDDR : (diffs (diffs l)).all inR = true := List.all_eq_true.2 fun d hd => by have := hDD d hd; simp [inR]; omega
  have hdl := diffs_len l
  have hddl := diffs_len (diffs l)
  generalize ht : (encT l).1 = t
  rw [he] at ht
  simp only at ht
  have n1 := numR_V (t := t) (at_ := 0) (n := l.length) (rest := first1 l ++ (first1 (diffs l) ++ runE (diffs (diffs l)))) (by rw [List.drop_zero, ← ht]; simp only [List.append_assoc]) (by omega)
  have hq : timesR t l.length (0 + (vb l.length).length, 0) = (l, (t.length, 0)) := by
    unfold timesR
    match l, hl, hV, hR, hD, hDR, hDD, hDDR, hdl, hddl, ht with
    | [], _, _, _, _, _, _, _, _, _, ht =>
      rw [← ht]
      simp [first1, diffs, runE]
    | [x], _, _, hR, _, _, _, _, _, _, ht =>
      have hd : t.drop (0 + (vb [x].length).length) = vb (zz x) ++ [] := by rw [← ht]; simp [first1, diffs, runE]
      have n2 := numR_S hd (hR x (by simp))
      simp only [n2]
      rw [if_neg (by simp), if_pos (by simp), ← ht]
      simp [first1, diffs, runE]
    | x :: y :: r, hl, hV, hR, hD, hDR, hDD, hDDR, hdl, hddl, ht =>
      rw [if_neg (by simp)]
      have hd : t.drop (0 + (vb (x :: y :: r).length).length) = vb (zz x) ++ (vb (zz (y - x)) ++ runE (diffs (diffs (x :: y :: r)))) := by rw [← ht]; simp [first1, diffs]
      have n2 := numR_S hd (hR x (by simp))
      have hd2 : t.drop (0 + (vb (x :: y :: r).length).length + (vb (zz x)).length) = vb (zz (y - x)) ++ runE (diffs (diffs (x :: y :: r))) := by rw [← List.drop_drop, hd]; simp
      have n3 := numR_S hd2 (hDR (y - x) (by simp [diffs]))
      have hd3 : t.drop (0 + (vb (x :: y :: r).length).length + (vb (zz x)).length + (vb (zz (y - x))).length) = runE (diffs (diffs (x :: y :: r))) ++ [] := by rw [← List.drop_drop, hd2]; simp
      have n4 := runsR_enc t (diffs (diffs (x :: y :: r))).length (diffs (diffs (x :: y :: r))) _ [] (Nat.le_refl _) (by omega) hDDR hd3
      have e0 : (diffs (diffs (x :: y :: r))).length = (x :: y :: r).length - 2 := by omega
      rw [e0] at n4
      simp only [n2, n3, n4]
      rw [if_neg (by simp), sumsW_diffs' (l := diffs (x :: y :: r)) rfl fun z hz => by have := hD z hz; omega,
        sumsW_diffs' (l := x :: y :: r) rfl fun z hz => by have := hV z hz; omega]
      refine Prod.ext rfl (Prod.ext ?_ rfl)
      show _ = t.length
      rw [← ht]; simp only [List.length_append, first1, diffs]; omega
  show colR (timesR t) encT t = _
  unfold colR
  simp only [n1]
  rw [if_neg (by omega), Int.toNat_natCast, hq]
  simp only [ne_eq, not_true_eq_false, if_false, he, ht, and_self, if_true]
def decF (f : Int) (s : List UInt8) : List Int × Int := if f = 0 then decT s else if f = 1 then decV s else decI s
theorem decF_enc {f : Int} {l : List Int} (h : (encF f l).2 = 0) : decF f (encF f l).1 = (l, 0) := by
  unfold encF decF at *
  split at h
  · rename_i h0; rw [if_pos h0, if_pos h0]; exact decT_enc h
  · rename_i h0
    rw [if_neg h0, if_neg h0]
    split at h
    · rename_i h1; rw [if_pos h1, if_pos h1]; exact decV_enc h
    · rename_i h1; rw [if_neg h1, if_neg h1]; exact decI_enc h
/-! ### parts -/
/-- The contents of the parts, if there are just so many. -/
def splitN : Nat → List UInt8 → Option (List (List UInt8))
  | 0, s => if s = [] then some [] else none
  | k + 1, s => if s = [] then none else if (rdV s).2.2 ≠ 0 ∨ ((s.length - (rdV s).2.1 : Nat) : Int) < (rdV s).1 then none else
    (splitN k (s.drop ((rdV s).2.1 + (rdV s).1.toNat))).map (((s.drop (rdV s).2.1).take (rdV s).1.toNat) :: ·)
theorem flatP_cons (s : List UInt8) (r : List (List UInt8)) : flatP (s :: r) = vb s.length ++ (s ++ flatP r) := by simp [flatP]
theorem splitN_flat : ∀ ss : List (List UInt8), (∀ s ∈ ss, s.length ≤ 1152921504606846976) → splitN ss.length (flatP ss) = some ss
  | [], _ => rfl
  | s :: r, h => by
    have hs := h s (by simp)
    have hv := rdV_vb hs (s ++ flatP r)
    have hp := vb_pos s.length
    have hne : ¬ (flatP (s :: r) = []) := fun e => by
      have := congrArg List.length e
      rw [flatP_cons, List.length_append, List.length_nil] at this
      omega
    rw [List.length_cons, splitN, if_neg hne, flatP_cons, hv]
    simp only
    have hl : ((vb s.length ++ (s ++ flatP r)).length - (vb s.length).length : Nat) = s.length + (flatP r).length := by simp only [List.length_append]; omega
    rw [if_neg (by rw [hl]; rintro (h0 | h0); exact h0 rfl; omega), Int.toNat_natCast]
    have d1 : (vb s.length ++ (s ++ flatP r)).drop ((vb s.length).length + s.length) = flatP r := by rw [← List.drop_drop]; simp
    have d2 : ((vb s.length ++ (s ++ flatP r)).drop (vb s.length).length).take s.length = s := by simp
    rw [d1, d2, splitN_flat r fun x hx => h x (by simp [hx])]
    rfl
end Go.Proofs.YtafaoldmemcigaaGreat.Ab
namespace Go.Proofs.YtafaoldmemcigaaGreat.Ab
set_option maxHeartbeats 8000000
set_option maxRecDepth 10000
set_option linter.unusedSimpArgs false
set_option linter.unusedVariables false
theorem tmod2 (u : Nat) : (u : Int).tmod 2 = ((u % 2 : Nat) : Int) := rfl
theorem tdiv2 (u : Nat) : (u : Int).tdiv 2 = ((u / 2 : Nat) : Int) := rfl
/-- 153: unfolded -/
theorem pf153 (u : Nat) (h : u < 2^63) : Pf E0 153 [.c (.p (.int .u64 u))] (P' (pI (unf u))) := by
  have e1 : IntKind.u64.wrap ((u / 2 : Nat) : Int) = ((u / 2 : Nat) : Int) := by rw [wu64]; omega
  have e2 : IntKind.i64.wrap ((u / 2 : Nat) : Int) = ((u / 2 : Nat) : Int) := by rw [wi64]; omega
  have e3 : IntKind.i64.wrap (IntKind.i64.wrap (0 - ((u / 2 : Nat) : Int)) - 1) = -((u / 2 : Nat) : Int) - 1 := by rw [wi64, wi64]; omega
  unfold unf
  refine Pf.body (fn := Tryz.f153) (by kernel_rfl) rfl ?_; simp only [List.map_cons, List.map_nil, List.cons_append, List.nil_append, List.length_cons, List.length_nil, Tryz.ntmps153, List.replicate, Nat.reduceSub, Nat.reduceAdd]
  refine Wc.seq ?_
  refine Wc.reg fun K hK => ?_; simp only [go_sem, ti3, ti113, ti9, ti5, ti4, ti35]; refine hK _ _ ?_; clear hK K
  refine Wc.seq (Wc.seq ?_)
  refine Wc.reg fun K hK => ?_; simp only [go_sem, ti3, ti113, ti9, ti5, ti4, ti35, tmod2]; refine hK _ _ ?_; clear hK K
  refine Wc.cond (t := (((u % 2 : Nat) : Int) == 0)) (by simp only [go_sem, ti3, ti113, ti9, ti5, ti4, ti35]) (fun hc => ?_) (fun hc => ?_)
  · have hu : u % 2 = 0 := by have : ((u % 2 : Nat) : Int) = 0 := by simpa using hc
                              omega
    rw [if_pos hu]
    refine Wc.seq ?_
    refine Wc.reg fun K hK => ?_; simp only [go_sem, ti3, ti113, ti9, ti5, ti4, ti35, tdiv2, e1, e2]; refine hK _ _ ?_; clear hK K
    exact Wc.ret (Pf.ret [.tmp 2] [.c (.p (pI ((u / 2 : Nat) : Int)))] rfl rfl (by simp only [resultsD, go_sem, ti3, ti113, ti9, ti5, ti4, ti35]) rfl)
  · have hu : ¬ u % 2 = 0 := by have : ¬ ((u % 2 : Nat) : Int) = 0 := by simpa using hc
                                omega
    rw [if_neg hu]
    refine Wc.skip (Wc.seq ?_)
    refine Wc.reg fun K hK => ?_; simp only [go_sem, ti3, ti113, ti9, ti5, ti4, ti35, tdiv2, e1, e2, e3]; refine hK _ _ ?_; clear hK K
    exact Wc.ret (Pf.ret [.tmp 2] [.c (.p (pI (-((u / 2 : Nat) : Int) - 1)))] rfl rfl (by simp only [resultsD, go_sem, ti3, ti113, ti9, ti5, ti4, ti35]) rfl)
/-- 149: firstBytes$1, the body of an iterator -/
theorem iter149 {r : Nat} {frz : Bool} {t : List UInt8} : IterG 149 [.ref r 0] (fun s => s.get r = some (.cells [.p (.str t)] frz))
    (fun i k a => k = i + 1 ∧ i < 9 ∧ ∃ b, t[i]? = some b ∧ a = [.c (.p (pI i)), .c (.p (.int .u8 b.toNat))])
    (fun i => i = t.length ∨ i = 9 ∨ ∃ j b, i = j + 1 ∧ t[j]? = some b ∧ b.toNat < 128) := by
  refine ⟨Tryz.f149, _, by kernel_rfl, rfl, fun l J Z hJ hJ2 hZ hcap hy s h0 Q hQ hQZ => ?_⟩
  simp only [List.map_cons, List.map_nil, List.cons_append, List.nil_append, List.length_cons, List.length_nil, Tryz.ntmps149, List.replicate, Nat.reduceSub, Nat.reduceAdd]
  refine Wc.seq ?_
  refine Wc.reg fun K hK => ?_; simp only [go_sem, ti3, ti113, ti9, ti5, ti4, ti35]; refine hK _ _ ?_; clear hK K
  refine Wc.block (Wc.loop (fun k y => ∃ (i : Nat), k = 9 - i ∧ i ≤ 9 ∧ i ≤ t.length ∧ y.ds = [] ∧ Fs y.e 27 [(0, .v (.c (.fn (.yield l) [] []))), (1, .v (.c (.ref r 0))), (3, P' (pI i))] ∧ J i y.s) ?_ (k := 9) ?_)
  · rintro k ⟨e, ds, s1⟩ ⟨i, rfl, hi9, hil, rfl, hF, hj⟩
    simp only [Fs] at hF hj
    have hg := hcap _ _ hj
    refine Wc.seq (Wc.seq ?_)
    by_cases hlt : i < t.length
    · have d1 : ((i : Int) < (t.length : Int)) = True := by simp; omega
      refine Wc.reg fun K hK => ?_; simp only [go_sem, ti3, ti113, ti9, ti5, ti4, ti35, hF, hg, d1]; refine hK _ _ ?_; clear hK K
      refine Wc.cond (t := decide ((i : Int) < 9)) (by simp only [go_sem, ti3, ti113, ti9, ti5, ti4, ti35, hF]) (fun hc => ?_) (fun hc => ?_)
      · have h9 : i < 9 := by have : (i : Int) < 9 := by simpa using hc
                              omega
        obtain ⟨b, hb⟩ : ∃ b, t[i]? = some b := ⟨t[i], List.getElem?_eq_getElem hlt⟩
        refine Wc.skip (Wc.seq (Wc.block (Wc.seq ?_)))
        refine Wc.reg fun K hK => ?_; simp only [go_sem, ti3, ti113, ti9, ti5, ti4, ti35, hF, hg, hb, pdOfByte]
        obtain ⟨n, d, s2, hc1, hd⟩ := hy i (i + 1) _ ((s1.adv 8).adv 13) (hJ _ _ _ (hJ _ _ _ hj)) ⟨rfl, h9, b, hb, rfl⟩
        refine ⟨n, _, s2, hc1, ?_⟩
        rcases hd with ⟨rfl, hj2⟩ | ⟨rfl, hz⟩
        · have hg2 := hcap _ _ hj2
          simp only [go_sem, ti3, ti113, ti9, ti5, ti4, ti35, hF, hg2, hb, pdOfByte]; refine hK _ _ ?_; clear hK K
          refine Wc.cond (t := decide ((b.toNat : Int) < 128)) (by simp only [go_sem, ti3, ti113, ti9, ti5, ti4, ti35, hF]) (fun hc => ?_) (fun hc => ?_)
          · have hb8 : b.toNat < 128 := by have : (b.toNat : Int) < 128 := by simpa using hc
                                           omega
            exact Wc.ret (show bodyQ E0 Tryz.f149 Q .ret _ from bodyQ.ret (vs := []) rfl rfl (hQ _ _ (i + 1) (.inr (.inr ⟨i, b, rfl, hb, hb8⟩)) hj2))
          · refine Wc.skip ?_
            refine Wc.reg fun K hK => ?_; simp only [go_sem, ti3, ti113, ti9, ti5, ti4, ti35, hF, i64n i (by omega)]; refine hK _ _ ?_; clear hK K
            exact ⟨9 - (i + 1), by omega, i + 1, rfl, by omega, by omega, rfl, by simp only [Fs, Int.natCast_zero, go_sem, ti3, ti113, ti9, ti5, ti4, ti35, hF], hJ _ _ _ hj2⟩
        · simp only [go_sem, ti3, ti113, ti9, ti5, ti4, ti35, hF]; refine hK _ _ ?_; clear hK K
          refine Wc.cond (t := true) (by simp only [go_sem, ti3, ti113, ti9, ti5, ti4, ti35, hF]) (fun hc => ?_) (fun hc => by cases hc)
          exact Wc.ret (show bodyQ E0 Tryz.f149 Q .ret _ from bodyQ.ret (vs := []) rfl rfl (hQZ _ _ hz))
      · have h9 : i = 9 := by have : ¬ (i : Int) < 9 := by simpa using hc
                              omega
        exact Wc.exit (bodyQ.normal (vs := []) rfl rfl (hQ _ _ i (.inr (.inl h9)) (hJ _ _ _ hj)))
    · have d1 : ((i : Int) < (t.length : Int)) = False := by simp; omega
      refine Wc.reg fun K hK => ?_; simp only [go_sem, ti3, ti113, ti9, ti5, ti4, ti35, hF, hg, d1]; refine hK _ _ ?_; clear hK K
      refine Wc.cond (t := false) (by simp only [go_sem, ti3, ti113, ti9, ti5, ti4, ti35, hF]) (fun hc => by cases hc) (fun _ => ?_)
      exact Wc.exit (bodyQ.normal (vs := []) rfl rfl (hQ _ _ i (.inl (by omega)) (hJ _ _ _ hj)))
  · exact ⟨0, rfl, by omega, by omega, rfl, by simp only [Fs, Int.natCast_zero, go_sem, ti3, ti113, ti9, ti5, ti4, ti35], hJ _ _ _ h0⟩
/-- 135: firstBytes, in its caller's state -/
theorem call135 {s : St} {L : List (Nat × D × Nat × List Pd)} {M : List (Nat × Ob)} {t : List UInt8} {K : D → St → Prop} (h : OA s.nx s L M)
    (hK : ∀ s', OA s'.nx s' L ((s.nx, .cells [.p (.str t)] false) :: M) → s.nx < s'.nx → K (.v (.c (.fn (.func 149) [] [.ref s.nx 0]))) s') : wpCall E0 (.v (.c (.p (.fnc 135)))) [.v (.c (.p (.str t)))] s K := by
  refine wpCall.opn (fn := Tryz.f135) (by kernel_rfl) (by kernel_rfl) rfl (by kernel_rfl) rfl ?_; simp only [List.map_cons, List.map_nil, List.cons_append, List.nil_append, List.length_cons, List.length_nil, Tryz.ntmps135, List.replicate, Nat.reduceSub, Nat.reduceAdd]
  refine Wc.seq ?_
  refine Wc.reg fun K hK => ?_; simp only [go_sem, ti3, ti113, ti9, ti5, ti4, ti35]; refine hK _ _ ?_; clear hK K
  refine Wc.seq ?_
  refine Wc.reg fun K hK => ?_; simp only [go_sem, ti3, ti113, ti9, ti5, ti4, ti35]; refine hK _ _ ?_; clear hK K
  refine Wc.ret (Op.ret [.tmp 2] [.c (.fn (.func 149) [] [.ref s.nx 0])] rfl rfl (by simp only [resultsD, go_sem, ti3, ti113, ti9, ti5, ti4, ti35]) (hK _ ?_ ?_))
  · exact by simp only [St.nx_put, St.nx_adv]; repeat (first | exact OA.mono h (by omega) | refine OA.newB ?_ (by omega) rfl | refine OA.advB ?_)
  · simp only [St.nx_adv, St.nx_put]; omega
theorem and127b : ∀ n : Nat, n < 256 → (BitVec.ofInt 8 (n : Int) &&& BitVec.ofInt 8 127).toNat = n % 128 := by decide
theorem and127u8 (n : Nat) (h : n < 256) : andI .u8 (n : Int) 127 = ((n % 128 : Nat) : Int) := by
  unfold andI
  show IntKind.u8.wrap ((BitVec.ofInt 8 (n : Int) &&& BitVec.ofInt 8 127).toNat : Int) = _
  rw [and127b n h, wu8]; omega
theorem shl7 (x i : Nat) (hx : x < 128) (hi : i ≤ 8) : shlI .u64 (x : Int) (7 * i : Nat) = ((x * 2 ^ (7 * i) : Nat) : Int) := by
  unfold shlI
  have e : min ((7 * i : Nat) : Int).toNat (IntKind.u64.bits) = 7 * i := by
    show min ((7 * i : Nat) : Int).toNat 64 = 7 * i
    rw [Int.toNat_natCast]; omega
  rw [e, wu64]
  have h1 : (x : Int) * 2 ^ (7 * i) = ((x * 2 ^ (7 * i) : Nat) : Int) := by rw [Int.natCast_mul, Int.natCast_pow]; rfl
  have h2 : x * 2 ^ (7 * i) < 128 * 2 ^ (7 * i) := Nat.mul_lt_mul_of_pos_right hx (Nat.pow_pos (by omega))
  have h3 : 128 * 2 ^ (7 * i) = 2 ^ (7 * (i + 1)) := by rw [Nat.mul_add, Nat.pow_add, Nat.mul_comm]
  have h4 : 2 ^ (7 * (i + 1)) ≤ 2 ^ 63 := Nat.pow_le_pow_right (by omega) (by omega)
  rw [h1]
  omega
theorem orSum (a x k : Nat) (ha : a < 2 ^ k) (hs : a + x * 2 ^ k < 2 ^ 64) : orI .u64 (a : Int) ((x * 2 ^ k : Nat) : Int) = ((a + x * 2 ^ k : Nat) : Int) := by
  unfold orI
  show IntKind.u64.wrap ((BitVec.ofInt 64 (a : Int) ||| BitVec.ofInt 64 ((x * 2 ^ k : Nat) : Int)).toNat : Int) = _
  have h1 : (BitVec.ofInt 64 (a : Int)).toNat = a := by simp; omega
  have h2 : (BitVec.ofInt 64 ((x * 2 ^ k : Nat) : Int)).toNat = x * 2 ^ k := by
    rw [BitVec.toNat_ofInt]
    omega
  rw [BitVec.toNat_or, h1, h2]
  have h3 : a ||| x * 2 ^ k = a + x * 2 ^ k := by
    rw [Nat.or_comm, Nat.mul_comm x, ← Nat.two_pow_add_eq_or_of_lt ha, Nat.add_comm]
  rw [h3, wu64]
  omega
end Go.Proofs.YtafaoldmemcigaaGreat.Ab
namespace Go.Proofs.YtafaoldmemcigaaGreat.Ab
set_option maxHeartbeats 8000000
set_option maxRecDepth 10000
set_option linter.unusedSimpArgs false
set_option linter.unusedVariables false
/-- 116: read -/
theorem pf116 (t : List UInt8) : Pf E0 116 [.c (.p (.str t))] (.tup [.c (.p (.int .u64 (rdB 0 0 t).1)), .c (.p (pI (rdB 0 0 t).2.1)), .c (.p (.int .i64 (rdB 0 0 t).2.2))]) := by
  refine Pf.body (fn := Tryz.f116) (by kernel_rfl) rfl ?_; simp only [List.map_cons, List.map_nil, List.cons_append, List.nil_append, List.length_cons, List.length_nil, Tryz.ntmps116, List.replicate, Nat.reduceSub, Nat.reduceAdd]
  refine Wc.seq ?_
  refine Wc.reg fun K hK => ?_; simp only [go_sem, ti3, ti113, ti9, ti5, ti4, ti35]; refine hK _ _ ?_; clear hK K
  refine Wc.seqA (fun y => y.ds = [] ∧ Fs y.e 39 [(0, P' (.str t)), (2, .v (.c (.ref 0 0))), (3, .v (.c (.ref 1 0))), (4, .v (.c (.ref 2 0))), (5, .v (.c (.ref 3 0)))] ∧ OA y.s.nx y.s [] [(3, .cells [.p (.int .u64 0)] false), (2, .cells [.p (.int .i64 0)] false), (1, .cells [.p (.int .i64 0)] false), (0, .cells [.p (.int .u64 0)] false)]) ?_ ?_
  · refine Wc.reg fun K hK => ?_; simp only [go_sem, ti3, ti113, ti9, ti5, ti4, ti35]; refine hK _ _ ?_; clear hK K
    exact ⟨rfl, rfl, by simp only [Fs, Int.natCast_zero, go_sem, ti3, ti113, ti9, ti5, ti4, ti35], by simp only [St.nx_put, St.nx_adv]; repeat (first | exact OA.mono s00_oa (by omega) | refine OA.newB ?_ (by omega) rfl | refine OA.advB ?_)⟩
  rintro ⟨e, ds, s1⟩ ⟨rfl, hF, ho⟩
  simp only [Fs] at hF ho
  refine Wc.seq (Wc.seq ?_)
  refine Wc.reg fun K hK => ?_; simp only [go_sem, ti3, ti113, ti9, ti5, ti4, ti35, hF]
  refine call135 (ho.adv.mono (by simp only [St.nx_adv]; omega)) fun s2 ho2 hnx => ?_
  simp only [St.nx_adv] at ho2 hnx
  simp only [go_sem, ti3, ti113, ti9, ti5, ti4, ti35, hF]; refine hK _ _ ?_; clear hK K
  refine Wc.block ?_
  have hk0 : (s2.nx + 1 = 0) = False := by simp
  have hk1 : (s2.nx + 1 = 1) = False := by simp; omega
  have hk2 : (s2.nx + 1 = 2) = False := by simp; omega
  refine Wc.iterG (iter149 (r := s1.nx + 2) (frz := false) (t := t))
    (fun i L M => ∃ acc : Nat, L = [] ∧ M = [(s1.nx + 2, .cells [.p (.str t)] false), (3, .cells [.p (.int .u64 acc)] false), (2, .cells [.p (.int .i64 0)] false), (1, .cells [.p (.int .i64 0)] false), (0, .cells [.p (.int .u64 0)] false)] ∧ i ≤ 8 ∧ acc < 2 ^ (7 * i) ∧ rdB 0 0 t = rdB i acc (t.drop i) ∧ ∀ j b, j < i → t[j]? = some b → 128 ≤ b.toNat)
    (fun ex L M => ex = .ret ∧ L = [] ∧ ∃ m, M = [(s1.nx + 2, .cells [.p (.str t)] false), (3, m), (2, .cells [.p (.int .i64 (rdB 0 0 t).2.2)] false), (1, .cells [.p (pI (rdB 0 0 t).2.1)] false), (0, .cells [.p (.int .u64 (rdB 0 0 t).1)] false)])
    (by simp only [go_sem, ti3, ti113, ti9, ti5, ti4, ti35, hF]) ho2 ⟨0, rfl, rfl, by omega, by decide, rfl, fun j b hj => by omega⟩ ?_ ?_ ?_ ?_ ?_
  · rintro i L M s ⟨acc, rfl, rfl, _⟩ hM
    exact hM (_, _) (List.mem_cons_self ..)
  · rintro i k a ⟨_, _, b, _, rfl⟩; rfl
  · rintro i k aa lp s L M ⟨rfl, hi9, b, hb, rfl⟩ ⟨acc, rfl, rfl, hi8, hacc, hrd, hall⟩ hos
    have hb8 := b.toNat_lt
    have hlt := (List.getElem?_eq_some_iff.1 hb).1
    have hst : rdB i acc (t.drop i) = if (128 ≤ b.toNat ∧ i = 8) ∨ (b.toNat = 0 ∧ 0 < i) then (0, 0, 12) else if b.toNat < 128 then (acc + b.toNat * 2 ^ (7 * i), i + 1, 0) else rdB (i + 1) (acc + (b.toNat - 128) * 2 ^ (7 * i)) (t.drop (i + 1)) := by
      rw [List.drop_eq_getElem_cons hlt, (List.getElem?_eq_some_iff.1 hb).2]; rfl
    rw [hst] at hrd
    clear hst
    simp only [setAll, List.zip_cons_cons, List.zip_nil_right]
    refine Wc.seq ?_
    refine Wc.reg fun K hK => ?_; simp only [go_sem, ti3, ti113, ti9, ti5, ti4, ti35, hF]; refine hK _ _ ?_; clear hK K
    refine Wc.reg fun K hK => ?_; simp only [go_sem, ti3, ti113, ti9, ti5, ti4, ti35, hF]; refine hK _ _ ?_; clear hK K
    refine ⟨rfl, _, _, (hos.mono (by simp only [St.nx_adv]; omega)).adv.adv, fun lq s' hos' => ?_⟩
    refine Wc.block ?_
    have o3 := hos'.at_ (3, .cells [.p (.int .u64 acc)] false) (by simp)
    have o2 := hos'.at_ (2, .cells [.p (.int .i64 0)] false) (by simp)
    have o1 := hos'.at_ (1, .cells [.p (.int .i64 0)] false) (by simp)
    have o0 := hos'.at_ (0, .cells [.p (.int .u64 0)] false) (by simp)
    simp only at o0 o1 o2 o3
    -- what is laid at a return
    have lay : ∀ (x : St) (n : Nat) (k m : Int) (ob : Ob), OA x.nx x [] [(s2.nx, .loop lq), (s2.nx + 1, .defr), (s1.nx + 2, .cells [.p (.str t)] false), (3, ob), (2, .cells [.p (.int .i64 0)] false), (1, .cells [.p (.int .i64 0)] false), (0, .cells [.p (.int .u64 0)] false)] →
        OA (((x.put 0 (.cells [.p (.int .u64 n)] false)).put 1 (.cells [.p (pI k)] false)).put 2 (.cells [.p (.int .i64 m)] false)).nx (((x.put 0 (.cells [.p (.int .u64 n)] false)).put 1 (.cells [.p (pI k)] false)).put 2 (.cells [.p (.int .i64 m)] false)) []
          [(s2.nx, .loop lq), (s2.nx + 1, .defr), (s1.nx + 2, .cells [.p (.str t)] false), (3, ob), (2, .cells [.p (.int .i64 m)] false), (1, .cells [.p (pI k)] false), (0, .cells [.p (.int .u64 n)] false)] := fun x n k m ob h => by
      have h1 := OA.set (M1 := [(s2.nx, .loop lq), (s2.nx + 1, .defr), (s1.nx + 2, .cells [.p (.str t)] false), (3, ob), (2, .cells [.p (.int .i64 0)] false), (1, .cells [.p (.int .i64 0)] false)]) (M2 := []) (o' := .cells [.p (.int .u64 n)] false) h rfl
      have h2 := OA.set (M1 := [(s2.nx, .loop lq), (s2.nx + 1, .defr), (s1.nx + 2, .cells [.p (.str t)] false), (3, ob), (2, .cells [.p (.int .i64 0)] false)]) (M2 := [(0, .cells [.p (.int .u64 n)] false)]) (o' := .cells [.p (pI k)] false) h1 rfl
      exact OA.set (M1 := [(s2.nx, .loop lq), (s2.nx + 1, .defr), (s1.nx + 2, .cells [.p (.str t)] false), (3, ob)]) (M2 := [(1, .cells [.p (pI k)] false), (0, .cells [.p (.int .u64 n)] false)]) (o' := .cells [.p (.int .i64 m)] false) h2 rfl
    refine Wc.seqR (fun y => ¬((128 ≤ b.toNat ∧ i = 8) ∨ (b.toNat = 0 ∧ 0 < i)) ∧ y.ds = [] ∧ Fs y.e 39 [(2, .v (.c (.ref 0 0))), (3, .v (.c (.ref 1 0))), (4, .v (.c (.ref 2 0))), (5, .v (.c (.ref 3 0))), (6, P' (pI i)), (7, P' (.int .u8 b.toNat))] ∧ ∃ n, y.s = s'.adv n) ?_ ?_
    · refine Wc.seq ?_
      by_cases hA : (128 ≤ b.toNat ∧ i = 8) ∨ (b.toNat = 0 ∧ 0 < i)
      · rw [if_pos hA] at hrd
        rcases hA with ⟨h1, h2⟩ | ⟨h1, h2⟩
        · have d1 : ((128 : Int) ≤ b.toNat) = True := by simp; omega
          have d2 : ((i : Int) == 8) = true := by subst h2; rfl
          refine Wc.reg fun K hK => ?_; simp only [go_sem, ti3, ti113, ti9, ti5, ti4, ti35, hF, d1, d2]; refine hK _ _ ?_; clear hK K
          refine Wc.cond (t := true) (by simp only [go_sem, ti3, ti113, ti9, ti5, ti4, ti35, hF]) (fun _ => ?_) (fun hc => by cases hc)
          refine Wc.seq ?_
          refine Wc.reg fun K hK => ?_; simp only [go_sem, ti3, ti113, ti9, ti5, ti4, ti35, hF, o0, o1, o2]; refine hK _ _ ?_; clear hK K
          refine Wc.ret ⟨[], _, lay _ 0 0 12 (.cells [.p (.int .u64 acc)] false) ?_, rfl, rfl, _, by rw [hrd]; rfl⟩
          exact (hos'.mono (by simp only [St.nx_adv]; omega)).adv.adv
        · have d1 : ((128 : Int) ≤ b.toNat) = False := by simp; omega
          have d2 : ((b.toNat : Int) == 0) = true := by rw [h1]; rfl
          have d3 : ((0 : Int) < i) = True := by simp; omega
          refine Wc.reg fun K hK => ?_; simp only [go_sem, ti3, ti113, ti9, ti5, ti4, ti35, hF, d1, d2, d3]; refine hK _ _ ?_; clear hK K
          refine Wc.cond (t := true) (by simp only [go_sem, ti3, ti113, ti9, ti5, ti4, ti35, hF]) (fun _ => ?_) (fun hc => by cases hc)
          refine Wc.seq ?_
          refine Wc.reg fun K hK => ?_; simp only [go_sem, ti3, ti113, ti9, ti5, ti4, ti35, hF, o0, o1, o2]; refine hK _ _ ?_; clear hK K
          refine Wc.ret ⟨[], _, lay _ 0 0 12 (.cells [.p (.int .u64 acc)] false) ?_, rfl, rfl, _, by rw [hrd]; rfl⟩
          exact (hos'.mono (by simp only [St.nx_adv]; omega)).adv.adv
      · by_cases h1 : 128 ≤ b.toNat
        · have d1 : ((128 : Int) ≤ b.toNat) = True := by simp; omega
          have d2 : ((i : Int) == 8) = false := by simp; omega
          have d3 : ((b.toNat : Int) == 0) = false := by simp; omega
          refine Wc.reg fun K hK => ?_; simp only [go_sem, ti3, ti113, ti9, ti5, ti4, ti35, hF, d1, d2, d3]; refine hK _ _ ?_; clear hK K
          refine Wc.cond (t := false) (by simp only [go_sem, ti3, ti113, ti9, ti5, ti4, ti35, hF]) (fun hc => by cases hc) (fun _ => Wc.skip ?_)
          exact ⟨hA, rfl, by simp only [Fs, Int.natCast_zero, go_sem, ti3, ti113, ti9, ti5, ti4, ti35, hF], _, rfl⟩
        · have d1 : ((128 : Int) ≤ b.toNat) = False := by simp; omega
          by_cases h2 : b.toNat = 0
          · have d2 : ((b.toNat : Int) == 0) = true := by rw [h2]; rfl
            have d3 : ((0 : Int) < i) = False := by simp; omega
            refine Wc.reg fun K hK => ?_; simp only [go_sem, ti3, ti113, ti9, ti5, ti4, ti35, hF, d1, d2, d3]; refine hK _ _ ?_; clear hK K
            refine Wc.cond (t := false) (by simp only [go_sem, ti3, ti113, ti9, ti5, ti4, ti35, hF]) (fun hc => by cases hc) (fun _ => Wc.skip ?_)
            exact ⟨hA, rfl, by simp only [Fs, Int.natCast_zero, go_sem, ti3, ti113, ti9, ti5, ti4, ti35, hF], _, rfl⟩
          · have d2 : ((b.toNat : Int) == 0) = false := by simp; omega
            refine Wc.reg fun K hK => ?_; simp only [go_sem, ti3, ti113, ti9, ti5, ti4, ti35, hF, d1, d2]; refine hK _ _ ?_; clear hK K
            refine Wc.cond (t := false) (by simp only [go_sem, ti3, ti113, ti9, ti5, ti4, ti35, hF]) (fun hc => by cases hc) (fun _ => Wc.skip ?_)
            exact ⟨hA, rfl, by simp only [Fs, Int.natCast_zero, go_sem, ti3, ti113, ti9, ti5, ti4, ti35, hF], _, rfl⟩
    · clear hF
      rintro ⟨e, ds, s3⟩ ⟨hA, rfl, hF, n3, rfl⟩
      simp only [Fs] at hF
      rw [if_neg hA] at hrd
      have hm : b.toNat % 128 < 128 := Nat.mod_lt _ (by omega)
      have hp : 2 ^ (7 * (i + 1)) = 128 * 2 ^ (7 * i) := by rw [Nat.mul_add, Nat.pow_add, Nat.mul_comm]
      have hp2 : 2 ^ (7 * (i + 1)) ≤ 2 ^ 63 := Nat.pow_le_pow_right (by omega) (by omega)
      have hp3 : (b.toNat % 128 + 1) * 2 ^ (7 * i) ≤ 128 * 2 ^ (7 * i) := Nat.mul_le_mul_right _ (by omega)
      rw [Nat.add_mul] at hp3
      have w1 : IntKind.u64.wrap ((b.toNat % 128 : Nat) : Int) = ((b.toNat % 128 : Nat) : Int) := by rw [wu64]; omega
      have w2 : IntKind.i64.wrap (7 * (i : Int)) = ((7 * i : Nat) : Int) := by rw [wi64]; omega
      have w3 : (((7 * i : Nat) : Int) < 0) = False := by simp; omega
      have w4 := shl7 (b.toNat % 128) i hm hi8
      have w5 := orSum acc (b.toNat % 128) (7 * i) hacc (by omega)
      generalize hacc2 : acc + b.toNat % 128 * 2 ^ (7 * i) = acc2 at w5
      refine Wc.seq ?_
      refine Wc.regT fun K hK => ?_; simp only [go_sem, ti3, ti113, ti9, ti5, ti4, ti35, hF, o3, and127u8 b.toNat (by omega), w1, w2, w3, w4, w5]; refine ⟨by rfl, hK _ _ ?_⟩; clear hK K
      refine Wc.seq ?_
      refine Wc.reg fun K hK => ?_; simp only [go_sem, ti3, ti113, ti9, ti5, ti4, ti35, hF]; refine hK _ _ ?_; clear hK K
      have hset := OA.set (M1 := [(s2.nx, .loop lq), (s2.nx + 1, .defr), (s1.nx + 2, .cells [.p (.str t)] false)]) (k := 3) (o' := .cells [.p (.int .u64 acc2)] false) (hos'.adv (n := n3) |>.adv (n := 9)) rfl
      refine Wc.cond (t := decide ((b.toNat : Int) < 128)) (by simp only [go_sem, ti3, ti113, ti9, ti5, ti4, ti35, hF]) (fun hc => ?_) (fun hc => ?_)
      · have hb1 : b.toNat < 128 := by have : (b.toNat : Int) < 128 := by simpa using hc
                                       omega
        rw [if_pos hb1] at hrd
        have hbm : b.toNat % 128 = b.toNat := Nat.mod_eq_of_lt hb1
        rw [hbm] at hacc2
        rw [hacc2] at hrd
        refine Wc.seq ?_
        refine Wc.reg fun K hK => ?_; simp only [go_sem, ti3, ti113, ti9, ti5, ti4, ti35, hF, o0, o1, o2, i64n i (by omega)]; refine hK _ _ ?_; clear hK K
        refine Wc.ret ⟨[], _, lay _ acc2 ((i + 1 : Nat) : Int) 0 (.cells [.p (.int .u64 acc2)] false) ?_, rfl, rfl, _, by rw [hrd]⟩
        exact (hset.mono (by simp only [St.nx_put, St.nx_adv]; omega)).adv.adv
      · have hb1 : ¬ b.toNat < 128 := by have : ¬ (b.toNat : Int) < 128 := by simpa using hc
                                         omega
        rw [if_neg hb1] at hrd
        have hbm : b.toNat - 128 = b.toNat % 128 := by omega
        rw [hbm, hacc2] at hrd
        refine Wc.skip ⟨[], _, (hset.mono (by simp only [St.nx_put, St.nx_adv]; omega)).adv, acc2, rfl, rfl, by omega, by omega, hrd, fun j c hj hc => ?_⟩
        rcases Nat.lt_or_ge j i with h | h
        · exact hall j c h hc
        · have : j = i := by omega
          subst this
          rw [hb] at hc; cases hc; omega
  · rintro L M s' i hlast hos ⟨acc, rfl, rfl, hi8, hacc, hrd, hall⟩
    have hil : i = t.length := by
      rcases hlast with h | h | ⟨j, b, rfl, hb, hlt⟩
      · exact h
      · omega
      · have := hall j b (by omega) hb; omega
    subst hil
    rw [List.drop_length] at hrd
    have o2 := hos.at_ (2, .cells [.p (.int .i64 0)] false) (by simp)
    have o1 := hos.at_ (1, .cells [.p (.int .i64 0)] false) (by simp)
    have o0 := hos.at_ (0, .cells [.p (.int .u64 0)] false) (by simp)
    have gd := hos.at_ (s2.nx + 1, .defr) (by simp)
    simp only at o0 o1 o2 gd
    refine Wc.seq ?_
    refine Wc.reg fun K hK => ?_; simp only [go_sem, ti3, ti113, ti9, ti5, ti4, ti35, hF, o0, o1, o2]; refine hK _ _ ?_; clear hK K
    have hk0' : (0 = s2.nx + 1) = False := by simp
    have hk1' : (1 = s2.nx + 1) = False := by simp; omega
    have hk2' : (2 = s2.nx + 1) = False := by simp; omega
    rw [hrd]
    exact Wc.ret (Pf.ret1 [.cell 2 113, .cell 3 3, .cell 4 35] [.c (.p (.int .u64 0)), .c (.p (pI 0)), .c (.p (.int .i64 11))] rfl (by simp only [go_sem, ti3, ti113, ti9, ti5, ti4, ti35, hk0', hk1', hk2', gd]) rfl (by simp only [resultsD, go_sem, ti3, ti113, ti9, ti5, ti4, ti35, hF, o0, o1, o2, hk0, hk1, hk2]) rfl)
  · rintro ex L M s' hne hos ⟨rfl, rfl, m, rfl⟩
    have g2 := hos.at_ (2, .cells [.p (.int .i64 (rdB 0 0 t).2.2)] false) (by simp)
    have g1 := hos.at_ (1, .cells [.p (pI (rdB 0 0 t).2.1)] false) (by simp)
    have g0 := hos.at_ (0, .cells [.p (.int .u64 (rdB 0 0 t).1)] false) (by simp)
    have gd := hos.at_ (s2.nx + 1, .defr) (by simp)
    simp only at g0 g1 g2 gd
    exact Pf.ret1 [.cell 2 113, .cell 3 3, .cell 4 35] [.c (.p (.int .u64 (rdB 0 0 t).1)), .c (.p (pI (rdB 0 0 t).2.1)), .c (.p (.int .i64 (rdB 0 0 t).2.2))] rfl gd rfl (by simp only [resultsD, go_sem, ti3, ti113, ti9, ti5, ti4, ti35, hF, g0, g1, g2, hk0, hk1, hk2]) rfl
end Go.Proofs.YtafaoldmemcigaaGreat.Ab
