/- A part of the proof: an evaluator of the code, its contracts, the law. No condition. -/
import Derived.Test.YtedcnhbblgmdnaaGreatT21
namespace Go.Proofs.YtedcnhbblgmdnaaGreat.Ab
set_option maxHeartbeats 4000000
set_option linter.unusedSimpArgs false
set_option linter.unusedVariables false
theorem encT_len {l : List Int} (h : (encT l).2 = 0) : (encT l).1.length ≤ 40 + 20 * l.length := by
  unfold encT at *
  by_cases hc : chkT l = 0
  · rw [if_pos hc]
    obtain ⟨hl2, hV⟩ := chkT_ok hc
    have hR : ∀ x ∈ l, inR x = true := fun x hx => by have := hV x hx; simp [inR]; omega
    have hD := diffs_mem hV
    have hDR : ∀ x ∈ diffs l, inR x = true := fun x hx => by have := hD x hx; simp [inR]; omega
    have hDD := diffs_mem hD
    have hDDR : (diffs (diffs l)).all inR = true := List.all_eq_true.2 fun d hd => by have := hDD d hd; simp [inR]; omega
    have hdl := diffs_len l
    have hddl := diffs_len (diffs l)
    have hrl := runE_len _ (diffs (diffs l)) (Nat.le_refl _) hDDR (by omega)
    have f1 := first1_len hR
    have f2 := first1_len hDR
    have hvl := vb_len10 (n := l.length) (by omega)
    simp only [List.length_append]
    omega
  · rw [if_neg hc] at h
    exact absurd h hc
theorem encV_len2 {l : List Int} (h : (encV l).2 = 0) : (encV l).1.length ≤ 40 + 20 * l.length := by
  unfold encV at *
  by_cases h1 : 20000 < l.length
  · rw [if_pos h1] at h; cases h
  rw [if_neg h1] at h ⊢
  by_cases h2 : l.all inV = true
  · rw [if_pos h2]
    have hV := inV_all h2
    have hR : ∀ x ∈ l, inR x = true := fun x hx => inV_R (List.all_eq_true.1 h2 x hx)
    have hdR : (diffs l).all inR = true := List.all_eq_true.2 fun d hd => by have := diffs_mem hV d hd; simp [inR]; omega
    have hdl := diffs_len l
    have hrl := runE_len _ (diffs l) (Nat.le_refl _) hdR (by omega)
    have f1 := first1_len hR
    have hvl := vb_len10 (n := l.length) (by omega)
    simp only [List.length_append]
    omega
  · rw [if_neg h2] at h; cases h
theorem encI_len2 {l : List Int} (h : (encI l).2 = 0) : (encI l).1.length ≤ 40 + 20 * l.length := by
  unfold encI at *
  by_cases h1 : 20000 < l.length
  · rw [if_pos h1] at h; cases h
  rw [if_neg h1] at h ⊢
  by_cases h2 : l.all inR = true
  · rw [if_pos h2]
    have hvl := vb_len10 (n := l.length) (by omega)
    have := encL_len l h2
    simp only [List.length_append]
    omega
  · rw [if_neg h2] at h; cases h
theorem encF_len {f : Int} {l : List Int} (h : (encF f l).2 = 0) : (encF f l).1.length ≤ 40 + 20 * l.length := by
  unfold encF at *
  split at h
  · rename_i h0; rw [if_pos h0]; exact encT_len h
  · split at h
    · rename_i h0 h1; rw [if_neg h0, if_pos h1]; exact encV_len2 h
    · rename_i h0 h1; rw [if_neg h0, if_neg h1]; exact encI_len2 h
/-- Encoded columns; none: one is too long. -/
def colsOK (cs : List (List UInt8 × Int)) : Option (List (List UInt8)) := if cs.all (fun c => c.2 == 0) then some (cs.map (·.1)) else none
theorem colsOK_cons (c : List UInt8 × Int) (r : List (List UInt8 × Int)) : colsOK (c :: r) = if c.2 = 0 then (match colsOK r with
    | some ss => some (c.1 :: ss)
    | none => none) else none := by
  unfold colsOK
  by_cases h : c.2 = 0
  · have hb : (c.2 == 0) = true := by simpa using h
    rw [if_pos h, List.all_cons, hb, Bool.true_and, List.map_cons]
    cases r.all (fun c => c.2 == 0) <;> rfl
  · have hb : (c.2 == 0) = false := by simpa using h
    rw [if_neg h, List.all_cons, hb, Bool.false_and]; rfl
theorem packE_cols {A : Type} (l : List A) : ∀ cols : List (Col A), packE l cols = colsOK (cols.map fun c => encF c.f (l.map c.get))
  | [] => rfl
  | c :: r => by rw [List.map_cons, colsOK_cons, packE, packE_cols l r]; rfl
def smpCs (l : List I2) : List (List UInt8 × Int) := [encT (l.map (·.1)), encV (l.map (·.2))]
def hstCs (l : List HSm) : List (List UInt8 × Int) :=
  [encT (l.map (·.t)), encV (l.map (·.h.p)), encV (l.map (·.h.c)), encV (l.map (·.h.mn)), encV (l.map (·.h.mx)), encV (l.map fun x => (x.h.bs.length : Int)), encV ((l.flatMap (·.h.bs)).map (·.1)), encV ((l.flatMap (·.h.bs)).map (·.2)), encI (l.map (·.h.s))]
/-! ### the parts, one behind the other -/
def flatP (ss : List (List UInt8)) : List UInt8 := ss.flatMap fun s => vb s.length ++ s
/-- What both encoders come to, out of the columns. -/
def encC (sig : Int) (lab : Pd) (z : List Pd) (t : List UInt8) (cs : List (List UInt8 × Int)) : D := match colsOK cs with
  | none => .tup [noCh, .c (.p (pI 4))]
  | some ss => finE sig lab z (jn t ss)
/-! ### zones -/
def zfold (l : List I2) : Zo := l.foldl (fun z p => z.add p.1 p.2) Zo.none
/-! ### what a valid series is -/
theorem sck_ok {k : Int} : ∀ {l : List I2} {p : Option Int}, sck k p l = 0 → ∀ x ∈ l, smpOK x = true
  | [], p, h, x, hx => by cases hx
  | y :: r, p, h, x, hx => by
    have h1 : ¬ (smpOK y = false ∨ (k = 2 ∧ y.2 < 0)) := fun hb => by
      cases p <;> simp only [sck] at h <;> rw [if_pos hb] at h <;> cases h
    have h2 : sck k (some y.1) r = 0 := by
      cases p with
      | none => simp only [sck] at h; rw [if_neg h1] at h; exact h
      | some z =>
        simp only [sck] at h
        rw [if_neg h1] at h
        split at h
        · cases h
        · exact h
    rcases List.mem_cons.1 hx with rfl | hx
    · cases hs : smpOK x with
      | true => rfl
      | false => exact absurd (.inl hs) h1
    · exact sck_ok h2 x hx
theorem sckA_ok {k : Int} {l : List I2} (h : sckA k l = 0) : (k = 1 ∨ k = 2) ∧ l.length ≤ 2000 ∧ ∀ x ∈ l, isT x.1 = true ∧ isVl x.2 = true := by
  unfold sckA at h
  split at h
  · cases h
  · split at h
    · cases h
    · refine ⟨by omega, by omega, fun x hx => ?_⟩
      have := sck_ok h x hx
      simpa [smpOK] using this
def serCs (x : Ser) : List (List UInt8 × Int) := if x.k = 3 then hstCs x.hs else smpCs x.sm
def serZ (x : Ser) : Zo := if x.k = 3 then zfold (x.hs.map fun y => (y.t, y.h.c)) else zfold x.sm
/-- The cells of a zone whose bits are clear. -/
abbrev Zo.pd (z : Zo) : List Pd := [pI z.c, pI z.t1, pI z.t2, pI z.v1, pI z.v2, .int .u32 0, .int .u32 0, .int .u32 0, .int .u32 0, .int .u32 0, .int .u32 0, .int .u32 0, .int .u32 0]
/-- What Encode comes to. -/
def encS (x : Ser) : D := if serOK x = false then .tup [noCh, .c (.p (pI 1))] else encC 1 (.lst x.lb.length (x.lb.flatMap lbP)) (serZ x).pd (appV [] x.k).1 (serCs x)
end Go.Proofs.YtedcnhbblgmdnaaGreat.Ab
namespace Go.Proofs.YtedcnhbblgmdnaaGreat.Ab
set_option maxHeartbeats 8000000
set_option maxRecDepth 10000
set_option linter.unusedSimpArgs false
set_option linter.unusedVariables false
theorem jn_pre {cs : List (List UInt8 × Int)} {ss : List (List UInt8)} {m : Nat} (h : colsOK cs = some ss) (hl : ∀ c ∈ cs, c.2 = 0 → c.1.length ≤ m) : ∀ s ∈ ss, s.length ≤ m := by
  unfold colsOK at h
  split at h
  · rename_i ha
    cases h
    intro s hs
    obtain ⟨c, hc, rfl⟩ := List.mem_map.1 hs
    exact hl c hc (by simpa using List.all_eq_true.1 ha c hc)
  · cases h
end Go.Proofs.YtedcnhbblgmdnaaGreat.Ab
namespace Go.Proofs.YtedcnhbblgmdnaaGreat.Ab
set_option maxHeartbeats 4000000
set_option maxRecDepth 10000
set_option linter.unusedSimpArgs false
set_option linter.unusedVariables false
/-- What is known of a frame. -/
def Fs (e : List D) (n : Nat) : List (Nat × D) → Prop
  | [] => e.length = n
  | (j, d) :: r => e.getD j .junk = d ∧ Fs e n r
theorem OA.newB {s : St} {c k : Nat} {o : Ob} {L : List (Nat × D × Nat × List Pd)} {M : List (Nat × Ob)} (h : OA k s L M) (hc : k < c) (hf : o.isFront = false) : OA c (s.put k o) L ((k, o) :: M) :=
  (h.new (Nat.le_refl _) hf).mono hc
theorem OA.advB {s : St} {c n : Nat} {L : List (Nat × D × Nat × List Pd)} {M : List (Nat × Ob)} (h : OA c s L M) : OA c (s.adv n) L M := h.adv
/-- One object is laid anew. -/
def OAs (c : Nat) (s : St) (L : List (Nat × D × Nat × List Pd)) (M1 : List (Nat × Ob)) (k : Nat) (M2 : List (Nat × Ob)) : Prop := ∃ o, OA c s L (M1 ++ (k, o) :: M2)
theorem OAs.adv {c n : Nat} {s : St} {L : List (Nat × D × Nat × List Pd)} {M1 M2 : List (Nat × Ob)} {k : Nat} (h : OAs c s L M1 k M2) : OAs c (s.adv n) L M1 k M2 := by
  obtain ⟨o, h⟩ := h; exact ⟨o, h.adv⟩
theorem OAs.put {c : Nat} {s : St} {L : List (Nat × D × Nat × List Pd)} {M1 M2 : List (Nat × Ob)} {k : Nat} {o' : Ob} (h : OAs c s L M1 k M2) (hf : o'.isFront = false := by rfl) : OAs c (s.put k o') L M1 k M2 := by
  obtain ⟨o, h⟩ := h; exact ⟨o', h.set hf⟩
theorem OA.ofS {c : Nat} {s : St} {L : List (Nat × D × Nat × List Pd)} {M1 M2 : List (Nat × Ob)} {k : Nat} {o' : Ob} (h : OAs c s L M1 k M2) (hf : o'.isFront = false := by rfl) : OA c (s.put k o') L (M1 ++ (k, o') :: M2) := by
  obtain ⟨o, h⟩ := h; exact h.set hf
attribute [go_sem] St.put_put
/-- An iterator whose rounds may also end it. -/
def IterG (g : Nat) (cap : List C) (H : St → Prop) (step : Nat → Nat → List V → Prop) (last : Nat → Prop) : Prop :=
  ∃ fn c, E0.fn g = some fn ∧ fn.body = some c ∧ ∀ (l : Nat) (J : Nat → St → Prop) (Z : St → Prop), (∀ i s n, J i s → J i (s.adv n)) → (∀ i s n k o, J i s → s.nx ≤ k → k < s.nx + n → J i ((s.adv n).put k o)) → (∀ s n, Z s → Z (s.adv n)) → (∀ i s, J i s → H s) →
    (∀ i k a s, J i s → step i k a → wpCall E0 (.v (.c (.fn (.yield l) [] []))) (a.map .v) s (fun d s' => (d = P' (.bool true) ∧ J k s') ∨ (d = P' (.bool false) ∧ Z s'))) →
    ∀ s, J 0 s → ∀ Q : D → St → Prop, (∀ d s' i, last i → J i s' → Q d s') → (∀ d s', Z s' → Q d s') →
      Wc E0 none c { e := (V.c (.fn (.yield l) [] []) :: cap.map .c).map .v ++ List.replicate (fn.ntmps - (V.c (.fn (.yield l) [] []) :: cap.map .c).length) (.tup []), ds := [], s := s } (bodyQ E0 fn Q)
/-- How a round ends. -/
def endG (R Z : Prop) : Ex → Prop
  | .normal => R
  | _ => Z
end Go.Proofs.YtedcnhbblgmdnaaGreat.Ab
namespace Go.Proofs.YtedcnhbblgmdnaaGreat.Ab
set_option maxHeartbeats 4000000
set_option linter.unusedSimpArgs false
set_option linter.unusedVariables false
/-! ### buckets of samples -/
structure Bkt where
  st : Int
  c : Int
  s : Int
  mn : Int
  mx : Int
  f : Int
  l : Int
  ft : Int
  lt : Int
  inc : Int
abbrev Bkt.pd (b : Bkt) : List Pd := [pI b.st, pI b.c, pI b.s, pI b.mn, pI b.mx, pI b.f, pI b.l, pI b.ft, pI b.lt, pI b.inc]
def stepV (a b : Int) : Int := if b < a then b else b - a
def startOf (w t : Int) : Int := (t - 1).tdiv w * w
def single (w : Int) (x : I2) : Bkt := ⟨startOf w x.1, 1, x.2, x.2, x.2, x.2, x.2, x.1, x.1, 0⟩
def minI (a b : Int) : Int := if b < a then b else a
def maxI (a b : Int) : Int := if b > a then b else a
def joinB (k : Int) (a b : Bkt) : Bkt := ⟨a.st, a.c + b.c, a.s + b.s, minI a.mn b.mn, maxI a.mx b.mx, a.f, b.l, a.ft, b.lt, if k = 2 then a.inc + b.inc + stepV a.l b.f else a.inc⟩
/-- Buckets with one more, which is later than all others. -/
def appB (k : Int) (l : List Bkt) (b : Bkt) : List Bkt := match l.getLast? with
  | none => [b]
  | some a => if a.st = b.st then l.dropLast ++ [joinB k a b] else l ++ [b]
def ofB (k w : Int) (l : List I2) : List Bkt := l.foldl (fun acc x => appB k acc (single w x)) []
/-- The samples of each bucket. -/
def pieces (w : Int) : List I2 → List (Int × List I2)
  | [] => []
  | x :: r => (startOf w x.1, x :: r.takeWhile fun y => decide (y.1 - startOf w x.1 ≤ w)) :: pieces w (r.dropWhile fun y => decide (y.1 - startOf w x.1 ≤ w))
termination_by l => l.length
decreasing_by
  have := (List.dropWhile_sublist (p := fun y : I2 => decide (y.1 - startOf w x.1 ≤ w)) (l := r)).length_le
  simp only [List.length_cons]
  omega
def incV : List I2 → Int
  | x :: y :: r => stepV x.2 y.2 + incV (y :: r)
  | _ => 0
def sumV (l : List I2) : Int := l.foldl (fun s x => s + x.2) 0
def sumB (k st : Int) (x : I2) (r : List I2) : Bkt := ⟨st, (x :: r).length, sumV (x :: r), (x :: r).foldl (fun m y => minI m y.2) x.2, (x :: r).foldl (fun m y => maxI m y.2) x.2, x.2, ((x :: r).getLast (by simp)).2, x.1, ((x :: r).getLast (by simp)).1, if k = 2 then incV (x :: r) else 0⟩
def sumP (k : Int) (p : Int × List I2) : List Bkt := match p.2 with
  | [] => []
  | x :: r => [sumB k p.1 x r]
def rollB (k w : Int) (l : List I2) : List Bkt := (pieces w l).flatMap (sumP k)
theorem start_le {w t : Int} (hw : 1 ≤ w) (ht : 1 ≤ t) : startOf w t < t ∧ t ≤ startOf w t + w ∧ 0 ≤ startOf w t := by
  unfold startOf
  have e : (t - 1).tdiv w = (t - 1) / w := Int.tdiv_eq_ediv_of_nonneg (by omega)
  rw [e]
  have h1 := Int.emod_add_mul_ediv (t - 1) w
  have h2 := Int.emod_nonneg (t - 1) (show w ≠ 0 by omega)
  have h3 := Int.emod_lt_of_pos (t - 1) (show 0 < w by omega)
  rw [Int.mul_comm w] at h1
  have h4 : 0 ≤ (t - 1) / w := Int.ediv_nonneg (by omega) (by omega)
  have h5 := Int.mul_nonneg h4 (show 0 ≤ w by omega)
  omega
/-- The same bucket: as far as its width. -/
theorem start_eq {w t u : Int} (hw : 1 ≤ w) (ht : 1 ≤ t) (hu : t < u) : (u - startOf w t ≤ w) ↔ startOf w t = startOf w u := by
  obtain ⟨a1, a2, a3⟩ := start_le hw ht
  obtain ⟨b1, b2, b3⟩ := start_le hw (show 1 ≤ u by omega)
  constructor
  · intro h
    have e1 : startOf w t = (t - 1) / w * w := by unfold startOf; rw [Int.tdiv_eq_ediv_of_nonneg (by omega)]
    have e2 : startOf w u = (u - 1) / w * w := by unfold startOf; rw [Int.tdiv_eq_ediv_of_nonneg (by omega)]
    have hm : (t - 1) / w ≤ (u - 1) / w := Int.ediv_le_ediv (by omega) (by omega)
    rcases Int.lt_or_eq_of_le hm with h1 | h1
    · have h2 : ((t - 1) / w + 1) * w ≤ (u - 1) / w * w := Int.mul_le_mul_of_nonneg_right (by omega) (by omega)
      rw [Int.add_mul, Int.one_mul] at h2
      omega
    · rw [e1, e2, h1]
  · intro h
    omega
theorem appB_same {k : Int} {acc : List Bkt} {a b : Bkt} (h : a.st = b.st) : appB k (acc ++ [a]) b = acc ++ [joinB k a b] := by
  simp [appB, h]
theorem appB_new {k : Int} {acc : List Bkt} {b : Bkt} (h : ∀ a, acc.getLast? = some a → a.st ≠ b.st) : appB k acc b = acc ++ [b] := by
  unfold appB
  cases hl : acc.getLast? with
  | none => have := List.getLast?_eq_none_iff.1 hl; subst this; rfl
  | some a => simp only; rw [if_neg (h a hl)]
theorem incV_snoc : ∀ (x : I2) (r : List I2) (y : I2), incV (x :: (r ++ [y])) = incV (x :: r) + stepV ((x :: r).getLast (by simp)).2 y.2
  | x, [], y => by simp [incV]
  | x, z :: r, y => by
    have := incV_snoc z r y
    simp only [List.cons_append, incV] at this ⊢
    rw [this, List.getLast_cons (by simp : z :: r ≠ [])]
    omega
theorem sumB_snoc (k : Int) (w : Int) (st : Int) (x : I2) (r : List I2) (y : I2) (hst : startOf w y.1 = st) : sumB k st x (r ++ [y]) = joinB k (sumB k st x r) (single w y) := by
  have hl : (x :: (r ++ [y])).getLast (by simp) = y := by
    have : x :: (r ++ [y]) = (x :: r) ++ [y] := rfl
    simp only [this, List.getLast_concat]
  unfold sumB joinB single
  simp only [hl, Bkt.mk.injEq, true_and]
  refine ⟨by simp, ?_, ?_, ?_, ?_⟩
  · unfold sumV
    rw [← List.cons_append, List.foldl_append]; rfl
  · rw [← List.cons_append, List.foldl_append]; rfl
  · rw [← List.cons_append, List.foldl_append]; rfl
  · split
    · rw [incV_snoc]; omega
    · rfl
theorem sumB_one (k w : Int) (x : I2) : sumB k (startOf w x.1) x [] = single w x := by
  unfold sumB single
  simp only [Bkt.mk.injEq, true_and]
  refine ⟨by simp, by simp [sumV], by simp [minI], by simp [maxI], by simp, by simp, ?_⟩
  split <;> rfl
/-- A bucket's samples, one behind the other. -/
theorem fold_piece (k w : Int) (acc : List Bkt) (x : I2) : ∀ (n : Nat) (r : List I2), r.length = n → (∀ y ∈ r, startOf w y.1 = startOf w x.1) → (acc.getLast?.map (·.st) ≠ some (startOf w x.1)) →
    (x :: r).foldl (fun acc x => appB k acc (single w x)) acc = acc ++ [sumB k (startOf w x.1) x r]
  | 0, r, hn, _, hacc => by
    have : r = [] := List.length_eq_zero_iff.1 hn
    subst this
    simp only [List.foldl_cons, List.foldl_nil]
    rw [appB_new, sumB_one]
    intro a ha he
    rw [ha] at hacc
    exact hacc (by simp [he]; rfl)
  | n + 1, r, hn, hr, hacc => by
    have hne : r ≠ [] := fun e => by rw [e] at hn; simp at hn
    obtain ⟨q, y, rfl⟩ : ∃ q y, r = q ++ [y] := ⟨r.dropLast, r.getLast hne, (List.dropLast_concat_getLast hne).symm⟩
    have ih := fold_piece k w acc x n q (by simpa using hn) (fun z hz => hr z (by simp [hz])) hacc
    rw [← List.cons_append, List.foldl_append, ih]
    simp only [List.foldl_cons, List.foldl_nil]
    have hy := hr y (by simp)
    rw [appB_same (by rw [show (sumB k (startOf w x.1) x q).st = startOf w x.1 from rfl]; exact hy.symm), ← sumB_snoc k w _ x q y hy]
theorem takeWhile_append_drop {A : Type} (p : A → Bool) (l : List A) : l = l.takeWhile p ++ l.dropWhile p := (List.takeWhile_append_dropWhile).symm
/-- The buckets of sorted samples, in both ways. -/
theorem roll_of (k w : Int) (hw : 1 ≤ w) : ∀ (n : Nat) (l : List I2) (acc : List Bkt), l.length ≤ n → l.Pairwise (fun a b => a.1 < b.1) → (∀ x ∈ l, 1 ≤ x.1) → (∀ x, l.head? = some x → acc.getLast?.map (·.st) ≠ some (startOf w x.1)) →
    l.foldl (fun acc x => appB k acc (single w x)) acc = acc ++ rollB k w l
  | 0, l, acc, hn, _, _, _ => by
    have : l = [] := List.length_eq_zero_iff.1 (by omega)
    subst this
    simp [rollB, pieces]
  | n + 1, [], acc, hn, _, _, _ => by simp [rollB, pieces]
  | n + 1, x :: r, acc, hn, hs, hb, hacc => by
    obtain ⟨h1, h2⟩ := List.pairwise_cons.1 hs
    have hx := hb x (by simp)
    obtain ⟨G, hG⟩ : ∃ G, r.takeWhile (fun y => decide (y.1 - startOf w x.1 ≤ w)) = G := ⟨_, rfl⟩
    obtain ⟨R, hR⟩ : ∃ R, r.dropWhile (fun y => decide (y.1 - startOf w x.1 ≤ w)) = R := ⟨_, rfl⟩
    have hr : r = G ++ R := by rw [← hG, ← hR]; exact takeWhile_append_drop _ _
    have hroll : rollB k w (x :: r) = sumB k (startOf w x.1) x G :: rollB k w R := by
      unfold rollB
      rw [pieces, hG, hR, List.flatMap_cons]
      rfl
    have hGst : ∀ y ∈ G, startOf w y.1 = startOf w x.1 := fun y hy => by
      have hy2 : y ∈ r.takeWhile (fun y => decide (y.1 - startOf w x.1 ≤ w)) := hG ▸ hy
      have hp := List.all_eq_true.1 (List.all_takeWhile (p := fun y : I2 => decide (y.1 - startOf w x.1 ≤ w)) (l := r)) y hy2
      have hyr : y ∈ r := by rw [hr]; simp [hy]
      exact ((start_eq hw hx (h1 y hyr)).1 (by simpa using hp)).symm
    rw [hroll]
    conv => lhs; rw [hr, ← List.cons_append, List.foldl_append]
    rw [fold_piece k w acc x G.length G rfl hGst (hacc x rfl)]
    rw [roll_of k w hw n R (acc ++ [sumB k (startOf w x.1) x G]) ?_ ?_ ?_ ?_]
    · simp
    · simp only [List.length_cons] at hn
      have := congrArg List.length hr
      rw [List.length_append] at this
      omega
    · rw [hr] at h2
      exact (List.pairwise_append.1 h2).2.1
    · intro y hy
      exact hb y (by rw [hr]; simp [hy])
    · intro y hy
      simp only [List.getLast?_append, List.getLast?_singleton, Option.some_or, Option.map_some]
      intro he
      simp only [Option.some.injEq] at he
      have he2 : startOf w x.1 = startOf w y.1 := he
      have hyr : y ∈ r := by rw [hr]; cases R with
        | nil => cases hy
        | cons a q => simp at hy; subst hy; simp
      have := (start_eq hw hx (h1 y hyr)).2 he2
      have hnot : ¬ (decide (y.1 - startOf w x.1 ≤ w) = true) := by
        cases R with
        | nil => cases hy
        | cons a q =>
          simp at hy; subst hy
          have := List.head_dropWhile_not (p := fun y : I2 => decide (y.1 - startOf w x.1 ≤ w)) (l := r) (by rw [hR]; simp)
          simp only [hR, List.head_cons] at this
          simpa using this
      exact hnot (by simpa using this)
theorem rollB_eq {k w : Int} (hw : 1 ≤ w) {l : List I2} (hs : l.Pairwise (fun a b => a.1 < b.1)) (hb : ∀ x ∈ l, 1 ≤ x.1) : rollB k w l = ofB k w l := by
  have := roll_of k w hw l.length l [] (Nat.le_refl _) hs hb (fun x _ => by simp)
  simp only [List.nil_append] at this
  exact this.symm
end Go.Proofs.YtedcnhbblgmdnaaGreat.Ab
namespace Go.Proofs.YtedcnhbblgmdnaaGreat.Ab
set_option maxHeartbeats 8000000
set_option maxRecDepth 10000
set_option linter.unusedSimpArgs false
set_option linter.unusedVariables false
/-- 184: isValue -/
theorem pf224 (n : Int) : Pf E0 224 [.c (.p (.int .i64 n))] (P' (.bool (isVl n))) := by
  refine Pf.body (fn := Tryz.f224) (by kernel_rfl) rfl ?_; simp only [List.map_cons, List.map_nil, List.cons_append, List.nil_append, List.length_cons, List.length_nil, Tryz.ntmps224, List.replicate, Nat.reduceSub, Nat.reduceAdd]
  refine Wc.seq ?_
  refine Wc.reg fun K hK => ?_; simp only [go_sem, ti3, ti4, ti32, ti41, ti242]; refine hK _ _ ?_; clear hK K
  refine Wc.seq ?_
  by_cases h : -1099511627776 ≤ n
  · refine Wc.reg fun K hK => ?_; simp only [go_sem, ti3, ti4, ti32, ti41, ti242, h]; refine hK _ _ ?_; clear hK K
    exact Wc.ret (Pf.ret [.tmp 2] [.c (.p (.bool (isVl n)))] rfl rfl (by simp only [resultsD, go_sem, ti3, ti4, ti32, ti41, ti242, isVl, h, Bool.true_and]) rfl)
  · refine Wc.reg fun K hK => ?_; simp only [go_sem, ti3, ti4, ti32, ti41, ti242, h]; refine hK _ _ ?_; clear hK K
    exact Wc.ret (Pf.ret [.tmp 2] [.c (.p (.bool (isVl n)))] rfl rfl (by simp only [resultsD, go_sem, ti3, ti4, ti32, ti41, ti242, isVl, h, Bool.false_and]) rfl)
def okV (k v : Int) : Bool := isVl v && !((k == 2) && decide (v < 0))
theorem mulB {c v : Int} (h1 : 1 ≤ c) (h2 : c ≤ 2000) (h3 : -1099511627776 ≤ v) (h4 : v ≤ 1099511627776) : -2199023255552000 ≤ c * v ∧ c * v ≤ 2199023255552000 := by
  rcases Int.le_total 0 v with h | h
  · have a := Int.mul_le_mul_of_nonneg_right h2 h
    have b := Int.mul_nonneg (show 0 ≤ c by omega) h
    omega
  · have a := Int.mul_le_mul_of_nonneg_right h2 (show 0 ≤ -v by omega)
    have b := Int.mul_nonneg (show 0 ≤ c by omega) (show 0 ≤ -v by omega)
    rw [Int.mul_neg, Int.mul_neg] at a
    rw [Int.mul_neg] at b
    omega
/-- A bucket's fields but Start, for Start and width in range. -/
def bkA1 (w : Int) (b : Bkt) : Bool := decide (b.ft ≤ b.st) || decide (b.lt < b.ft) || decide (b.st + w < b.lt) || decide (1099511627776 < b.lt)
def bkA2 (b : Bkt) : Bool := decide (b.c < 1) || decide (2000 < b.c) || ((b.ft == b.lt) != (b.c == 1))
def bkA3 (k : Int) (b : Bkt) : Bool := okV k b.mn && (okV k b.mx && (okV k b.f && okV k b.l))
def bkA4 (b : Bkt) : Bool := decide (b.f < b.mn) || decide (b.mx < b.f) || decide (b.l < b.mn) || decide (b.mx < b.l)
def bkA5 (b : Bkt) : Bool := decide (b.s < b.c * b.mn) || decide (b.c * b.mx < b.s)
def bkA6 (k : Int) (b : Bkt) : Bool := ((k == 1) && (b.inc != 0)) || decide (b.inc < 0) || decide ((b.c - 1) * 1099511627776 < b.inc)
def bkA7 (b : Bkt) : Bool := decide (1 < b.c) || ((((b.s == b.mn) && (b.mn == b.mx)) && (b.f == b.mn)) && (b.l == b.mn))
def bkA (k w : Int) (b : Bkt) : Bool := !bkA1 w b && (!bkA2 b && (bkA3 k b && (!bkA4 b && (!bkA5 b && (!bkA6 k b && bkA7 b)))))
theorem bne_false {a b : Bool} : (a != b) = !(a == b) := rfl
/-- 114: validBucket -/
theorem pf155 (b : Bkt) (k w : Int) (hs : 0 ≤ b.st ∧ b.st < 1099511627776) (hw : 1 ≤ w ∧ w ≤ 1099511627776) : Pf E0 155 [.agg (b.pd.map .p), .c (.p (pI k)), .c (.p (pI w))] (P' (.bool (bkA k w b))) := by
  have w1 : IntKind.i64.wrap (b.st + w) = b.st + w := by rw [wi64]; omega
  generalize hR : bkA k w b = R
  unfold bkA at hR
  refine Pf.body (fn := Tryz.f155) (by kernel_rfl) rfl ?_; simp only [List.map_cons, List.map_nil, List.cons_append, List.nil_append, List.length_cons, List.length_nil, Tryz.ntmps155, List.replicate, Nat.reduceSub, Nat.reduceAdd]
  refine Wc.seq ?_
  refine Wc.reg fun K hK => ?_; simp only [go_sem, ti3, ti4, ti32, ti41, ti242]; refine hK _ _ ?_; clear hK K
  have hF : True := trivial
  refine Wc.seqR (fun y => bkA1 w b = false ∧ y.ds = [] ∧ Fs y.e 174 [(1, P' (pI k)), (2, P' (pI w)), (3, .v (.c (.ref 0 0)))] ∧ OA y.s.nx y.s [] [(0, .cells (b.pd.map .p) false)]) ?_ ?_
  · refine Wc.seq ?_
    have bad : bkA1 w b = true → false = R := fun h => by rw [← hR, h]; rfl
    unfold bkA1 at bad ⊢
    rcases Bool.eq_false_or_eq_true (decide (b.ft ≤ b.st)) with z1 | z1
    · refine Wc.reg fun K hK => ?_; simp only [go_sem, ti3, ti4, ti32, ti41, ti242, w1, z1]; refine hK _ _ ?_; clear hK K
      refine Wc.cond (t := true) (by simp only [go_sem, ti3, ti4, ti32, ti41, ti242, w1, z1]) (fun _ => ?_) (fun hc => by cases hc)
      refine Wc.seq ?_
      refine Wc.reg fun K hK => ?_; simp only [go_sem, ti3, ti4, ti32, ti41, ti242]; refine hK _ _ ?_; clear hK K
      rw [← bad (by simp only [z1]; rfl)]
      exact Wc.ret (Pf.ret [.tmp 6] [.c (.p (.bool false))] rfl rfl (by simp only [resultsD, go_sem, ti3, ti4, ti32, ti41, ti242]) rfl)
    rcases Bool.eq_false_or_eq_true (decide (b.lt < b.ft)) with z2 | z2
    · refine Wc.reg fun K hK => ?_; simp only [go_sem, ti3, ti4, ti32, ti41, ti242, w1, z1, z2]; refine hK _ _ ?_; clear hK K
      refine Wc.cond (t := true) (by simp only [go_sem, ti3, ti4, ti32, ti41, ti242, w1, z1, z2]) (fun _ => ?_) (fun hc => by cases hc)
      refine Wc.seq ?_
      refine Wc.reg fun K hK => ?_; simp only [go_sem, ti3, ti4, ti32, ti41, ti242]; refine hK _ _ ?_; clear hK K
      rw [← bad (by simp only [z1, z2]; rfl)]
      exact Wc.ret (Pf.ret [.tmp 6] [.c (.p (.bool false))] rfl rfl (by simp only [resultsD, go_sem, ti3, ti4, ti32, ti41, ti242]) rfl)
    rcases Bool.eq_false_or_eq_true (decide (b.st + w < b.lt)) with z3 | z3
    · refine Wc.reg fun K hK => ?_; simp only [go_sem, ti3, ti4, ti32, ti41, ti242, w1, z1, z2, z3]; refine hK _ _ ?_; clear hK K
      refine Wc.cond (t := true) (by simp only [go_sem, ti3, ti4, ti32, ti41, ti242, w1, z1, z2, z3]) (fun _ => ?_) (fun hc => by cases hc)
      refine Wc.seq ?_
      refine Wc.reg fun K hK => ?_; simp only [go_sem, ti3, ti4, ti32, ti41, ti242]; refine hK _ _ ?_; clear hK K
      rw [← bad (by simp only [z1, z2, z3]; rfl)]
      exact Wc.ret (Pf.ret [.tmp 6] [.c (.p (.bool false))] rfl rfl (by simp only [resultsD, go_sem, ti3, ti4, ti32, ti41, ti242]) rfl)
    rcases Bool.eq_false_or_eq_true (decide (1099511627776 < b.lt)) with z4 | z4
    · refine Wc.reg fun K hK => ?_; simp only [go_sem, ti3, ti4, ti32, ti41, ti242, w1, z1, z2, z3, z4]; refine hK _ _ ?_; clear hK K
      refine Wc.cond (t := true) (by simp only [go_sem, ti3, ti4, ti32, ti41, ti242, w1, z1, z2, z3, z4]) (fun _ => ?_) (fun hc => by cases hc)
      refine Wc.seq ?_
      refine Wc.reg fun K hK => ?_; simp only [go_sem, ti3, ti4, ti32, ti41, ti242]; refine hK _ _ ?_; clear hK K
      rw [← bad (by simp only [z1, z2, z3, z4]; rfl)]
      exact Wc.ret (Pf.ret [.tmp 6] [.c (.p (.bool false))] rfl rfl (by simp only [resultsD, go_sem, ti3, ti4, ti32, ti41, ti242]) rfl)
    refine Wc.reg fun K hK => ?_; simp only [go_sem, ti3, ti4, ti32, ti41, ti242, w1, z1, z2, z3, z4]; refine hK _ _ ?_; clear hK K
    refine Wc.cond (t := false) (by simp only [go_sem, ti3, ti4, ti32, ti41, ti242, w1, z1, z2, z3, z4]) (fun hc => by cases hc) (fun _ => Wc.skip ?_)
    exact ⟨by simp only [z1, z2, z3, z4]; rfl, rfl, by simp only [Fs, Int.natCast_zero, go_sem, ti3, ti4, ti32, ti41, ti242], by (try simp only [St.nx_put, St.nx_adv]); repeat (first | exact OA.mono s00_oa (by omega) | refine OA.newB ?_ (by omega) rfl | refine OA.advB ?_)⟩
  clear hF
  rintro ⟨e, ds, s1⟩ ⟨c1, rfl, hF, ho⟩
  simp only [Fs] at hF ho
  have g0 := ho.at_ (0, .cells (b.pd.map .p) false) (by simp)
  simp only [List.map_cons, List.map_nil] at g0
  rw [c1] at hR
  refine Wc.seqR (fun y => (bkA2 b = false ∧ 1 ≤ b.c ∧ b.c ≤ 2000) ∧ y.ds = [] ∧ Fs y.e 174 [(1, P' (pI k)), (2, P' (pI w)), (3, .v (.c (.ref 0 0)))] ∧ OA y.s.nx y.s [] [(0, .cells (b.pd.map .p) false)]) ?_ ?_
  · refine Wc.seq ?_
    have bad : bkA2 b = true → false = R := fun h => by rw [← hR, h]; rfl
    unfold bkA2 at bad ⊢
    rcases Bool.eq_false_or_eq_true (decide (b.c < 1)) with z1 | z1
    · refine Wc.reg fun K hK => ?_; simp only [go_sem, ti3, ti4, ti32, ti41, ti242, hF, g0, z1]; refine hK _ _ ?_; clear hK K
      refine Wc.cond (t := true) (by simp only [go_sem, ti3, ti4, ti32, ti41, ti242, hF, g0, z1]) (fun _ => ?_) (fun hc => by cases hc)
      refine Wc.seq ?_
      refine Wc.reg fun K hK => ?_; simp only [go_sem, ti3, ti4, ti32, ti41, ti242, hF]; refine hK _ _ ?_; clear hK K
      rw [← bad (by simp only [bne_false, z1]; rfl)]
      exact Wc.ret (Pf.ret [.tmp 6] [.c (.p (.bool false))] rfl rfl (by simp only [resultsD, go_sem, ti3, ti4, ti32, ti41, ti242, hF]) rfl)
    rcases Bool.eq_false_or_eq_true (decide (2000 < b.c)) with z2 | z2
    · refine Wc.reg fun K hK => ?_; simp only [go_sem, ti3, ti4, ti32, ti41, ti242, hF, g0, z1, z2]; refine hK _ _ ?_; clear hK K
      refine Wc.cond (t := true) (by simp only [go_sem, ti3, ti4, ti32, ti41, ti242, hF, g0, z1, z2]) (fun _ => ?_) (fun hc => by cases hc)
      refine Wc.seq ?_
      refine Wc.reg fun K hK => ?_; simp only [go_sem, ti3, ti4, ti32, ti41, ti242, hF]; refine hK _ _ ?_; clear hK K
      rw [← bad (by simp only [bne_false, z1, z2]; rfl)]
      exact Wc.ret (Pf.ret [.tmp 6] [.c (.p (.bool false))] rfl rfl (by simp only [resultsD, go_sem, ti3, ti4, ti32, ti41, ti242, hF]) rfl)
    rcases Bool.eq_false_or_eq_true (!((b.ft == b.lt) == (b.c == 1))) with z3 | z3
    · refine Wc.reg fun K hK => ?_; simp only [go_sem, ti3, ti4, ti32, ti41, ti242, hF, g0, z1, z2, z3]; refine hK _ _ ?_; clear hK K
      refine Wc.cond (t := true) (by simp only [go_sem, ti3, ti4, ti32, ti41, ti242, hF, g0, z1, z2, z3]) (fun _ => ?_) (fun hc => by cases hc)
      refine Wc.seq ?_
      refine Wc.reg fun K hK => ?_; simp only [go_sem, ti3, ti4, ti32, ti41, ti242, hF]; refine hK _ _ ?_; clear hK K
      rw [← bad (by simp only [bne_false, z1, z2, z3]; rfl)]
      exact Wc.ret (Pf.ret [.tmp 6] [.c (.p (.bool false))] rfl rfl (by simp only [resultsD, go_sem, ti3, ti4, ti32, ti41, ti242, hF]) rfl)
    refine Wc.reg fun K hK => ?_; simp only [go_sem, ti3, ti4, ti32, ti41, ti242, hF, g0, z1, z2, z3]; refine hK _ _ ?_; clear hK K
    refine Wc.cond (t := false) (by simp only [go_sem, ti3, ti4, ti32, ti41, ti242, hF, g0, z1, z2, z3]) (fun hc => by cases hc) (fun _ => Wc.skip ?_)
    exact ⟨⟨by simp only [bne_false, z1, z2, z3]; rfl, by have := of_decide_eq_false z1; omega, by have := of_decide_eq_false z2; omega⟩, rfl, by simp only [Fs, Int.natCast_zero, go_sem, ti3, ti4, ti32, ti41, ti242, hF], by (try simp only [St.nx_put, St.nx_adv]); repeat (first | exact OA.mono ho (by omega) | refine OA.newB ?_ (by omega) rfl | refine OA.advB ?_)⟩
  clear hF ho g0 e s1
  rintro ⟨e, ds, s1⟩ ⟨⟨c2, hc1, hc2⟩, rfl, hF, ho⟩
  simp only [Fs] at hF ho
  have g0 := ho.at_ (0, .cells (b.pd.map .p) false) (by simp)
  simp only [List.map_cons, List.map_nil] at g0
  rw [c2] at hR
  refine Wc.seqR (fun y => bkA3 k b = true ∧ y.ds = [] ∧ Fs y.e 174 [(1, P' (pI k)), (2, P' (pI w)), (3, .v (.c (.ref 0 0)))] ∧ OA y.s.nx y.s [] [(0, .cells (b.pd.map .p) false)]) ?_ ?_
  · refine Wc.seq ?_
    have bad : ∀ v, (v = b.mn ∨ v = b.mx ∨ v = b.f ∨ v = b.l) → okV k v = false → false = R := fun v hv h => by
      rw [← hR]
      have : bkA3 k b = false := by
        unfold bkA3
        rcases hv with rfl | rfl | rfl | rfl <;> simp [h]
      rw [this]; rfl
    refine Wc.reg fun K hK => ?_; simp only [go_sem, ti3, ti4, ti32, ti41, ti242, hF, g0]; refine hK _ _ ?_; clear hK K
    refine Wc.block (Wc.loop (fun c y => ∃ i : Nat, c = 4 - i ∧ i ≤ 4 ∧ y.ds = [] ∧ Fs y.e 174 [(1, P' (pI k)), (2, P' (pI w)), (3, .v (.c (.ref 0 0))), (62, .v (.agg [.p (pI b.mn), .p (pI b.mx), .p (pI b.f), .p (pI b.l)])), (63, P' (pI i))] ∧ OA y.s.nx y.s [] [(0, .cells (b.pd.map .p) false)] ∧ ((1 ≤ i → okV k b.mn = true) ∧ (2 ≤ i → okV k b.mx = true) ∧ (3 ≤ i → okV k b.f = true) ∧ (4 ≤ i → okV k b.l = true))) ?_ (k := 4) ?_)
    · clear hF ho g0 e s1
      rintro c ⟨e, ds, s1⟩ ⟨i, rfl, hi, rfl, hF, ho, hok⟩
      simp only [Fs] at hF ho
      refine Wc.seq ?_
      refine Wc.reg fun K hK => ?_; simp only [go_sem, ti3, ti4, ti32, ti41, ti242, hF]; refine hK _ _ ?_; clear hK K
      refine Wc.seq (Wc.cond (t := decide ((i : Int) < 4)) (by simp only [go_sem, ti3, ti4, ti32, ti41, ti242, hF]) (fun hc => ?_) (fun hc => ?_))
      · have hil : i < 4 := by have := of_decide_eq_true hc; omega
        obtain ⟨v, hvi, hvm, hnx⟩ : ∃ v, List.take 1 (List.drop i [C.p (pI b.mn), C.p (pI b.mx), C.p (pI b.f), C.p (pI b.l)]) = [C.p (pI v)] ∧ (v = b.mn ∨ v = b.mx ∨ v = b.f ∨ v = b.l) ∧ (okV k v = true → (1 ≤ i + 1 → okV k b.mn = true) ∧ (2 ≤ i + 1 → okV k b.mx = true) ∧ (3 ≤ i + 1 → okV k b.f = true) ∧ (4 ≤ i + 1 → okV k b.l = true)) := by
          obtain ⟨k1, k2, k3, k4⟩ := hok
          rcases (show i = 0 ∨ i = 1 ∨ i = 2 ∨ i = 3 by omega) with rfl | rfl | rfl | rfl
          · exact ⟨b.mn, rfl, .inl rfl, fun h => ⟨fun _ => h, fun h => by omega, fun h => by omega, fun h => by omega⟩⟩
          · exact ⟨b.mx, rfl, .inr (.inl rfl), fun h => ⟨fun _ => k1 (by omega), fun _ => h, fun h => by omega, fun h => by omega⟩⟩
          · exact ⟨b.f, rfl, .inr (.inr (.inl rfl)), fun h => ⟨fun _ => k1 (by omega), fun _ => k2 (by omega), fun _ => h, fun h => by omega⟩⟩
          · exact ⟨b.l, rfl, .inr (.inr (.inr rfl)), fun h => ⟨fun _ => k1 (by omega), fun _ => k2 (by omega), fun _ => k3 (by omega), fun _ => h⟩⟩
        have h4 : ((i : Int) < ((4 : Nat) : Int)) = True := by simp; omega
        have h5 : (i + 1 ≤ 4) = True := by simp; omega
        refine Wc.skip (Wc.seq (Wc.block (Wc.seq ?_)))
        refine Wc.reg fun K hK => ?_; simp only [go_sem, ti3, ti4, ti32, ti41, ti242, hF, h4, h5, hvi]; refine hK _ _ ?_; clear hK K
        refine Wc.seq ?_
        have hokv : okV k v = (isVl v && !((k == 2) && decide (v < 0))) := rfl
        have p := pf224 v
        have good : okV k v = true → (1 ≤ i + 1 → okV k b.mn = true) ∧ (2 ≤ i + 1 → okV k b.mx = true) ∧ (3 ≤ i + 1 → okV k b.f = true) ∧ (4 ≤ i + 1 → okV k b.l = true) := hnx
        cases hI : isVl v with
        | false =>
          rw [hI] at p
          refine Wc.reg fun K hK => ?_; simp only [go_sem, ti3, ti4, ti32, ti41, ti242, hF]
          refine wpCall.pf p (by kernel_rfl) (by kernel_rfl) rfl rfl ?_
          simp only [go_sem, ti3, ti4, ti32, ti41, ti242, hF]; refine hK _ _ ?_; clear hK K
          refine Wc.cond (t := true) (by simp only [go_sem, ti3, ti4, ti32, ti41, ti242, hF]) (fun _ => ?_) (fun hc => by cases hc)
          refine Wc.seq ?_
          refine Wc.reg fun K hK => ?_; simp only [go_sem, ti3, ti4, ti32, ti41, ti242, hF]; refine hK _ _ ?_; clear hK K
          rw [← bad v hvm (by rw [hokv, hI]; rfl)]
          exact Wc.ret (Pf.ret [.tmp 6] [.c (.p (.bool false))] rfl rfl (by simp only [resultsD, go_sem, ti3, ti4, ti32, ti41, ti242, hF]) rfl)
        | true =>
          rw [hI] at p
          cases hk2 : (k == 2) with
          | false =>
            refine Wc.reg fun K hK => ?_; simp only [go_sem, ti3, ti4, ti32, ti41, ti242, hF]
            refine wpCall.pf p (by kernel_rfl) (by kernel_rfl) rfl rfl ?_
            simp only [go_sem, ti3, ti4, ti32, ti41, ti242, hF, hk2]; refine hK _ _ ?_; clear hK K
            refine Wc.cond (t := false) (by simp only [go_sem, ti3, ti4, ti32, ti41, ti242, hF, hk2]) (fun hc => by cases hc) (fun _ => Wc.skip ?_)
            refine Wc.reg fun K hK => ?_; simp only [go_sem, ti3, ti4, ti32, ti41, ti242, hF, i64n i (by omega)]; refine hK _ _ ?_; clear hK K
            exact ⟨4 - (i + 1), by omega, i + 1, rfl, by omega, rfl, by simp only [Fs, Int.natCast_zero, go_sem, ti3, ti4, ti32, ti41, ti242, hF], by (try simp only [St.nx_put, St.nx_adv]); repeat (first | exact OA.mono ho (by omega) | refine OA.newB ?_ (by omega) rfl | refine OA.advB ?_), good (by rw [hokv, hI, hk2]; rfl)⟩
          | true =>
            cases hv0 : decide (v < 0) with
            | true =>
              refine Wc.reg fun K hK => ?_; simp only [go_sem, ti3, ti4, ti32, ti41, ti242, hF]
              refine wpCall.pf p (by kernel_rfl) (by kernel_rfl) rfl rfl ?_
              simp only [go_sem, ti3, ti4, ti32, ti41, ti242, hF, hk2, hv0]; refine hK _ _ ?_; clear hK K
              refine Wc.cond (t := true) (by simp only [go_sem, ti3, ti4, ti32, ti41, ti242, hF, hk2, hv0]) (fun _ => ?_) (fun hc => by cases hc)
              refine Wc.seq ?_
              refine Wc.reg fun K hK => ?_; simp only [go_sem, ti3, ti4, ti32, ti41, ti242, hF]; refine hK _ _ ?_; clear hK K
              rw [← bad v hvm (by rw [hokv, hI, hk2, hv0]; rfl)]
              exact Wc.ret (Pf.ret [.tmp 6] [.c (.p (.bool false))] rfl rfl (by simp only [resultsD, go_sem, ti3, ti4, ti32, ti41, ti242, hF]) rfl)
            | false =>
              refine Wc.reg fun K hK => ?_; simp only [go_sem, ti3, ti4, ti32, ti41, ti242, hF]
              refine wpCall.pf p (by kernel_rfl) (by kernel_rfl) rfl rfl ?_
              simp only [go_sem, ti3, ti4, ti32, ti41, ti242, hF, hk2, hv0]; refine hK _ _ ?_; clear hK K
              refine Wc.cond (t := false) (by simp only [go_sem, ti3, ti4, ti32, ti41, ti242, hF, hk2, hv0]) (fun hc => by cases hc) (fun _ => Wc.skip ?_)
              refine Wc.reg fun K hK => ?_; simp only [go_sem, ti3, ti4, ti32, ti41, ti242, hF, i64n i (by omega)]; refine hK _ _ ?_; clear hK K
              exact ⟨4 - (i + 1), by omega, i + 1, rfl, by omega, rfl, by simp only [Fs, Int.natCast_zero, go_sem, ti3, ti4, ti32, ti41, ti242, hF], by (try simp only [St.nx_put, St.nx_adv]); repeat (first | exact OA.mono ho (by omega) | refine OA.newB ?_ (by omega) rfl | refine OA.advB ?_), good (by rw [hokv, hI, hk2, hv0]; rfl)⟩
      · have hil : i = 4 := by have := of_decide_eq_false hc; omega
        subst hil
        exact Wc.exit ⟨by unfold bkA3; rw [hok.1 (by omega), hok.2.1 (by omega), hok.2.2.1 (by omega), hok.2.2.2 (by omega)]; rfl, rfl, by simp only [Fs, Int.natCast_zero, go_sem, ti3, ti4, ti32, ti41, ti242, hF], by (try simp only [St.nx_put, St.nx_adv]); repeat (first | exact OA.mono ho (by omega) | refine OA.newB ?_ (by omega) rfl | refine OA.advB ?_)⟩
    · exact ⟨0, rfl, by omega, rfl, by simp only [Fs, Int.natCast_zero, go_sem, ti3, ti4, ti32, ti41, ti242, hF], by (try simp only [St.nx_put, St.nx_adv]); repeat (first | exact OA.mono ho (by omega) | refine OA.newB ?_ (by omega) rfl | refine OA.advB ?_), fun h => by omega, fun h => by omega, fun h => by omega, fun h => by omega⟩
  clear hF ho g0 e s1
  rintro ⟨e, ds, s1⟩ ⟨c3, rfl, hF, ho⟩
  simp only [Fs] at hF ho
  have g0 := ho.at_ (0, .cells (b.pd.map .p) false) (by simp)
  simp only [List.map_cons, List.map_nil] at g0
  rw [c3] at hR
  have hv : (-1099511627776 ≤ b.mn ∧ b.mn ≤ 1099511627776) ∧ (-1099511627776 ≤ b.mx ∧ b.mx ≤ 1099511627776) := by
    simp only [bkA3, okV, isVl, Bool.and_eq_true, decide_eq_true_eq] at c3
    omega
  obtain ⟨m1, m2⟩ := mulB hc1 hc2 hv.1.1 hv.1.2
  obtain ⟨m3, m4⟩ := mulB hc1 hc2 hv.2.1 hv.2.2
  have w2 : IntKind.i64.wrap (b.c * b.mn) = b.c * b.mn := by rw [wi64]; omega
  have w3 : IntKind.i64.wrap (b.c * b.mx) = b.c * b.mx := by rw [wi64]; omega
  have w4 : IntKind.i64.wrap (IntKind.i64.wrap (b.c - 1) * 1099511627776) = (b.c - 1) * 1099511627776 := by rw [wi64, wi64]; omega
  refine Wc.seqR (fun y => bkA4 b = false ∧ y.ds = [] ∧ Fs y.e 174 [(1, P' (pI k)), (2, P' (pI w)), (3, .v (.c (.ref 0 0)))] ∧ OA y.s.nx y.s [] [(0, .cells (b.pd.map .p) false)]) ?_ ?_
  · refine Wc.seq ?_
    have bad : bkA4 b = true → false = R := fun h => by rw [← hR, h]; rfl
    unfold bkA4 at bad ⊢
    rcases Bool.eq_false_or_eq_true (decide (b.f < b.mn)) with z1 | z1
    · refine Wc.reg fun K hK => ?_; simp only [go_sem, ti3, ti4, ti32, ti41, ti242, hF, g0, z1]; refine hK _ _ ?_; clear hK K
      refine Wc.cond (t := true) (by simp only [go_sem, ti3, ti4, ti32, ti41, ti242, hF, g0, z1]) (fun _ => ?_) (fun hc => by cases hc)
      refine Wc.seq ?_
      refine Wc.reg fun K hK => ?_; simp only [go_sem, ti3, ti4, ti32, ti41, ti242, hF]; refine hK _ _ ?_; clear hK K
      rw [← bad (by simp only [z1]; rfl)]
      exact Wc.ret (Pf.ret [.tmp 6] [.c (.p (.bool false))] rfl rfl (by simp only [resultsD, go_sem, ti3, ti4, ti32, ti41, ti242, hF]) rfl)
    rcases Bool.eq_false_or_eq_true (decide (b.mx < b.f)) with z2 | z2
    · refine Wc.reg fun K hK => ?_; simp only [go_sem, ti3, ti4, ti32, ti41, ti242, hF, g0, z1, z2]; refine hK _ _ ?_; clear hK K
      refine Wc.cond (t := true) (by simp only [go_sem, ti3, ti4, ti32, ti41, ti242, hF, g0, z1, z2]) (fun _ => ?_) (fun hc => by cases hc)
      refine Wc.seq ?_
      refine Wc.reg fun K hK => ?_; simp only [go_sem, ti3, ti4, ti32, ti41, ti242, hF]; refine hK _ _ ?_; clear hK K
      rw [← bad (by simp only [z1, z2]; rfl)]
      exact Wc.ret (Pf.ret [.tmp 6] [.c (.p (.bool false))] rfl rfl (by simp only [resultsD, go_sem, ti3, ti4, ti32, ti41, ti242, hF]) rfl)
    rcases Bool.eq_false_or_eq_true (decide (b.l < b.mn)) with z3 | z3
    · refine Wc.reg fun K hK => ?_; simp only [go_sem, ti3, ti4, ti32, ti41, ti242, hF, g0, z1, z2, z3]; refine hK _ _ ?_; clear hK K
      refine Wc.cond (t := true) (by simp only [go_sem, ti3, ti4, ti32, ti41, ti242, hF, g0, z1, z2, z3]) (fun _ => ?_) (fun hc => by cases hc)
      refine Wc.seq ?_
      refine Wc.reg fun K hK => ?_; simp only [go_sem, ti3, ti4, ti32, ti41, ti242, hF]; refine hK _ _ ?_; clear hK K
      rw [← bad (by simp only [z1, z2, z3]; rfl)]
      exact Wc.ret (Pf.ret [.tmp 6] [.c (.p (.bool false))] rfl rfl (by simp only [resultsD, go_sem, ti3, ti4, ti32, ti41, ti242, hF]) rfl)
    rcases Bool.eq_false_or_eq_true (decide (b.mx < b.l)) with z4 | z4
    · refine Wc.reg fun K hK => ?_; simp only [go_sem, ti3, ti4, ti32, ti41, ti242, hF, g0, z1, z2, z3, z4]; refine hK _ _ ?_; clear hK K
      refine Wc.cond (t := true) (by simp only [go_sem, ti3, ti4, ti32, ti41, ti242, hF, g0, z1, z2, z3, z4]) (fun _ => ?_) (fun hc => by cases hc)
      refine Wc.seq ?_
      refine Wc.reg fun K hK => ?_; simp only [go_sem, ti3, ti4, ti32, ti41, ti242, hF]; refine hK _ _ ?_; clear hK K
      rw [← bad (by simp only [z1, z2, z3, z4]; rfl)]
      exact Wc.ret (Pf.ret [.tmp 6] [.c (.p (.bool false))] rfl rfl (by simp only [resultsD, go_sem, ti3, ti4, ti32, ti41, ti242, hF]) rfl)
    refine Wc.reg fun K hK => ?_; simp only [go_sem, ti3, ti4, ti32, ti41, ti242, hF, g0, z1, z2, z3, z4]; refine hK _ _ ?_; clear hK K
    refine Wc.cond (t := false) (by simp only [go_sem, ti3, ti4, ti32, ti41, ti242, hF, g0, z1, z2, z3, z4]) (fun hc => by cases hc) (fun _ => Wc.skip ?_)
    exact ⟨by simp only [z1, z2, z3, z4]; rfl, rfl, by simp only [Fs, Int.natCast_zero, go_sem, ti3, ti4, ti32, ti41, ti242, hF], by (try simp only [St.nx_put, St.nx_adv]); repeat (first | exact OA.mono ho (by omega) | refine OA.newB ?_ (by omega) rfl | refine OA.advB ?_)⟩
  clear hF ho g0 e s1
  rintro ⟨e, ds, s1⟩ ⟨c4, rfl, hF, ho⟩
  simp only [Fs] at hF ho
  have g0 := ho.at_ (0, .cells (b.pd.map .p) false) (by simp)
  simp only [List.map_cons, List.map_nil] at g0
  rw [c4] at hR
  refine Wc.seqR (fun y => bkA5 b = false ∧ y.ds = [] ∧ Fs y.e 174 [(1, P' (pI k)), (2, P' (pI w)), (3, .v (.c (.ref 0 0)))] ∧ OA y.s.nx y.s [] [(0, .cells (b.pd.map .p) false)]) ?_ ?_
  · refine Wc.seq ?_
    have bad : bkA5 b = true → false = R := fun h => by rw [← hR, h]; rfl
    unfold bkA5 at bad ⊢
    rcases Bool.eq_false_or_eq_true (decide (b.s < b.c * b.mn)) with z1 | z1
    · refine Wc.reg fun K hK => ?_; simp only [go_sem, ti3, ti4, ti32, ti41, ti242, hF, g0, w2, w3, z1]; refine hK _ _ ?_; clear hK K
      refine Wc.cond (t := true) (by simp only [go_sem, ti3, ti4, ti32, ti41, ti242, hF, g0, w2, w3, z1]) (fun _ => ?_) (fun hc => by cases hc)
      refine Wc.seq ?_
      refine Wc.reg fun K hK => ?_; simp only [go_sem, ti3, ti4, ti32, ti41, ti242, hF]; refine hK _ _ ?_; clear hK K
      rw [← bad (by simp only [z1]; rfl)]
      exact Wc.ret (Pf.ret [.tmp 6] [.c (.p (.bool false))] rfl rfl (by simp only [resultsD, go_sem, ti3, ti4, ti32, ti41, ti242, hF]) rfl)
    rcases Bool.eq_false_or_eq_true (decide (b.c * b.mx < b.s)) with z2 | z2
    · refine Wc.reg fun K hK => ?_; simp only [go_sem, ti3, ti4, ti32, ti41, ti242, hF, g0, w2, w3, z1, z2]; refine hK _ _ ?_; clear hK K
      refine Wc.cond (t := true) (by simp only [go_sem, ti3, ti4, ti32, ti41, ti242, hF, g0, w2, w3, z1, z2]) (fun _ => ?_) (fun hc => by cases hc)
      refine Wc.seq ?_
      refine Wc.reg fun K hK => ?_; simp only [go_sem, ti3, ti4, ti32, ti41, ti242, hF]; refine hK _ _ ?_; clear hK K
      rw [← bad (by simp only [z1, z2]; rfl)]
      exact Wc.ret (Pf.ret [.tmp 6] [.c (.p (.bool false))] rfl rfl (by simp only [resultsD, go_sem, ti3, ti4, ti32, ti41, ti242, hF]) rfl)
    refine Wc.reg fun K hK => ?_; simp only [go_sem, ti3, ti4, ti32, ti41, ti242, hF, g0, w2, w3, z1, z2]; refine hK _ _ ?_; clear hK K
    refine Wc.cond (t := false) (by simp only [go_sem, ti3, ti4, ti32, ti41, ti242, hF, g0, w2, w3, z1, z2]) (fun hc => by cases hc) (fun _ => Wc.skip ?_)
    exact ⟨by simp only [z1, z2]; rfl, rfl, by simp only [Fs, Int.natCast_zero, go_sem, ti3, ti4, ti32, ti41, ti242, hF], by (try simp only [St.nx_put, St.nx_adv]); repeat (first | exact OA.mono ho (by omega) | refine OA.newB ?_ (by omega) rfl | refine OA.advB ?_)⟩
  clear hF ho g0 e s1
  rintro ⟨e, ds, s1⟩ ⟨c5, rfl, hF, ho⟩
  simp only [Fs] at hF ho
  have g0 := ho.at_ (0, .cells (b.pd.map .p) false) (by simp)
  simp only [List.map_cons, List.map_nil] at g0
  rw [c5] at hR
  refine Wc.seqR (fun y => bkA6 k b = false ∧ y.ds = [] ∧ Fs y.e 174 [(1, P' (pI k)), (2, P' (pI w)), (3, .v (.c (.ref 0 0)))] ∧ OA y.s.nx y.s [] [(0, .cells (b.pd.map .p) false)]) ?_ ?_
  · refine Wc.seq ?_
    have bad : bkA6 k b = true → false = R := fun h => by rw [← hR, h]; rfl
    unfold bkA6 at bad ⊢
    cases Bool.eq_false_or_eq_true (k == 1) with
    | inl k1 =>
      rcases Bool.eq_false_or_eq_true (b.inc != 0) with z1 | z1
      · refine Wc.reg fun K hK => ?_; simp only [go_sem, ti3, ti4, ti32, ti41, ti242, hF, g0, k1, w4, z1]; refine hK _ _ ?_; clear hK K
        refine Wc.cond (t := true) (by simp only [go_sem, ti3, ti4, ti32, ti41, ti242, hF, g0, k1, w4, z1]) (fun _ => ?_) (fun hc => by cases hc)
        refine Wc.seq ?_
        refine Wc.reg fun K hK => ?_; simp only [go_sem, ti3, ti4, ti32, ti41, ti242, hF]; refine hK _ _ ?_; clear hK K
        rw [← bad (by simp only [k1, z1]; rfl)]
        exact Wc.ret (Pf.ret [.tmp 6] [.c (.p (.bool false))] rfl rfl (by simp only [resultsD, go_sem, ti3, ti4, ti32, ti41, ti242, hF]) rfl)
      rcases Bool.eq_false_or_eq_true (decide (b.inc < 0)) with z2 | z2
      · refine Wc.reg fun K hK => ?_; simp only [go_sem, ti3, ti4, ti32, ti41, ti242, hF, g0, k1, w4, z1, z2]; refine hK _ _ ?_; clear hK K
        refine Wc.cond (t := true) (by simp only [go_sem, ti3, ti4, ti32, ti41, ti242, hF, g0, k1, w4, z1, z2]) (fun _ => ?_) (fun hc => by cases hc)
        refine Wc.seq ?_
        refine Wc.reg fun K hK => ?_; simp only [go_sem, ti3, ti4, ti32, ti41, ti242, hF]; refine hK _ _ ?_; clear hK K
        rw [← bad (by simp only [k1, z1, z2]; rfl)]
        exact Wc.ret (Pf.ret [.tmp 6] [.c (.p (.bool false))] rfl rfl (by simp only [resultsD, go_sem, ti3, ti4, ti32, ti41, ti242, hF]) rfl)
      rcases Bool.eq_false_or_eq_true (decide ((b.c - 1) * 1099511627776 < b.inc)) with z3 | z3
      · refine Wc.reg fun K hK => ?_; simp only [go_sem, ti3, ti4, ti32, ti41, ti242, hF, g0, k1, w4, z1, z2, z3]; refine hK _ _ ?_; clear hK K
        refine Wc.cond (t := true) (by simp only [go_sem, ti3, ti4, ti32, ti41, ti242, hF, g0, k1, w4, z1, z2, z3]) (fun _ => ?_) (fun hc => by cases hc)
        refine Wc.seq ?_
        refine Wc.reg fun K hK => ?_; simp only [go_sem, ti3, ti4, ti32, ti41, ti242, hF]; refine hK _ _ ?_; clear hK K
        rw [← bad (by simp only [k1, z1, z2, z3]; rfl)]
        exact Wc.ret (Pf.ret [.tmp 6] [.c (.p (.bool false))] rfl rfl (by simp only [resultsD, go_sem, ti3, ti4, ti32, ti41, ti242, hF]) rfl)
      refine Wc.reg fun K hK => ?_; simp only [go_sem, ti3, ti4, ti32, ti41, ti242, hF, g0, k1, w4, z1, z2, z3]; refine hK _ _ ?_; clear hK K
      refine Wc.cond (t := false) (by simp only [go_sem, ti3, ti4, ti32, ti41, ti242, hF, g0, k1, w4, z1, z2, z3]) (fun hc => by cases hc) (fun _ => Wc.skip ?_)
      exact ⟨by simp only [k1, z1, z2, z3]; rfl, rfl, by simp only [Fs, Int.natCast_zero, go_sem, ti3, ti4, ti32, ti41, ti242, hF], by (try simp only [St.nx_put, St.nx_adv]); repeat (first | exact OA.mono ho (by omega) | refine OA.newB ?_ (by omega) rfl | refine OA.advB ?_)⟩
    | inr k1 =>
      rcases Bool.eq_false_or_eq_true (decide (b.inc < 0)) with z1 | z1
      · refine Wc.reg fun K hK => ?_; simp only [go_sem, ti3, ti4, ti32, ti41, ti242, hF, g0, k1, w4, z1]; refine hK _ _ ?_; clear hK K
        refine Wc.cond (t := true) (by simp only [go_sem, ti3, ti4, ti32, ti41, ti242, hF, g0, k1, w4, z1]) (fun _ => ?_) (fun hc => by cases hc)
        refine Wc.seq ?_
        refine Wc.reg fun K hK => ?_; simp only [go_sem, ti3, ti4, ti32, ti41, ti242, hF]; refine hK _ _ ?_; clear hK K
        rw [← bad (by simp only [k1, z1]; rfl)]
        exact Wc.ret (Pf.ret [.tmp 6] [.c (.p (.bool false))] rfl rfl (by simp only [resultsD, go_sem, ti3, ti4, ti32, ti41, ti242, hF]) rfl)
      rcases Bool.eq_false_or_eq_true (decide ((b.c - 1) * 1099511627776 < b.inc)) with z2 | z2
      · refine Wc.reg fun K hK => ?_; simp only [go_sem, ti3, ti4, ti32, ti41, ti242, hF, g0, k1, w4, z1, z2]; refine hK _ _ ?_; clear hK K
        refine Wc.cond (t := true) (by simp only [go_sem, ti3, ti4, ti32, ti41, ti242, hF, g0, k1, w4, z1, z2]) (fun _ => ?_) (fun hc => by cases hc)
        refine Wc.seq ?_
        refine Wc.reg fun K hK => ?_; simp only [go_sem, ti3, ti4, ti32, ti41, ti242, hF]; refine hK _ _ ?_; clear hK K
        rw [← bad (by simp only [k1, z1, z2]; rfl)]
        exact Wc.ret (Pf.ret [.tmp 6] [.c (.p (.bool false))] rfl rfl (by simp only [resultsD, go_sem, ti3, ti4, ti32, ti41, ti242, hF]) rfl)
      refine Wc.reg fun K hK => ?_; simp only [go_sem, ti3, ti4, ti32, ti41, ti242, hF, g0, k1, w4, z1, z2]; refine hK _ _ ?_; clear hK K
      refine Wc.cond (t := false) (by simp only [go_sem, ti3, ti4, ti32, ti41, ti242, hF, g0, k1, w4, z1, z2]) (fun hc => by cases hc) (fun _ => Wc.skip ?_)
      exact ⟨by simp only [k1, z1, z2]; rfl, rfl, by simp only [Fs, Int.natCast_zero, go_sem, ti3, ti4, ti32, ti41, ti242, hF], by (try simp only [St.nx_put, St.nx_adv]); repeat (first | exact OA.mono ho (by omega) | refine OA.newB ?_ (by omega) rfl | refine OA.advB ?_)⟩
  clear hF ho g0 e s1
  rintro ⟨e, ds, s1⟩ ⟨c6, rfl, hF, ho⟩
  simp only [Fs] at hF ho
  have g0 := ho.at_ (0, .cells (b.pd.map .p) false) (by simp)
  simp only [List.map_cons, List.map_nil] at g0
  rw [c6] at hR
  subst hR
  refine Wc.seq ?_
  have fin : ∀ (e : List D) (s : St), e.getD 6 .junk = P' (.bool (bkA7 b)) → Wc E0 none .ret { e := e, ds := [], s := s } (bodyQ E0 Tryz.f155 fun d0 s2 => ∃ s3, purD s2 d0 = some (P' (.bool (bkA7 b)), s3)) := fun e s h =>
    Wc.ret (Pf.ret [.tmp 6] [.c (.p (.bool (bkA7 b)))] rfl rfl (by simp only [resultsD, go_sem, ti3, ti4, ti32, ti41, ti242, h]) rfl)
  cases z1 : decide (1 < b.c) with
  | true =>
    refine Wc.reg fun K hK => ?_; simp only [go_sem, ti3, ti4, ti32, ti41, ti242, hF, g0, z1]; refine hK _ _ ?_; clear hK K
    exact fin _ _ (by simp only [go_sem, ti3, ti4, ti32, ti41, ti242, hF, bkA7, z1, Bool.true_or])
  | false =>
    cases z2 : (b.s == b.mn) with
    | false =>
      refine Wc.reg fun K hK => ?_; simp only [go_sem, ti3, ti4, ti32, ti41, ti242, hF, g0, z1, z2]; refine hK _ _ ?_; clear hK K
      exact fin _ _ (by simp only [go_sem, ti3, ti4, ti32, ti41, ti242, hF, bkA7, z1, z2, Bool.false_or])
    | true =>
      cases z3 : (b.mn == b.mx) with
      | false =>
        refine Wc.reg fun K hK => ?_; simp only [go_sem, ti3, ti4, ti32, ti41, ti242, hF, g0, z1, z2, z3]; refine hK _ _ ?_; clear hK K
        exact fin _ _ (by simp only [go_sem, ti3, ti4, ti32, ti41, ti242, hF, bkA7, z1, z2, z3, Bool.false_or])
      | true =>
        cases z4 : (b.f == b.mn) with
        | false =>
          refine Wc.reg fun K hK => ?_; simp only [go_sem, ti3, ti4, ti32, ti41, ti242, hF, g0, z1, z2, z3, z4]; refine hK _ _ ?_; clear hK K
          exact fin _ _ (by simp only [go_sem, ti3, ti4, ti32, ti41, ti242, hF, bkA7, z1, z2, z3, z4, Bool.false_or])
        | true =>
          refine Wc.reg fun K hK => ?_; simp only [go_sem, ti3, ti4, ti32, ti41, ti242, hF, g0, z1, z2, z3, z4]; refine hK _ _ ?_; clear hK K
          exact fin _ _ (by simp only [go_sem, ti3, ti4, ti32, ti41, ti242, hF, bkA7, z1, z2, z3, z4, Bool.false_or])
end Go.Proofs.YtedcnhbblgmdnaaGreat.Ab
