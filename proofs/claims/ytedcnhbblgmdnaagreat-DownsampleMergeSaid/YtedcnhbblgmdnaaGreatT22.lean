/- A part of the proof: an evaluator of the code, its contracts, the law. No condition. -/
import Derived.Test.YtedcnhbblgmdnaaGreatT17
import Derived.Test.YtedcnhbblgmdnaaGreatT20
namespace Go.Proofs.YtedcnhbblgmdnaaGreat.Ab
set_option maxHeartbeats 4000000
set_option linter.unusedSimpArgs false
set_option linter.unusedVariables false
/-! ### coarser buckets -/
def grpB (k : Int) (l : List Bkt) : List Bkt := l.foldl (appB k) []
def reB (g : Int → Int) (b : Bkt) : Bkt := { b with st := g b.st }
def coarB (k w : Int) (l : List Bkt) : List Bkt := grpB k (l.map (reB fun s => s.tdiv w * w))
theorem grpB_snoc (k : Int) (l : List Bkt) (b : Bkt) : grpB k (l ++ [b]) = appB k (grpB k l) b := by
  unfold grpB
  rw [List.foldl_append]; rfl
end Go.Proofs.YtedcnhbblgmdnaaGreat.Ab
namespace Go.Proofs.YtedcnhbblgmdnaaGreat.Ab
set_option maxHeartbeats 4000000
set_option linter.unusedSimpArgs false
set_option linter.unusedVariables false
/-! ### merged buckets -/
/-- Two buckets of the same start. -/
def meetB (k : Int) (a b : Bkt) : Option Bkt := if b.lt < a.ft then some (joinB k b a) else if a.lt < b.ft then some (joinB k a b) else none
def mergeB (k : Int) : List Bkt → List Bkt → Option (List Bkt)
  | [], y => some y
  | a :: x, [] => some (a :: x)
  | a :: x, b :: y => if a.st < b.st then (mergeB k x (b :: y)).map (a :: ·) else if b.st < a.st then (mergeB k (a :: x) y).map (b :: ·) else match meetB k a b with
    | none => none
    | some c => (mergeB k x y).map (c :: ·)
termination_by x y => x.length + y.length
def putB (k : Int) : List Bkt → Bkt → Option (List Bkt)
  | [], b => some [b]
  | c :: l, b => if c.st < b.st then (putB k l b).map (c :: ·) else if c.st ≠ b.st then some (b :: c :: l) else if c.lt < b.ft then some (joinB k c b :: l) else if b.lt < c.ft then some (joinB k b c :: l) else none
def putsB (k : Int) : List Bkt → List Bkt → Option (List Bkt)
  | x, [] => some x
  | x, b :: y => match putB k x b with
    | none => none
    | some z => putsB k z y
def AscB (l : List Bkt) : Prop := l.Pairwise (fun a b => a.st < b.st)
def OrdB (l : List Bkt) : Prop := ∀ b ∈ l, b.ft ≤ b.lt
theorem putsB_cons (k : Int) (a : Bkt) : ∀ (y x : List Bkt), (∀ z ∈ y, a.st < z.st) → putsB k (a :: x) y = (putsB k x y).map (a :: ·)
  | [], x, _ => rfl
  | b :: y, x, h => by
    have h1 := h b (by simp)
    rw [putsB, putsB, putB, if_pos h1]
    cases putB k x b with
    | none => rfl
    | some z => simp only [Option.map_some]; exact putsB_cons k a y z fun z hz => h z (by simp [hz])
theorem putsB_nil (k : Int) : ∀ (y : List Bkt), AscB y → putsB k [] y = some y
  | [], _ => rfl
  | b :: y, h => by
    obtain ⟨h1, h2⟩ := List.pairwise_cons.1 h
    rw [putsB, putB]
    simp only
    rw [putsB_cons k b y [] h1, putsB_nil k y h2]
    rfl
theorem meetB_st {k : Int} {a b c : Bkt} (h : meetB k a b = some c) (e : a.st = b.st) : c.st = b.st := by
  unfold meetB at h
  split at h
  · simp only [Option.some.injEq] at h; subst h; rfl
  · split at h
    · simp only [Option.some.injEq] at h; subst h; exact e
    · cases h
/-- Two lists merged from their heads: the one's buckets put into the other. -/
theorem mergeB_puts (k : Int) : ∀ (n : Nat) (x y : List Bkt), x.length + y.length ≤ n → AscB x → AscB y → OrdB x → OrdB y → mergeB k x y = putsB k x y
  | n, [], y, _, _, hy, _, _ => by rw [mergeB, putsB_nil k y hy]
  | n, a :: x, [], _, _, _, _, _ => by rw [mergeB, putsB]
  | 0, a :: x, b :: y, hn, _, _, _, _ => by simp only [List.length_cons] at hn; omega
  | n + 1, a :: x, b :: y, hn, hx, hy, ox, oy => by
    obtain ⟨x1, x2⟩ := List.pairwise_cons.1 hx
    obtain ⟨y1, y2⟩ := List.pairwise_cons.1 hy
    have ox' : OrdB x := fun q hq => ox q (by simp [hq])
    have oy' : OrdB y := fun q hq => oy q (by simp [hq])
    simp only [List.length_cons] at hn
    rw [mergeB]
    by_cases h1 : a.st < b.st
    · rw [if_pos h1, mergeB_puts k n x (b :: y) (by simp only [List.length_cons]; omega) x2 hy ox' oy]
      exact (putsB_cons k a (b :: y) x fun z hz => by
        rcases List.mem_cons.1 hz with rfl | hz
        · exact h1
        · have := y1 z hz; omega).symm
    · rw [if_neg h1, putsB, putB, if_neg h1]
      by_cases h2 : b.st < a.st
      · rw [if_pos h2, if_pos (by omega : a.st ≠ b.st), mergeB_puts k n (a :: x) y (by simp only [List.length_cons]; omega) hx y2 ox oy']
        exact (putsB_cons k b y (a :: x) y1).symm
      · have he : a.st = b.st := by omega
        rw [if_neg h2, if_neg (fun h => h he)]
        have hm : (if a.lt < b.ft then some (joinB k a b :: x) else if b.lt < a.ft then some (joinB k b a :: x) else none) = (meetB k a b).map (· :: x) := by
          have oa := ox a (by simp)
          have ob := oy b (by simp)
          unfold meetB
          by_cases g1 : b.lt < a.ft
          · rw [if_pos g1, if_pos g1, if_neg (by omega)]; rfl
          · rw [if_neg g1, if_neg g1]
            by_cases g2 : a.lt < b.ft
            · rw [if_pos g2, if_pos g2]; rfl
            · rw [if_neg g2, if_neg g2]; rfl
        rw [hm]
        cases hmt : meetB k a b with
        | none => rfl
        | some c =>
          simp only [Option.map_some]
          rw [mergeB_puts k n x y (by omega) x2 y2 ox' oy']
          exact (putsB_cons k c y x fun z hz => by rw [meetB_st hmt he]; exact y1 z hz).symm
end Go.Proofs.YtedcnhbblgmdnaaGreat.Ab
namespace Go.Proofs.YtedcnhbblgmdnaaGreat.Ab
set_option maxHeartbeats 4000000
set_option linter.unusedSimpArgs false
set_option linter.unusedVariables false
/-! ### the buckets of samples: their order -/
/-- A bucket of samples begins with one of them and ends with one. -/
def SpanB (w : Int) (l : List I2) (a : Bkt) : Prop := ∃ x ∈ l, ∃ y ∈ l, a.ft = x.1 ∧ a.lt = y.1 ∧ x.1 ≤ y.1 ∧ a.st = startOf w x.1 ∧ a.st = startOf w y.1
theorem SpanB.more {w : Int} {l m : List I2} {a : Bkt} (h : SpanB w l a) (hs : ∀ x ∈ l, x ∈ m) : SpanB w m a := by
  obtain ⟨x, hx, y, hy, h⟩ := h
  exact ⟨x, hs x hx, y, hs y hy, h⟩
end Go.Proofs.YtedcnhbblgmdnaaGreat.Ab
namespace Go.Proofs.YtedcnhbblgmdnaaGreat.Ab
set_option maxHeartbeats 4000000
set_option linter.unusedSimpArgs false
set_option linter.unusedVariables false
/-! ### the samples of each bucket -/
def inB (st w : Int) (y : I2) : Bool := decide (st < y.1) && decide (y.1 ≤ st + w)
end Go.Proofs.YtedcnhbblgmdnaaGreat.Ab
namespace Go.Proofs.YtedcnhbblgmdnaaGreat.Ab
set_option maxHeartbeats 4000000
set_option linter.unusedSimpArgs false
set_option linter.unusedVariables false
/-! ### the buckets of valid samples are valid -/
structure GoodB (k n : Int) (b : Bkt) : Prop where
  c1 : 1 ≤ b.c
  c2 : b.c ≤ n
  eq : b.ft = b.lt ↔ b.c = 1
  f1 : b.mn ≤ b.f
  f2 : b.f ≤ b.mx
  l1 : b.mn ≤ b.l
  l2 : b.l ≤ b.mx
  lo : -1099511627776 ≤ b.mn
  hi : b.mx ≤ 1099511627776
  pos : k = 2 → 0 ≤ b.mn
  s1 : b.c * b.mn ≤ b.s
  s2 : b.s ≤ b.c * b.mx
  i0 : 0 ≤ b.inc
  i1 : b.inc ≤ (b.c - 1) * 1099511627776
  ik : k ≠ 2 → b.inc = 0
  one : b.c = 1 → b.mn = b.mx
def okS (k : Int) (x : I2) : Prop := (1 ≤ x.1 ∧ x.1 ≤ 1099511627776) ∧ (-1099511627776 ≤ x.2 ∧ x.2 ≤ 1099511627776) ∧ (k = 2 → 0 ≤ x.2)
theorem GoodB.single {k w : Int} {x : I2} (h : okS k x) : GoodB k 1 (single w x) := by
  obtain ⟨_, ⟨h1, h2⟩, h3⟩ := h
  exact ⟨Int.le_refl _, Int.le_refl _, ⟨fun _ => rfl, fun _ => rfl⟩, Int.le_refl _, Int.le_refl _, Int.le_refl _, Int.le_refl _, h1, h2, h3, by show 1 * x.2 ≤ x.2; omega, by show x.2 ≤ 1 * x.2; omega,
    Int.le_refl _, by show (0 : Int) ≤ (1 - 1) * 1099511627776; omega, fun _ => rfl, fun _ => rfl⟩
theorem GoodB.more {k n m : Int} {b : Bkt} (h : GoodB k n b) (hm : n ≤ m) : GoodB k m b := { h with c2 := by have := h.c2; omega }
theorem minI_le (a b : Int) : minI a b ≤ a ∧ minI a b ≤ b ∧ (minI a b = a ∨ minI a b = b) := by unfold minI; split <;> omega
theorem le_maxI (a b : Int) : a ≤ maxI a b ∧ b ≤ maxI a b ∧ (maxI a b = a ∨ maxI a b = b) := by unfold maxI; split <;> omega
theorem GoodB.join {k w n : Int} {a : Bkt} {x : I2} (h : GoodB k n a) (hx : okS k x) (hlt : a.ft ≤ a.lt) (hl : a.lt < x.1) : GoodB k (n + 1) (joinB k a (Go.Proofs.YtedcnhbblgmdnaaGreat.Ab.single w x)) := by
  obtain ⟨_, ⟨h1, h2⟩, h3⟩ := hx
  obtain ⟨m1, m2, m3⟩ := minI_le a.mn x.2
  obtain ⟨n1, n2, n3⟩ := le_maxI a.mx x.2
  have c1 := h.c1; have c2 := h.c2; have f1 := h.f1; have f2 := h.f2; have lo := h.lo; have hi := h.hi; have l1 := h.l1; have l2 := h.l2
  have a1 := Int.mul_le_mul_of_nonneg_left m1 (show 0 ≤ a.c by omega)
  have a2 := Int.mul_le_mul_of_nonneg_left n1 (show 0 ≤ a.c by omega)
  have s1 := h.s1; have s2 := h.s2; have i0 := h.i0; have i1 := h.i1
  refine ⟨?_, ?_, ?_, ?_, ?_, ?_, ?_, ?_, ?_, ?_, ?_, ?_, ?_, ?_, ?_, ?_⟩ <;> simp only [joinB, Go.Proofs.YtedcnhbblgmdnaaGreat.Ab.single]
  · omega
  · omega
  · constructor <;> intro hh <;> omega
  · omega
  · omega
  · exact m2
  · exact n2
  · rcases m3 with e | e <;> omega
  · rcases n3 with e | e <;> omega
  · intro hk; have := h.pos hk; have := h3 hk; rcases m3 with e | e <;> omega
  · rw [Int.add_mul, Int.one_mul]; omega
  · rw [Int.add_mul, Int.one_mul]; omega
  · split
    · rename_i hk
      have := h3 hk
      unfold stepV; split <;> omega
    · exact i0
  · split
    · rename_i hk
      have := h3 hk
      have := h.pos hk
      unfold stepV; split <;> omega
    · omega
  · intro hk; rw [if_neg hk]; exact h.ik hk
  · intro hh; omega
theorem GoodB.bkA {k w : Int} {b : Bkt} (h : GoodB k 2000 b) (hk : k = 1 ∨ k = 2) (t1 : b.st < b.ft) (t2 : b.ft ≤ b.lt) (t3 : b.lt ≤ b.st + w) (t4 : b.lt ≤ 1099511627776) : bkA k w b = true := by
  have c1 := h.c1; have c2 := h.c2; have f1 := h.f1; have f2 := h.f2; have lo := h.lo; have hi := h.hi; have l1 := h.l1; have l2 := h.l2
  have s1 := h.s1; have s2 := h.s2; have i0 := h.i0; have i1 := h.i1
  have ok : ∀ v, b.mn ≤ v → v ≤ b.mx → okV k v = true := fun v v1 v2 => by
    unfold okV isVl
    have : (k == 2 && decide (v < 0)) = false := by
      rcases hk with rfl | rfl
      · rfl
      · have := h.pos rfl; simp; omega
    rw [this]; simp; omega
  have b1 : bkA1 w b = false := by unfold bkA1; simp; omega
  have b2 : bkA2 b = false := by
    unfold bkA2
    have : (b.ft == b.lt) = (b.c == 1) := by
      rw [Bool.eq_iff_iff]; simp [h.eq]
    rw [this]; simp; omega
  have b3 : bkA3 k b = true := by
    unfold bkA3
    rw [ok b.mn (by omega) (by omega), ok b.mx (by omega) (by omega), ok b.f (by omega) (by omega), ok b.l (by omega) (by omega)]; rfl
  have b4 : bkA4 b = false := by unfold bkA4; simp; omega
  have b5 : bkA5 b = false := by unfold bkA5; simp; omega
  have b6 : bkA6 k b = false := by
    unfold bkA6
    have : ((k == 1) && (b.inc != 0)) = false := by
      rcases hk with rfl | rfl
      · simp [h.ik (by omega)]
      · rfl
    rw [this]; simp; omega
  have b7 : bkA7 b = true := by
    unfold bkA7
    by_cases hc : 1 < b.c
    · simp [hc]
    · have hc1 : b.c = 1 := by omega
      have := h.one hc1
      rw [hc1] at s1 s2
      simp; right; omega
  unfold Go.Proofs.YtedcnhbblgmdnaaGreat.Ab.bkA
  rw [b1, b2, b3, b4, b5, b6, b7]; rfl
end Go.Proofs.YtedcnhbblgmdnaaGreat.Ab
namespace Go.Proofs.YtedcnhbblgmdnaaGreat.Ab
set_option maxHeartbeats 4000000
set_option linter.unusedSimpArgs false
set_option linter.unusedVariables false
/-! ### the reference's examination of a bucket -/
def rfA (w : Int) (b : Bkt) : Bool := decide (b.st < 0) || decide (1099511627776 ≤ b.st) || (b.st.tmod w != 0) || decide (b.ft ≤ b.st) || decide (b.lt < b.ft) || decide (b.st + w < b.lt) || decide (1099511627776 < b.lt)
def btw (n lo hi : Int) : Bool := decide (lo ≤ n) && decide (n ≤ hi)
def rfB (b : Bkt) : Bool := !btw b.c 1 2000 || ((b.ft == b.lt) != (b.c == 1))
def rfC (k : Int) (b : Bkt) : Bool := decide (b.mn < (if k = 2 then 0 else -1099511627776)) || decide (1099511627776 < b.mx) || !btw b.f b.mn b.mx || !btw b.l b.mn b.mx
def rfD (k : Int) (b : Bkt) : Bool := !btw b.s (b.c * b.mn) (b.c * b.mx) || decide (b.inc < 0) || ((k == 1) && (b.inc != 0)) || decide ((b.c - 1) * 1099511627776 < b.inc)
def rfE (b : Bkt) : Bool := decide (1 < b.c) || ((b.mn == b.mx) && (b.inc == 0))
def rfBk (k w : Int) (b : Bkt) : Bool := !rfA w b && (!rfB b && (!rfC k b && (!rfD k b && rfE b)))
theorem okV_iff {k v : Int} (hk : k = 1 ∨ k = 2) : okV k v = true ↔ (if k = 2 then 0 else -1099511627776) ≤ v ∧ v ≤ 1099511627776 := by
  unfold okV isVl
  rcases hk with rfl | rfl
  · simp
  · simp
    omega
theorem rfBk_eq {k w : Int} {b : Bkt} (hk : k = 1 ∨ k = 2) : rfBk k w b = (decide (0 ≤ b.st) && (decide (b.st < 1099511627776) && ((b.st.tmod w == 0) && bkA k w b))) := by
  have eA : rfA w b = false ↔ (0 ≤ b.st ∧ b.st < 1099511627776 ∧ b.st.tmod w = 0) ∧ bkA1 w b = false := by
    unfold rfA bkA1
    simp
    omega
  have eB : rfB b = bkA2 b := by
    unfold rfB bkA2 btw
    rw [Bool.not_and, ← decide_not, ← decide_not, decide_eq_decide.2 (show ¬ 1 ≤ b.c ↔ b.c < 1 by omega), decide_eq_decide.2 (show ¬ b.c ≤ 2000 ↔ 2000 < b.c by omega)]
  rw [Bool.eq_iff_iff]
  unfold rfBk bkA
  simp only [Bool.and_eq_true, Bool.not_eq_true', decide_eq_true_eq, beq_iff_eq, eA, eB]
  have key : bkA2 b = false → ((rfC k b = false ∧ rfD k b = false ∧ rfE b = true) ↔ (bkA3 k b = true ∧ bkA4 b = false ∧ bkA5 b = false ∧ bkA6 k b = false ∧ bkA7 b = true)) := fun h2 => by
    have hc : 1 ≤ b.c ∧ b.c ≤ 2000 := by
      unfold bkA2 at h2
      simp at h2
      omega
    have e3 : bkA3 k b = true ↔ (okV k b.mn = true ∧ okV k b.mx = true ∧ okV k b.f = true ∧ okV k b.l = true) := by unfold bkA3; simp
    have e4 : bkA4 b = false ↔ (b.mn ≤ b.f ∧ b.f ≤ b.mx) ∧ (b.mn ≤ b.l ∧ b.l ≤ b.mx) := by unfold bkA4; simp; omega
    have e5 : bkA5 b = false ↔ b.c * b.mn ≤ b.s ∧ b.s ≤ b.c * b.mx := by unfold bkA5; simp
    have e6 : bkA6 k b = false ↔ (k = 1 → b.inc = 0) ∧ 0 ≤ b.inc ∧ b.inc ≤ (b.c - 1) * 1099511627776 := by unfold bkA6; simp; omega
    have eC : rfC k b = false ↔ (if k = 2 then 0 else -1099511627776) ≤ b.mn ∧ b.mx ≤ 1099511627776 ∧ (b.mn ≤ b.f ∧ b.f ≤ b.mx) ∧ (b.mn ≤ b.l ∧ b.l ≤ b.mx) := by unfold rfC btw; simp; omega
    have eD : rfD k b = false ↔ (b.c * b.mn ≤ b.s ∧ b.s ≤ b.c * b.mx) ∧ 0 ≤ b.inc ∧ (k = 1 → b.inc = 0) ∧ b.inc ≤ (b.c - 1) * 1099511627776 := by unfold rfD btw; simp; omega
    have eE : rfE b = true ↔ 1 < b.c ∨ (b.mn = b.mx ∧ b.inc = 0) := by unfold rfE; simp
    have e7 : bkA7 b = true ↔ 1 < b.c ∨ (b.s = b.mn ∧ b.mn = b.mx ∧ b.f = b.mn ∧ b.l = b.mn) := by unfold bkA7; simp; omega
    rw [e3, e4, e5, e6, e7, eC, eD, eE, okV_iff hk, okV_iff hk, okV_iff hk, okV_iff hk]
    generalize (if k = 2 then (0 : Int) else -1099511627776) = lo
    rcases Int.lt_or_eq_of_le hc.1 with h1 | h1
    · constructor <;> intro h <;> omega
    · rw [← h1, Int.one_mul, Int.one_mul]
      constructor <;> intro h <;> omega
  constructor
  · rintro ⟨⟨⟨a1, a2, a3⟩, a4⟩, h2, h3⟩
    exact ⟨a1, a2, a3, a4, h2, (key h2).1 h3⟩
  · rintro ⟨a1, a2, a3, a4, h2, h3⟩
    exact ⟨⟨⟨a1, a2, a3⟩, a4⟩, h2, (key h2).2 h3⟩
def rfBks (k w : Int) : Int → List Bkt → Bool
  | _, [] => true
  | p, b :: r => !(!rfBk k w b || decide (b.st ≤ p)) && rfBks k w b.st r
theorem rfBks_eq {k w : Int} (hk : k = 1 ∨ k = 2) : ∀ (l : List Bkt) (p : Int), -1 ≤ p → rfBks k w p l = bksOK k w p l
  | [], _, _ => rfl
  | b :: r, p, hp => by
    rw [rfBks, bksOK, rfBk_eq hk]
    by_cases h0 : 0 ≤ b.st
    · rw [rfBks_eq hk r b.st (by omega)]
      rw [Bool.eq_iff_iff]
      simp
      constructor <;> intro h
      · exact ⟨⟨⟨by omega, by omega⟩, by simpa using h.1.1.2.2.1⟩, h.1.1.2.2.2, h.2⟩
      · exact ⟨⟨⟨h0, by omega, by simpa using h.1.2, h.2.1⟩, by omega⟩, h.2.2⟩
    · have e1 : decide (0 ≤ b.st) = false := decide_eq_false h0
      have e2 : decide (b.st ≤ p) = true := decide_eq_true (by omega)
      rw [e1, e2]; rfl
/-! ### too many samples in a bucket -/
def bigB (l : List Bkt) : Bool := l.any fun b => decide (2000 < b.c)
theorem bigB_app {k : Int} {acc : List Bkt} {b : Bkt} (hb : 0 ≤ b.c) (h : bigB acc = true) : bigB (appB k acc b) = true := by
  unfold bigB at *
  rw [List.any_eq_true] at *
  obtain ⟨x, hx, hx2⟩ := h
  have hx3 : 2000 < x.c := of_decide_eq_true hx2
  rcases List.eq_nil_or_concat acc with rfl | ⟨D, a, rfl⟩
  · cases hx
  · rw [List.concat_eq_append] at *
    by_cases hc : a.st = b.st
    · rw [appB_same hc]
      rcases List.mem_append.1 hx with hx | hx
      · exact ⟨x, by simp [hx], hx2⟩
      · rw [List.mem_singleton.1 hx] at hx3
        exact ⟨joinB k a b, by simp, decide_eq_true (by show 2000 < a.c + b.c; omega)⟩
    · rw [appB_new (fun y hy => by
        simp only [List.getLast?_append, List.getLast?_singleton, Option.some_or, Option.some.injEq] at hy
        subst hy; exact hc)]
      exact ⟨x, List.mem_append.2 (.inl hx), hx2⟩
theorem bigB_apps {k : Int} : ∀ (l acc : List Bkt), (∀ b ∈ l, 0 ≤ b.c) → bigB acc = true → bigB (l.foldl (appB k) acc) = true
  | [], _, _, h => h
  | b :: r, acc, hb, h => bigB_apps r _ (fun x hx => hb x (by simp [hx])) (bigB_app (hb b (by simp)) h)
end Go.Proofs.YtedcnhbblgmdnaaGreat.Ab
namespace Go.Proofs.YtedcnhbblgmdnaaGreat.Ab
set_option maxHeartbeats 8000000
set_option maxRecDepth 10000
set_option linter.unusedSimpArgs false
set_option linter.unusedVariables false
/-- 203: between -/
theorem pf180 (n lo hi : Int) : Pf E0 180 [.c (.p (.int .i64 n)), .c (.p (.int .i64 lo)), .c (.p (.int .i64 hi))] (P' (.bool (btw n lo hi))) := by
  refine Pf.body (fn := Tryz.f180) (by kernel_rfl) rfl ?_; simp only [List.map_cons, List.map_nil, List.cons_append, List.nil_append, List.length_cons, List.length_nil, Tryz.ntmps180, List.replicate, Nat.reduceSub, Nat.reduceAdd]
  refine Wc.seq ?_
  refine Wc.reg fun K hK => ?_; simp only [go_sem, ti3, ti4, ti32, ti41, ti242]; refine hK _ _ ?_; clear hK K
  refine Wc.seq ?_
  by_cases h : lo ≤ n
  · refine Wc.reg fun K hK => ?_; simp only [go_sem, ti3, ti4, ti32, ti41, ti242, h]; refine hK _ _ ?_; clear hK K
    exact Wc.ret (Pf.ret [.tmp 6] [.c (.p (.bool (btw n lo hi)))] rfl rfl (by simp only [resultsD, go_sem, ti3, ti4, ti32, ti41, ti242, btw, h, Bool.true_and]) rfl)
  · refine Wc.reg fun K hK => ?_; simp only [go_sem, ti3, ti4, ti32, ti41, ti242, h]; refine hK _ _ ?_; clear hK K
    exact Wc.ret (Pf.ret [.tmp 6] [.c (.p (.bool (btw n lo hi)))] rfl rfl (by simp only [resultsD, go_sem, ti3, ti4, ti32, ti41, ti242, btw, h, Bool.false_and]) rfl)
/-- 137: checkBucket -/
theorem pf106 (b : Bkt) (k w : Int) (hk : k = 1 ∨ k = 2) (hw : 1 ≤ w ∧ w ≤ 1099511627776) : Pf E0 106 [.c (.p (pI k)), .c (.p (pI w)), .agg (b.pd.map .p)] (P' (.bool (rfBk k w b))) := by
  generalize hR : rfBk k w b = R
  unfold rfBk at hR
  have hw0 : (w = 0) = False := by simp; omega
  refine Pf.body (fn := Tryz.f106) (by kernel_rfl) rfl ?_; simp only [List.map_cons, List.map_nil, List.cons_append, List.nil_append, List.length_cons, List.length_nil, Tryz.ntmps106, List.replicate, Nat.reduceSub, Nat.reduceAdd]
  refine Wc.seq ?_
  refine Wc.reg fun K hK => ?_; simp only [go_sem, ti3, ti4, ti32, ti41, ti242]; refine hK _ _ ?_; clear hK K
  refine Wc.seq ?_
  refine Wc.reg fun K hK => ?_; simp only [go_sem, ti3, ti4, ti32, ti41, ti242]; refine hK _ _ ?_; clear hK K
  have hF : True := trivial
  refine Wc.seqR (fun y => y.ds = [] ∧ Fs y.e 149 [(0, P' (pI k)), (1, P' (pI w)), (5, .v (.c (.ref 0 0))), (7, P' (pI (if k = 2 then 0 else -1099511627776)))] ∧ OA y.s.nx y.s [] [(0, .cells (b.pd.map .p) false)]) ?_ ?_
  · refine Wc.seq ?_
    rcases hk with rfl | rfl
    · refine Wc.reg fun K hK => ?_; simp only [go_sem, ti3, ti4, ti32, ti41, ti242]; refine hK _ _ ?_; clear hK K
      refine Wc.cond (t := false) (by simp only [go_sem, ti3, ti4, ti32, ti41, ti242]; rfl) (fun hc => by cases hc) (fun _ => Wc.skip ?_)
      exact ⟨rfl, by simp only [Fs, Int.natCast_zero, go_sem, ti3, ti4, ti32, ti41, ti242], by (try simp only [St.nx_put, St.nx_adv]); repeat (first | exact OA.mono s00_oa (by omega) | refine OA.newB ?_ (by omega) rfl | refine OA.advB ?_)⟩
    · refine Wc.reg fun K hK => ?_; simp only [go_sem, ti3, ti4, ti32, ti41, ti242]; refine hK _ _ ?_; clear hK K
      refine Wc.cond (t := true) (by simp only [go_sem, ti3, ti4, ti32, ti41, ti242]) (fun _ => ?_) (fun hc => by cases hc)
      refine Wc.reg fun K hK => ?_; simp only [go_sem, ti3, ti4, ti32, ti41, ti242]; refine hK _ _ ?_; clear hK K
      exact ⟨rfl, by simp only [Fs, Int.natCast_zero, go_sem, ti3, ti4, ti32, ti41, ti242], by (try simp only [St.nx_put, St.nx_adv]); repeat (first | exact OA.mono s00_oa (by omega) | refine OA.newB ?_ (by omega) rfl | refine OA.advB ?_)⟩
  clear hF
  rintro ⟨e, ds, s1⟩ ⟨rfl, hF, ho⟩
  simp only [Fs] at hF ho
  generalize hlo : (if k = 2 then (0 : Int) else -1099511627776) = lo at hF
  have g0 := ho.at_ (0, .cells (b.pd.map .p) false) (by simp)
  simp only [List.map_cons, List.map_nil] at g0
  refine Wc.seqR (fun y => (rfA w b = false ∧ 0 ≤ b.st ∧ b.st < 1099511627776) ∧ y.ds = [] ∧ Fs y.e 149 [(0, P' (pI k)), (1, P' (pI w)), (5, .v (.c (.ref 0 0))), (7, P' (pI lo))] ∧ OA y.s.nx y.s [] [(0, .cells (b.pd.map .p) false)]) ?_ ?_
  · refine Wc.seq ?_
    have bad : rfA w b = true → false = R := fun h => by rw [← hR, h]; rfl
    by_cases hst : 0 ≤ b.st ∧ b.st < 1099511627776
    · have w1 : IntKind.i64.wrap (b.st + w) = b.st + w := by rw [wi64]; omega
      unfold rfA at bad ⊢
      rcases Bool.eq_false_or_eq_true (decide (b.st < 0)) with z1 | z1
      · refine Wc.reg fun K hK => ?_; simp only [go_sem, ti3, ti4, ti32, ti41, ti242, hF, g0, w1, hw0, z1]; refine hK _ _ ?_; clear hK K
        refine Wc.cond (t := true) (by simp only [go_sem, ti3, ti4, ti32, ti41, ti242, hF, g0, w1, hw0, z1]) (fun _ => ?_) (fun hc => by cases hc)
        refine Wc.seq ?_
        refine Wc.reg fun K hK => ?_; simp only [go_sem, ti3, ti4, ti32, ti41, ti242, hF]; refine hK _ _ ?_; clear hK K
        rw [← bad (by simp only [z1]; rfl)]
        exact Wc.ret (Pf.ret [.tmp 6] [.c (.p (.bool false))] rfl rfl (by simp only [resultsD, go_sem, ti3, ti4, ti32, ti41, ti242, hF]) rfl)
      rcases Bool.eq_false_or_eq_true (decide (1099511627776 ≤ b.st)) with z2 | z2
      · refine Wc.reg fun K hK => ?_; simp only [go_sem, ti3, ti4, ti32, ti41, ti242, hF, g0, w1, hw0, z1, z2]; refine hK _ _ ?_; clear hK K
        refine Wc.cond (t := true) (by simp only [go_sem, ti3, ti4, ti32, ti41, ti242, hF, g0, w1, hw0, z1, z2]) (fun _ => ?_) (fun hc => by cases hc)
        refine Wc.seq ?_
        refine Wc.reg fun K hK => ?_; simp only [go_sem, ti3, ti4, ti32, ti41, ti242, hF]; refine hK _ _ ?_; clear hK K
        rw [← bad (by simp only [z1, z2]; rfl)]
        exact Wc.ret (Pf.ret [.tmp 6] [.c (.p (.bool false))] rfl rfl (by simp only [resultsD, go_sem, ti3, ti4, ti32, ti41, ti242, hF]) rfl)
      rcases Bool.eq_false_or_eq_true (b.st.tmod w != 0) with z3 | z3
      · refine Wc.reg fun K hK => ?_; simp only [go_sem, ti3, ti4, ti32, ti41, ti242, hF, g0, w1, hw0, z1, z2, z3]; refine hK _ _ ?_; clear hK K
        refine Wc.cond (t := true) (by simp only [go_sem, ti3, ti4, ti32, ti41, ti242, hF, g0, w1, hw0, z1, z2, z3]) (fun _ => ?_) (fun hc => by cases hc)
        refine Wc.seq ?_
        refine Wc.reg fun K hK => ?_; simp only [go_sem, ti3, ti4, ti32, ti41, ti242, hF]; refine hK _ _ ?_; clear hK K
        rw [← bad (by simp only [z1, z2, z3]; rfl)]
        exact Wc.ret (Pf.ret [.tmp 6] [.c (.p (.bool false))] rfl rfl (by simp only [resultsD, go_sem, ti3, ti4, ti32, ti41, ti242, hF]) rfl)
      rcases Bool.eq_false_or_eq_true (decide (b.ft ≤ b.st)) with z4 | z4
      · refine Wc.reg fun K hK => ?_; simp only [go_sem, ti3, ti4, ti32, ti41, ti242, hF, g0, w1, hw0, z1, z2, z3, z4]; refine hK _ _ ?_; clear hK K
        refine Wc.cond (t := true) (by simp only [go_sem, ti3, ti4, ti32, ti41, ti242, hF, g0, w1, hw0, z1, z2, z3, z4]) (fun _ => ?_) (fun hc => by cases hc)
        refine Wc.seq ?_
        refine Wc.reg fun K hK => ?_; simp only [go_sem, ti3, ti4, ti32, ti41, ti242, hF]; refine hK _ _ ?_; clear hK K
        rw [← bad (by simp only [z1, z2, z3, z4]; rfl)]
        exact Wc.ret (Pf.ret [.tmp 6] [.c (.p (.bool false))] rfl rfl (by simp only [resultsD, go_sem, ti3, ti4, ti32, ti41, ti242, hF]) rfl)
      rcases Bool.eq_false_or_eq_true (decide (b.lt < b.ft)) with z5 | z5
      · refine Wc.reg fun K hK => ?_; simp only [go_sem, ti3, ti4, ti32, ti41, ti242, hF, g0, w1, hw0, z1, z2, z3, z4, z5]; refine hK _ _ ?_; clear hK K
        refine Wc.cond (t := true) (by simp only [go_sem, ti3, ti4, ti32, ti41, ti242, hF, g0, w1, hw0, z1, z2, z3, z4, z5]) (fun _ => ?_) (fun hc => by cases hc)
        refine Wc.seq ?_
        refine Wc.reg fun K hK => ?_; simp only [go_sem, ti3, ti4, ti32, ti41, ti242, hF]; refine hK _ _ ?_; clear hK K
        rw [← bad (by simp only [z1, z2, z3, z4, z5]; rfl)]
        exact Wc.ret (Pf.ret [.tmp 6] [.c (.p (.bool false))] rfl rfl (by simp only [resultsD, go_sem, ti3, ti4, ti32, ti41, ti242, hF]) rfl)
      rcases Bool.eq_false_or_eq_true (decide (b.st + w < b.lt)) with z6 | z6
      · refine Wc.reg fun K hK => ?_; simp only [go_sem, ti3, ti4, ti32, ti41, ti242, hF, g0, w1, hw0, z1, z2, z3, z4, z5, z6]; refine hK _ _ ?_; clear hK K
        refine Wc.cond (t := true) (by simp only [go_sem, ti3, ti4, ti32, ti41, ti242, hF, g0, w1, hw0, z1, z2, z3, z4, z5, z6]) (fun _ => ?_) (fun hc => by cases hc)
        refine Wc.seq ?_
        refine Wc.reg fun K hK => ?_; simp only [go_sem, ti3, ti4, ti32, ti41, ti242, hF]; refine hK _ _ ?_; clear hK K
        rw [← bad (by simp only [z1, z2, z3, z4, z5, z6]; rfl)]
        exact Wc.ret (Pf.ret [.tmp 6] [.c (.p (.bool false))] rfl rfl (by simp only [resultsD, go_sem, ti3, ti4, ti32, ti41, ti242, hF]) rfl)
      rcases Bool.eq_false_or_eq_true (decide (1099511627776 < b.lt)) with z7 | z7
      · refine Wc.reg fun K hK => ?_; simp only [go_sem, ti3, ti4, ti32, ti41, ti242, hF, g0, w1, hw0, z1, z2, z3, z4, z5, z6, z7]; refine hK _ _ ?_; clear hK K
        refine Wc.cond (t := true) (by simp only [go_sem, ti3, ti4, ti32, ti41, ti242, hF, g0, w1, hw0, z1, z2, z3, z4, z5, z6, z7]) (fun _ => ?_) (fun hc => by cases hc)
        refine Wc.seq ?_
        refine Wc.reg fun K hK => ?_; simp only [go_sem, ti3, ti4, ti32, ti41, ti242, hF]; refine hK _ _ ?_; clear hK K
        rw [← bad (by simp only [z1, z2, z3, z4, z5, z6, z7]; rfl)]
        exact Wc.ret (Pf.ret [.tmp 6] [.c (.p (.bool false))] rfl rfl (by simp only [resultsD, go_sem, ti3, ti4, ti32, ti41, ti242, hF]) rfl)
      refine Wc.reg fun K hK => ?_; simp only [go_sem, ti3, ti4, ti32, ti41, ti242, hF, g0, w1, hw0, z1, z2, z3, z4, z5, z6, z7]; refine hK _ _ ?_; clear hK K
      refine Wc.cond (t := false) (by simp only [go_sem, ti3, ti4, ti32, ti41, ti242, hF, g0, w1, hw0, z1, z2, z3, z4, z5, z6, z7]) (fun hc => by cases hc) (fun _ => Wc.skip ?_)
      exact ⟨⟨by simp only [z1, z2, z3, z4, z5, z6, z7]; rfl, hst⟩, rfl, by simp only [Fs, Int.natCast_zero, go_sem, ti3, ti4, ti32, ti41, ti242, hF], by (try simp only [St.nx_put, St.nx_adv]); repeat (first | exact OA.mono ho (by omega) | refine OA.newB ?_ (by omega) rfl | refine OA.advB ?_)⟩
    · have hb : false = R := bad (by unfold rfA; rw [show (decide (b.st < 0) || decide (1099511627776 ≤ b.st)) = true by simp; omega]; rfl)
      rcases Bool.eq_false_or_eq_true (decide (b.st < 0)) with z1 | z1
      · refine Wc.reg fun K hK => ?_; simp only [go_sem, ti3, ti4, ti32, ti41, ti242, hF, g0, z1]; refine hK _ _ ?_; clear hK K
        refine Wc.cond (t := true) (by simp only [go_sem, ti3, ti4, ti32, ti41, ti242, hF, z1]) (fun _ => ?_) (fun hc => by cases hc)
        refine Wc.seq ?_
        refine Wc.reg fun K hK => ?_; simp only [go_sem, ti3, ti4, ti32, ti41, ti242, hF]; refine hK _ _ ?_; clear hK K
        rw [← (hb : false = R)]
        exact Wc.ret (Pf.ret [.tmp 6] [.c (.p (.bool false))] rfl rfl (by simp only [resultsD, go_sem, ti3, ti4, ti32, ti41, ti242, hF]) rfl)
      · have z2 : decide (1099511627776 ≤ b.st) = true := by
          have := of_decide_eq_false z1
          exact decide_eq_true (by omega)
        refine Wc.reg fun K hK => ?_; simp only [go_sem, ti3, ti4, ti32, ti41, ti242, hF, g0, z1, z2]; refine hK _ _ ?_; clear hK K
        refine Wc.cond (t := true) (by simp only [go_sem, ti3, ti4, ti32, ti41, ti242, hF, z1, z2]) (fun _ => ?_) (fun hc => by cases hc)
        refine Wc.seq ?_
        refine Wc.reg fun K hK => ?_; simp only [go_sem, ti3, ti4, ti32, ti41, ti242, hF]; refine hK _ _ ?_; clear hK K
        rw [← (hb : false = R)]
        exact Wc.ret (Pf.ret [.tmp 6] [.c (.p (.bool false))] rfl rfl (by simp only [resultsD, go_sem, ti3, ti4, ti32, ti41, ti242, hF]) rfl)
  clear hF ho g0 e s1
  rintro ⟨e, ds, s1⟩ ⟨⟨c1, hst⟩, rfl, hF, ho⟩
  simp only [Fs] at hF ho
  have g0 := ho.at_ (0, .cells (b.pd.map .p) false) (by simp)
  simp only [List.map_cons, List.map_nil] at g0
  rw [c1] at hR
  refine Wc.seqR (fun y => (rfB b = false ∧ 1 ≤ b.c ∧ b.c ≤ 2000) ∧ y.ds = [] ∧ Fs y.e 149 [(0, P' (pI k)), (1, P' (pI w)), (5, .v (.c (.ref 0 0))), (7, P' (pI lo))] ∧ OA y.s.nx y.s [] [(0, .cells (b.pd.map .p) false)]) ?_ ?_
  · refine Wc.seq ?_
    have bad : rfB b = true → false = R := fun h => by rw [← hR, h]; rfl
    have p := pf180 b.c 1 2000
    cases hB : btw b.c 1 2000 with
    | false =>
      rw [hB] at p
      refine Wc.reg fun K hK => ?_; simp only [go_sem, ti3, ti4, ti32, ti41, ti242, hF, g0]
      refine wpCall.pf p (by kernel_rfl) (by kernel_rfl) rfl rfl ?_
      simp only [go_sem, ti3, ti4, ti32, ti41, ti242, hF, g0]; refine hK _ _ ?_; clear hK K
      refine Wc.cond (t := true) (by simp only [go_sem, ti3, ti4, ti32, ti41, ti242, hF]) (fun _ => ?_) (fun hc => by cases hc)
      refine Wc.seq ?_
      refine Wc.reg fun K hK => ?_; simp only [go_sem, ti3, ti4, ti32, ti41, ti242, hF]; refine hK _ _ ?_; clear hK K
      rw [← ((bad (by unfold rfB; rw [hB]; rfl)) : false = R)]
      exact Wc.ret (Pf.ret [.tmp 6] [.c (.p (.bool false))] rfl rfl (by simp only [resultsD, go_sem, ti3, ti4, ti32, ti41, ti242, hF]) rfl)
    | true =>
      rw [hB] at p
      rcases Bool.eq_false_or_eq_true (!((b.ft == b.lt) == (b.c == 1))) with z | z
      · refine Wc.reg fun K hK => ?_; simp only [go_sem, ti3, ti4, ti32, ti41, ti242, hF, g0]
        refine wpCall.pf p (by kernel_rfl) (by kernel_rfl) rfl rfl ?_
        simp only [go_sem, ti3, ti4, ti32, ti41, ti242, hF, g0, z]; refine hK _ _ ?_; clear hK K
        refine Wc.cond (t := true) (by simp only [go_sem, ti3, ti4, ti32, ti41, ti242, hF, z]) (fun _ => ?_) (fun hc => by cases hc)
        refine Wc.seq ?_
        refine Wc.reg fun K hK => ?_; simp only [go_sem, ti3, ti4, ti32, ti41, ti242, hF]; refine hK _ _ ?_; clear hK K
        rw [← ((bad (by unfold rfB; rw [hB, bne_false, z]; rfl)) : false = R)]
        exact Wc.ret (Pf.ret [.tmp 6] [.c (.p (.bool false))] rfl rfl (by simp only [resultsD, go_sem, ti3, ti4, ti32, ti41, ti242, hF]) rfl)
      · refine Wc.reg fun K hK => ?_; simp only [go_sem, ti3, ti4, ti32, ti41, ti242, hF, g0]
        refine wpCall.pf p (by kernel_rfl) (by kernel_rfl) rfl rfl ?_
        simp only [go_sem, ti3, ti4, ti32, ti41, ti242, hF, g0, z]; refine hK _ _ ?_; clear hK K
        refine Wc.cond (t := false) (by simp only [go_sem, ti3, ti4, ti32, ti41, ti242, hF, z]) (fun hc => by cases hc) (fun _ => Wc.skip ?_)
        refine ⟨⟨by unfold rfB; rw [hB, bne_false, z]; rfl, ?_⟩, rfl, by simp only [Fs, Int.natCast_zero, go_sem, ti3, ti4, ti32, ti41, ti242, hF], by (try simp only [St.nx_put, St.nx_adv]); repeat (first | exact OA.mono ho (by omega) | refine OA.newB ?_ (by omega) rfl | refine OA.advB ?_)⟩
        simp only [btw, Bool.and_eq_true, decide_eq_true_eq] at hB
        exact hB
  clear hF ho g0 e s1
  rintro ⟨e, ds, s1⟩ ⟨⟨c2, hc⟩, rfl, hF, ho⟩
  simp only [Fs] at hF ho
  have g0 := ho.at_ (0, .cells (b.pd.map .p) false) (by simp)
  simp only [List.map_cons, List.map_nil] at g0
  rw [c2] at hR
  refine Wc.seqR (fun y => rfC k b = false ∧ y.ds = [] ∧ Fs y.e 149 [(0, P' (pI k)), (1, P' (pI w)), (5, .v (.c (.ref 0 0))), (7, P' (pI lo))] ∧ OA y.s.nx y.s [] [(0, .cells (b.pd.map .p) false)]) ?_ ?_
  · refine Wc.seq ?_
    have bad : rfC k b = true → false = R := fun h => by rw [← hR, h]; rfl
    unfold rfC at bad ⊢
    rw [hlo] at bad ⊢
    have p := pf180 b.f b.mn b.mx
    have q := pf180 b.l b.mn b.mx
    rcases Bool.eq_false_or_eq_true (decide (b.mn < lo)) with z1 | z1
    · refine Wc.reg fun K hK => ?_; simp only [go_sem, ti3, ti4, ti32, ti41, ti242, hF, g0, z1]; refine hK _ _ ?_; clear hK K
      refine Wc.cond (t := true) (by simp only [go_sem, ti3, ti4, ti32, ti41, ti242, hF, z1]) (fun _ => ?_) (fun hc => by cases hc)
      refine Wc.seq ?_
      refine Wc.reg fun K hK => ?_; simp only [go_sem, ti3, ti4, ti32, ti41, ti242, hF]; refine hK _ _ ?_; clear hK K
      rw [← ((bad (by rw [z1]; rfl)) : false = R)]
      exact Wc.ret (Pf.ret [.tmp 6] [.c (.p (.bool false))] rfl rfl (by simp only [resultsD, go_sem, ti3, ti4, ti32, ti41, ti242, hF]) rfl)
    rcases Bool.eq_false_or_eq_true (decide (1099511627776 < b.mx)) with z2 | z2
    · refine Wc.reg fun K hK => ?_; simp only [go_sem, ti3, ti4, ti32, ti41, ti242, hF, g0, z1, z2]; refine hK _ _ ?_; clear hK K
      refine Wc.cond (t := true) (by simp only [go_sem, ti3, ti4, ti32, ti41, ti242, hF, z1, z2]) (fun _ => ?_) (fun hc => by cases hc)
      refine Wc.seq ?_
      refine Wc.reg fun K hK => ?_; simp only [go_sem, ti3, ti4, ti32, ti41, ti242, hF]; refine hK _ _ ?_; clear hK K
      rw [← ((bad (by rw [z1, z2]; rfl)) : false = R)]
      exact Wc.ret (Pf.ret [.tmp 6] [.c (.p (.bool false))] rfl rfl (by simp only [resultsD, go_sem, ti3, ti4, ti32, ti41, ti242, hF]) rfl)
    cases hP : btw b.f b.mn b.mx with
    | false =>
      rw [hP] at p
      refine Wc.reg fun K hK => ?_; simp only [go_sem, ti3, ti4, ti32, ti41, ti242, hF, g0, z1, z2]
      refine wpCall.pf p (by kernel_rfl) (by kernel_rfl) rfl rfl ?_
      simp only [go_sem, ti3, ti4, ti32, ti41, ti242, hF, g0, z1, z2]; refine hK _ _ ?_; clear hK K
      refine Wc.cond (t := true) (by simp only [go_sem, ti3, ti4, ti32, ti41, ti242, hF]) (fun _ => ?_) (fun hc => by cases hc)
      refine Wc.seq ?_
      refine Wc.reg fun K hK => ?_; simp only [go_sem, ti3, ti4, ti32, ti41, ti242, hF]; refine hK _ _ ?_; clear hK K
      rw [← ((bad (by rw [z1, z2, hP]; rfl)) : false = R)]
      exact Wc.ret (Pf.ret [.tmp 6] [.c (.p (.bool false))] rfl rfl (by simp only [resultsD, go_sem, ti3, ti4, ti32, ti41, ti242, hF]) rfl)
    | true =>
      rw [hP] at p
      cases hQ : btw b.l b.mn b.mx with
      | false =>
        rw [hQ] at q
        refine Wc.reg fun K hK => ?_; simp only [go_sem, ti3, ti4, ti32, ti41, ti242, hF, g0, z1, z2]
        refine wpCall.pf p (by kernel_rfl) (by kernel_rfl) rfl rfl ?_
        simp only [go_sem, ti3, ti4, ti32, ti41, ti242, hF, g0, z1, z2]
        refine wpCall.pf q (by kernel_rfl) (by kernel_rfl) rfl rfl ?_
        simp only [go_sem, ti3, ti4, ti32, ti41, ti242, hF, g0, z1, z2]; refine hK _ _ ?_; clear hK K
        refine Wc.cond (t := true) (by simp only [go_sem, ti3, ti4, ti32, ti41, ti242, hF]) (fun _ => ?_) (fun hc => by cases hc)
        refine Wc.seq ?_
        refine Wc.reg fun K hK => ?_; simp only [go_sem, ti3, ti4, ti32, ti41, ti242, hF]; refine hK _ _ ?_; clear hK K
        rw [← ((bad (by rw [z1, z2, hP, hQ]; rfl)) : false = R)]
        exact Wc.ret (Pf.ret [.tmp 6] [.c (.p (.bool false))] rfl rfl (by simp only [resultsD, go_sem, ti3, ti4, ti32, ti41, ti242, hF]) rfl)
      | true =>
        rw [hQ] at q
        refine Wc.reg fun K hK => ?_; simp only [go_sem, ti3, ti4, ti32, ti41, ti242, hF, g0, z1, z2]
        refine wpCall.pf p (by kernel_rfl) (by kernel_rfl) rfl rfl ?_
        simp only [go_sem, ti3, ti4, ti32, ti41, ti242, hF, g0, z1, z2]
        refine wpCall.pf q (by kernel_rfl) (by kernel_rfl) rfl rfl ?_
        simp only [go_sem, ti3, ti4, ti32, ti41, ti242, hF, g0, z1, z2]; refine hK _ _ ?_; clear hK K
        refine Wc.cond (t := false) (by simp only [go_sem, ti3, ti4, ti32, ti41, ti242, hF]) (fun hc => by cases hc) (fun _ => Wc.skip ?_)
        exact ⟨by rw [z1, z2]; rfl, rfl, by simp only [Fs, Int.natCast_zero, go_sem, ti3, ti4, ti32, ti41, ti242, hF], by (try simp only [St.nx_put, St.nx_adv]); repeat (first | exact OA.mono ho (by omega) | refine OA.newB ?_ (by omega) rfl | refine OA.advB ?_)⟩
  clear hF ho g0 e s1
  rintro ⟨e, ds, s1⟩ ⟨c3, rfl, hF, ho⟩
  simp only [Fs] at hF ho
  have g0 := ho.at_ (0, .cells (b.pd.map .p) false) (by simp)
  simp only [List.map_cons, List.map_nil] at g0
  rw [c3] at hR
  have hv : (-1099511627776 ≤ b.mn ∧ b.mn ≤ 1099511627776) ∧ (-1099511627776 ≤ b.mx ∧ b.mx ≤ 1099511627776) := by
    unfold rfC btw at c3
    rw [hlo] at c3
    simp at c3
    have : -1099511627776 ≤ lo := by rw [← hlo]; split <;> omega
    omega
  obtain ⟨m1, m2⟩ := mulB hc.1 hc.2 hv.1.1 hv.1.2
  obtain ⟨m3, m4⟩ := mulB hc.1 hc.2 hv.2.1 hv.2.2
  have w2 : IntKind.i64.wrap (b.c * b.mn) = b.c * b.mn := by rw [wi64]; omega
  have w3 : IntKind.i64.wrap (b.c * b.mx) = b.c * b.mx := by rw [wi64]; omega
  have w4 : IntKind.i64.wrap (IntKind.i64.wrap (b.c - 1) * 1099511627776) = (b.c - 1) * 1099511627776 := by rw [wi64, wi64]; omega
  refine Wc.seqR (fun y => rfD k b = false ∧ y.ds = [] ∧ Fs y.e 149 [(0, P' (pI k)), (1, P' (pI w)), (5, .v (.c (.ref 0 0))), (7, P' (pI lo))] ∧ OA y.s.nx y.s [] [(0, .cells (b.pd.map .p) false)]) ?_ ?_
  · refine Wc.seq ?_
    have bad : rfD k b = true → false = R := fun h => by rw [← hR, h]; rfl
    unfold rfD at bad ⊢
    have p := pf180 b.s (b.c * b.mn) (b.c * b.mx)
    cases hP : btw b.s (b.c * b.mn) (b.c * b.mx) with
    | false =>
      rw [hP] at p
      refine Wc.reg fun K hK => ?_; simp only [go_sem, ti3, ti4, ti32, ti41, ti242, hF, g0, w2, w3]
      refine wpCall.pf p (by kernel_rfl) (by kernel_rfl) rfl rfl ?_
      simp only [go_sem, ti3, ti4, ti32, ti41, ti242, hF, g0]; refine hK _ _ ?_; clear hK K
      refine Wc.cond (t := true) (by simp only [go_sem, ti3, ti4, ti32, ti41, ti242, hF]) (fun _ => ?_) (fun hc => by cases hc)
      refine Wc.seq ?_
      refine Wc.reg fun K hK => ?_; simp only [go_sem, ti3, ti4, ti32, ti41, ti242, hF]; refine hK _ _ ?_; clear hK K
      rw [← ((bad (by rw [hP]; rfl)) : false = R)]
      exact Wc.ret (Pf.ret [.tmp 6] [.c (.p (.bool false))] rfl rfl (by simp only [resultsD, go_sem, ti3, ti4, ti32, ti41, ti242, hF]) rfl)
    | true =>
      rw [hP] at p
      obtain ⟨c, hcE⟩ : ∃ c, (decide (b.inc < 0) || ((k == 1) && (b.inc != 0)) || decide ((b.c - 1) * 1099511627776 < b.inc)) = c := ⟨_, rfl⟩
      have h3 : (!true || decide (b.inc < 0) || ((k == 1) && (b.inc != 0)) || decide ((b.c - 1) * 1099511627776 < b.inc)) = c := by rw [← hcE]; rfl
      rw [hP, h3] at bad
      rw [h3]
      rcases Bool.eq_false_or_eq_true (decide (b.inc < 0)) with z1 | z1 <;> rcases Bool.eq_false_or_eq_true (k == 1) with z2 | z2 <;> rcases Bool.eq_false_or_eq_true (b.inc != 0) with z3 | z3 <;> rcases Bool.eq_false_or_eq_true (decide ((b.c - 1) * 1099511627776 < b.inc)) with z4 | z4 <;> rw [z1, z2, z3, z4] at hcE <;> subst hcE <;>
      (refine Wc.reg fun K hK => ?_; simp only [go_sem, ti3, ti4, ti32, ti41, ti242, hF, g0, w2, w3, z1, z2, z3, w4, z4] ; refine wpCall.pf p (by kernel_rfl) (by kernel_rfl) rfl rfl ?_ ; simp only [go_sem, ti3, ti4, ti32, ti41, ti242, hF, g0, z1, z2, z3, w4, z4]; refine hK _ _ ?_; clear hK K) <;>
      first
      | (refine Wc.cond (t := true) (by simp only [go_sem, ti3, ti4, ti32, ti41, ti242, hF, z1, z2, z3, z4]) (fun _ => ?_) (fun hc => by cases hc)
         refine Wc.seq ?_
         refine Wc.reg fun K hK => ?_; simp only [go_sem, ti3, ti4, ti32, ti41, ti242, hF]; refine hK _ _ ?_; clear hK K
         rw [← ((bad rfl) : false = R)]
         exact Wc.ret (Pf.ret [.tmp 6] [.c (.p (.bool false))] rfl rfl (by simp only [resultsD, go_sem, ti3, ti4, ti32, ti41, ti242, hF]) rfl))
      | (refine Wc.cond (t := false) (by simp only [go_sem, ti3, ti4, ti32, ti41, ti242, hF, z1, z2, z3, z4]) (fun hc => by cases hc) (fun _ => Wc.skip ?_)
         exact ⟨rfl, rfl, by simp only [Fs, Int.natCast_zero, go_sem, ti3, ti4, ti32, ti41, ti242, hF], by (try simp only [St.nx_put, St.nx_adv]); repeat (first | exact OA.mono ho (by omega) | refine OA.newB ?_ (by omega) rfl | refine OA.advB ?_)⟩)
  clear hF ho g0 e s1
  rintro ⟨e, ds, s1⟩ ⟨c4, rfl, hF, ho⟩
  simp only [Fs] at hF ho
  have g0 := ho.at_ (0, .cells (b.pd.map .p) false) (by simp)
  simp only [List.map_cons, List.map_nil] at g0
  rw [c4] at hR
  subst hR
  refine Wc.seq ?_
  have fin : ∀ (e : List D) (s : St), e.getD 6 .junk = P' (.bool (rfE b)) → Wc E0 none .ret { e := e, ds := [], s := s } (bodyQ E0 Tryz.f106 fun d0 s2 => ∃ s3, purD s2 d0 = some (P' (.bool (rfE b)), s3)) := fun e s h =>
    Wc.ret (Pf.ret [.tmp 6] [.c (.p (.bool (rfE b)))] rfl rfl (by simp only [resultsD, go_sem, ti3, ti4, ti32, ti41, ti242, h]) rfl)
  cases z1 : decide (1 < b.c) with
  | true =>
    refine Wc.reg fun K hK => ?_; simp only [go_sem, ti3, ti4, ti32, ti41, ti242, hF, g0, z1]; refine hK _ _ ?_; clear hK K
    exact fin _ _ (by simp only [go_sem, ti3, ti4, ti32, ti41, ti242, hF, rfE, z1, Bool.true_or])
  | false =>
    cases z2 : b.mn == b.mx with
    | true =>
      refine Wc.reg fun K hK => ?_; simp only [go_sem, ti3, ti4, ti32, ti41, ti242, hF, g0, z1, z2]; refine hK _ _ ?_; clear hK K
      exact fin _ _ (by simp only [go_sem, ti3, ti4, ti32, ti41, ti242, hF, rfE, z1, z2, Bool.true_and, Bool.false_or])
    | false =>
      refine Wc.reg fun K hK => ?_; simp only [go_sem, ti3, ti4, ti32, ti41, ti242, hF, g0, z1, z2]; refine hK _ _ ?_; clear hK K
      exact fin _ _ (by simp only [go_sem, ti3, ti4, ti32, ti41, ti242, hF, rfE, z1, z2, Bool.false_and, Bool.false_or])
end Go.Proofs.YtedcnhbblgmdnaaGreat.Ab
