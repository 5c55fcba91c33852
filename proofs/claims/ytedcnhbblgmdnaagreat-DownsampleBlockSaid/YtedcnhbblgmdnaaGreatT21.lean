/- A part of the proof. -/
import Derived.Test.YtedcnhbblgmdnaaGreatT18
import Derived.Test.YtedcnhbblgmdnaaGreatT19
namespace Go.Proofs.YtedcnhbblgmdnaaGreat.Ab
set_option maxHeartbeats 4000000
set_option linter.unusedSimpArgs false
set_option linter.unusedVariables false
/-! ### coarser buckets -/
/-! ### merged buckets -/
def putB (k : Int) : List Bkt → Bkt → Option (List Bkt)
 | [], b => some [b]
 | c :: l, b => if c.st < b.st then (putB k l b).map (c :: ·) else if c.st ≠ b.st then some (b :: c :: l) else if c.lt < b.ft then some (joinB k c b :: l) else if b.lt < c.ft then some (joinB k b c :: l) else none
set_option maxHeartbeats 4000000
set_option linter.unusedSimpArgs false
set_option linter.unusedVariables false
/-! ### the buckets of samples: their order -/
def SpanB (w : Int) (l : List I2) (a : Bkt) : Prop := ∃ x ∈ l, ∃ y ∈ l, a.ft = x.1 ∧ a.lt = y.1 ∧ x.1 ≤ y.1 ∧ a.st = startOf w x.1 ∧ a.st = startOf w y.1
theorem SpanB.more {w : Int} {l m : List I2} {a : Bkt} (h : SpanB w l a) (hs : ∀ x ∈ l, x ∈ m) : SpanB w m a := by
 obtain ⟨x, hx, y, hy, h⟩ := h
 exact ⟨x, hs x hx, y, hs y hy, h⟩
/-! ### the samples of each bucket -/
set_option maxHeartbeats 4000000
set_option linter.unusedSimpArgs false
set_option linter.unusedVariables false
/-! ### the buckets of valid samples are valid -/
structure GoodB (k n : Int) (b : Bkt) : Prop where
 c1 : 1 ≤ b.c
 c2 : b.c ≤ n
 eq : b.ft = b.lt ↔ b.c = 1
 f1 : b.mn ≤ b.f
 f2 : b.f ≤ b.mx
 l1 : b.mn ≤ b.l
 l2 : b.l ≤ b.mx
 lo : -1099511627776 ≤ b.mn
 hi : b.mx ≤ 1099511627776
 pos : k = 2 → 0 ≤ b.mn
 s1 : b.c * b.mn ≤ b.s
 s2 : b.s ≤ b.c * b.mx
 i0 : 0 ≤ b.inc
 i1 : b.inc ≤ (b.c - 1) * 1099511627776
 ik : k ≠ 2 → b.inc = 0
 one : b.c = 1 → b.mn = b.mx
def okS (k : Int) (x : I2) : Prop := (1 ≤ x.1 ∧ x.1 ≤ 1099511627776) ∧ (-1099511627776 ≤ x.2 ∧ x.2 ≤ 1099511627776) ∧ (k = 2 → 0 ≤ x.2)
theorem GoodB.single {k w : Int} {x : I2} (h : okS k x) : GoodB k 1 (single w x) := by
 obtain ⟨_, ⟨h1, h2⟩, h3⟩ := h
 exact ⟨Int.le_refl _, Int.le_refl _, ⟨fun _ => rfl, fun _ => rfl⟩, Int.le_refl _, Int.le_refl _, Int.le_refl _, Int.le_refl _, h1, h2, h3, by show 1 * x.2 ≤ x.2; omega, by show x.2 ≤ 1 * x.2; omega,
  Int.le_refl _, by show (0 : Int) ≤ (1 - 1) * 1099511627776; omega, fun _ => rfl, fun _ => rfl⟩
theorem GoodB.more {k n m : Int} {b : Bkt} (h : GoodB k n b) (hm : n ≤ m) : GoodB k m b := { h with c2 := by have := h.c2; omega }
theorem minI_le (a b : Int) : minI a b ≤ a ∧ minI a b ≤ b ∧ (minI a b = a ∨ minI a b = b) := by unfold minI; split <;> omega
theorem le_maxI (a b : Int) : a ≤ maxI a b ∧ b ≤ maxI a b ∧ (maxI a b = a ∨ maxI a b = b) := by unfold maxI; split <;> omega
theorem GoodB.join {k w n : Int} {a : Bkt} {x : I2} (h : GoodB k n a) (hx : okS k x) (hlt : a.ft ≤ a.lt) (hl : a.lt < x.1) : GoodB k (n + 1) (joinB k a (Go.Proofs.YtedcnhbblgmdnaaGreat.Ab.single w x)) := by
 obtain ⟨_, ⟨h1, h2⟩, h3⟩ := hx
 obtain ⟨m1, m2, m3⟩ := minI_le a.mn x.2
 obtain ⟨n1, n2, n3⟩ := le_maxI a.mx x.2
 have c1 := h.c1; have c2 := h.c2; have f1 := h.f1; have f2 := h.f2; have lo := h.lo; have hi := h.hi; have l1 := h.l1; have l2 := h.l2
 have a1 := Int.mul_le_mul_of_nonneg_left m1 (show 0 ≤ a.c by omega)
 have a2 := Int.mul_le_mul_of_nonneg_left n1 (show 0 ≤ a.c by omega)
 have s1 := h.s1; have s2 := h.s2; have i0 := h.i0; have i1 := h.i1
 refine ⟨?_, ?_, ?_, ?_, ?_, ?_, ?_, ?_, ?_, ?_, ?_, ?_, ?_, ?_, ?_, ?_⟩ <;> simp only [joinB, Go.Proofs.YtedcnhbblgmdnaaGreat.Ab.single]
 ·omega
 ·omega
 ·constructor <;> intro hh <;> omega
 ·omega
 ·omega
 ·exact m2
 ·exact n2
 ·rcases m3 with e | e <;> omega
 ·rcases n3 with e | e <;> omega
 ·intro hk; have := h.pos hk; have := h3 hk; rcases m3 with e | e <;> omega
 ·rw [Int.add_mul, Int.one_mul]; omega
 ·rw [Int.add_mul, Int.one_mul]; omega
 ·split
  ·rename_i hk
   have := h3 hk
   unfold stepV; split <;> omega
  ·exact i0
 ·split
  ·rename_i hk
   have := h3 hk
   have := h.pos hk
   unfold stepV; split <;> omega
  ·omega
 ·intro hk; rw [if_neg hk]; exact h.ik hk
 ·intro hh; omega
theorem GoodB.bkA {k w : Int} {b : Bkt} (h : GoodB k 2000 b) (hk : k = 1 ∨ k = 2) (t1 : b.st < b.ft) (t2 : b.ft ≤ b.lt) (t3 : b.lt ≤ b.st + w) (t4 : b.lt ≤ 1099511627776) : bkA k w b = true := by
 have c1 := h.c1; have c2 := h.c2; have f1 := h.f1; have f2 := h.f2; have lo := h.lo; have hi := h.hi; have l1 := h.l1; have l2 := h.l2
 have s1 := h.s1; have s2 := h.s2; have i0 := h.i0; have i1 := h.i1
 have ok : ∀ v, b.mn ≤ v → v ≤ b.mx → okV k v = true := fun v v1 v2 => by
  unfold okV isVl
  have : (k == 2 && decide (v < 0)) = false := by
   rcases hk with rfl | rfl
   ·rfl
   ·have := h.pos rfl; simp; omega
  rw [this]; simp; omega
 have b1 : bkA1 w b = false := by unfold bkA1; simp; omega
 have b2 : bkA2 b = false := by
  unfold bkA2
  have : (b.ft == b.lt) = (b.c == 1) := by
   rw [Bool.eq_iff_iff]; simp [h.eq]
  rw [this]; simp; omega
 have b3 : bkA3 k b = true := by
  unfold bkA3
  rw [ok b.mn (by omega) (by omega), ok b.mx (by omega) (by omega), ok b.f (by omega) (by omega), ok b.l (by omega) (by omega)]; rfl
 have b4 : bkA4 b = false := by unfold bkA4; simp; omega
 have b5 : bkA5 b = false := by unfold bkA5; simp; omega
 have b6 : bkA6 k b = false := by
  unfold bkA6
  have : ((k == 1) && (b.inc != 0)) = false := by
   rcases hk with rfl | rfl
   ·simp [h.ik (by omega)]
   ·rfl
  rw [this]; simp; omega
 have b7 : bkA7 b = true := by
  unfold bkA7
  by_cases hc : 1 < b.c
  ·simp [hc]
  ·have hc1 : b.c = 1 := by omega
   have := h.one hc1
   rw [hc1] at s1 s2
   simp; right; omega
 unfold Go.Proofs.YtedcnhbblgmdnaaGreat.Ab.bkA
 rw [b1, b2, b3, b4, b5, b6, b7]; rfl
/-! ### the reference's examination of a bucket -/
def rfA (w : Int) (b : Bkt) : Bool := decide (b.st < 0) || decide (1099511627776 ≤ b.st) || (b.st.tmod w != 0) || decide (b.ft ≤ b.st) || decide (b.lt < b.ft) || decide (b.st + w < b.lt) || decide (1099511627776 < b.lt)
def btw (n lo hi : Int) : Bool := decide (lo ≤ n) && decide (n ≤ hi)
def rfB (b : Bkt) : Bool := !btw b.c 1 2000 || ((b.ft == b.lt) != (b.c == 1))
def rfC (k : Int) (b : Bkt) : Bool := decide (b.mn < (if k = 2 then 0 else -1099511627776)) || decide (1099511627776 < b.mx) || !btw b.f b.mn b.mx || !btw b.l b.mn b.mx
def rfD (k : Int) (b : Bkt) : Bool := !btw b.s (b.c * b.mn) (b.c * b.mx) || decide (b.inc < 0) || ((k == 1) && (b.inc != 0)) || decide ((b.c - 1) * 1099511627776 < b.inc)
def rfE (b : Bkt) : Bool := decide (1 < b.c) || ((b.mn == b.mx) && (b.inc == 0))
def rfBk (k w : Int) (b : Bkt) : Bool := !rfA w b && (!rfB b && (!rfC k b && (!rfD k b && rfE b)))
theorem okV_iff {k v : Int} (hk : k = 1 ∨ k = 2) : okV k v = true ↔ (if k = 2 then 0 else -1099511627776) ≤ v ∧ v ≤ 1099511627776 := by
 unfold okV isVl
 rcases hk with rfl | rfl
 ·simp
 ·simp
  omega
theorem rfBk_eq {k w : Int} {b : Bkt} (hk : k = 1 ∨ k = 2) : rfBk k w b = (decide (0 ≤ b.st) && (decide (b.st < 1099511627776) && ((b.st.tmod w == 0) && bkA k w b))) := by
 have eA : rfA w b = false ↔ (0 ≤ b.st ∧ b.st < 1099511627776 ∧ b.st.tmod w = 0) ∧ bkA1 w b = false := by
  unfold rfA bkA1
  simp
  omega
 have eB : rfB b = bkA2 b := by
  unfold rfB bkA2 btw
  rw [Bool.not_and, ← decide_not, ← decide_not, decide_eq_decide.2 (show ¬ 1 ≤ b.c ↔ b.c < 1 by omega), decide_eq_decide.2 (show ¬ b.c ≤ 2000 ↔ 2000 < b.c by omega)]
 rw [Bool.eq_iff_iff]
 unfold rfBk bkA
 simp only [Bool.and_eq_true, Bool.not_eq_true', decide_eq_true_eq, beq_iff_eq, eA, eB]
 have key : bkA2 b = false → ((rfC k b = false ∧ rfD k b = false ∧ rfE b = true) ↔ (bkA3 k b = true ∧ bkA4 b = false ∧ bkA5 b = false ∧ bkA6 k b = false ∧ bkA7 b = true)) := fun h2 => by
  have hc : 1 ≤ b.c ∧ b.c ≤ 2000 := by
   unfold bkA2 at h2
   simp at h2
   omega
  have e3 : bkA3 k b = true ↔ (okV k b.mn = true ∧ okV k b.mx = true ∧ okV k b.f = true ∧ okV k b.l = true) := by unfold bkA3; simp
  have e4 : bkA4 b = false ↔ (b.mn ≤ b.f ∧ b.f ≤ b.mx) ∧ (b.mn ≤ b.l ∧ b.l ≤ b.mx) := by unfold bkA4; simp; omega
  have e5 : bkA5 b = false ↔ b.c * b.mn ≤ b.s ∧ b.s ≤ b.c * b.mx := by unfold bkA5; simp
  have e6 : bkA6 k b = false ↔ (k = 1 → b.inc = 0) ∧ 0 ≤ b.inc ∧ b.inc ≤ (b.c - 1) * 1099511627776 := by unfold bkA6; simp; omega
  have eC : rfC k b = false ↔ (if k = 2 then 0 else -1099511627776) ≤ b.mn ∧ b.mx ≤ 1099511627776 ∧ (b.mn ≤ b.f ∧ b.f ≤ b.mx) ∧ (b.mn ≤ b.l ∧ b.l ≤ b.mx) := by unfold rfC btw; simp; omega
  have eD : rfD k b = false ↔ (b.c * b.mn ≤ b.s ∧ b.s ≤ b.c * b.mx) ∧ 0 ≤ b.inc ∧ (k = 1 → b.inc = 0) ∧ b.inc ≤ (b.c - 1) * 1099511627776 := by unfold rfD btw; simp; omega
  have eE : rfE b = true ↔ 1 < b.c ∨ (b.mn = b.mx ∧ b.inc = 0) := by unfold rfE; simp
  have e7 : bkA7 b = true ↔ 1 < b.c ∨ (b.s = b.mn ∧ b.mn = b.mx ∧ b.f = b.mn ∧ b.l = b.mn) := by unfold bkA7; simp; omega
  rw [e3, e4, e5, e6, e7, eC, eD, eE, okV_iff hk, okV_iff hk, okV_iff hk, okV_iff hk]
  generalize (if k = 2 then (0 : Int) else -1099511627776) = lo
  rcases Int.lt_or_eq_of_le hc.1 with h1 | h1
  ·constructor <;> intro h <;> omega
  ·rw [← h1, Int.one_mul, Int.one_mul]
   constructor <;> intro h <;> omega
 constructor
 ·rintro ⟨⟨⟨a1, a2, a3⟩, a4⟩, h2, h3⟩
  exact ⟨a1, a2, a3, a4, h2, (key h2).1 h3⟩
 ·rintro ⟨a1, a2, a3, a4, h2, h3⟩
  exact ⟨⟨⟨a1, a2, a3⟩, a4⟩, h2, (key h2).2 h3⟩
def rfBks (k w : Int) : Int → List Bkt → Bool
 | _, [] => true
 | p, b :: r => !(!rfBk k w b || decide (b.st ≤ p)) && rfBks k w b.st r
theorem rfBks_eq {k w : Int} (hk : k = 1 ∨ k = 2) : ∀ (l : List Bkt) (p : Int), -1 ≤ p → rfBks k w p l = bksOK k w p l
 | [], _, _ => rfl
 | b :: r, p, hp => by
  rw [rfBks, bksOK, rfBk_eq hk]
  by_cases h0 : 0 ≤ b.st
  ·rw [rfBks_eq hk r b.st (by omega)]
   rw [Bool.eq_iff_iff]
   simp
   constructor <;> intro h
   ·exact ⟨⟨⟨by omega, by omega⟩, by simpa using h.1.1.2.2.1⟩, h.1.1.2.2.2, h.2⟩
   ·exact ⟨⟨⟨h0, by omega, by simpa using h.1.2, h.2.1⟩, by omega⟩, h.2.2⟩
  ·have e1 : decide (0 ≤ b.st) = false := decide_eq_false h0
   have e2 : decide (b.st ≤ p) = true := decide_eq_true (by omega)
   rw [e1, e2]; rfl
/-! ### too many samples in a bucket -/
set_option maxHeartbeats 8000000
set_option maxRecDepth 10000
set_option linter.unusedSimpArgs false
set_option linter.unusedVariables false
theorem pf180 (n lo hi : Int) : Pf E0 180 [.c (.p (.int .i64 n)), .c (.p (.int .i64 lo)), .c (.p (.int .i64 hi))] (P' (.bool (btw n lo hi))) := by
 refine Pf.body (fn := Tryz.f180) (by kernel_rfl) rfl ?_; simp only [List.map_cons, List.map_nil, List.cons_append, List.nil_append, List.length_cons, List.length_nil, Tryz.ntmps180, List.replicate, Nat.reduceSub, Nat.reduceAdd]
 refine gS fun K F => ?_; simp only [go_sem]; apply F; clear F K
 refine Wc.seq ?_
 by_cases h : lo ≤ n
 ·refine gR fun K F => ?_; simp only [go_sem, h]; apply F; clear F K
  exact Wc.ret (Pf.ret [.tmp 6] [.c (.p (.bool (btw n lo hi)))] rfl rfl (by simp only [resultsD, go_sem, btw, h, Bool.true_and]) rfl)
 ·refine gR fun K F => ?_; simp only [go_sem, h]; apply F; clear F K
  exact Wc.ret (Pf.ret [.tmp 6] [.c (.p (.bool (btw n lo hi)))] rfl rfl (by simp only [resultsD, go_sem, btw, h, Bool.false_and]) rfl)
theorem pf106 (b : Bkt) (k w : Int) (hk : k = 1 ∨ k = 2) (hw : 1 ≤ w ∧ w ≤ 1099511627776) : Pf E0 106 [.c (.p (pI k)), .c (.p (pI w)), .agg (b.pd.map .p)] (P' (.bool (rfBk k w b))) := by
 generalize hR : rfBk k w b = R
 unfold rfBk at hR
 have hw0 : (w = 0) = False := by simp; omega
 refine Pf.body (fn := Tryz.f106) (by kernel_rfl) rfl ?_; simp only [List.map_cons, List.map_nil, List.cons_append, List.nil_append, List.length_cons, List.length_nil, Tryz.ntmps106, List.replicate, Nat.reduceSub, Nat.reduceAdd]
 refine gS fun K F => ?_; simp only [go_sem]; apply F; clear F K
 refine gS fun K F => ?_; simp only [go_sem]; apply F; clear F K
 have hF : True := trivial
 refine Wc.seqR (fun y => y.ds = [] ∧ Fs y.e 149 [(0, P' (pI k)), (1, P' (pI w)), (5, .v (.c (.ref 0 0))), (7, P' (pI (if k = 2 then 0 else -1099511627776)))] ∧ OA y.s.nx y.s [] [(0, .cells (b.pd.map .p) false)]) ?_ ?_
 ·refine Wc.seq ?_
  rcases hk with rfl | rfl
  ·refine gR fun K F => ?_; simp only [go_sem]; apply F; clear F K
   refine gF (by simp only [go_sem]; rfl) ?_
   exact ⟨rfl, by simp only [Fs, nZ, go_sem], by (try simp only [St.nx_put, St.nx_adv]); repeat (first | exact OA.mono s00_oa (by omega) | refine OA.newB ?_ (by omega) rfl | refine OA.advB ?_)⟩
  ·refine gR fun K F => ?_; simp only [go_sem]; apply F; clear F K
   refine gT (by simp only [go_sem]) ?_
   refine gR fun K F => ?_; simp only [go_sem]; apply F; clear F K
   exact ⟨rfl, by simp only [Fs, nZ, go_sem], by (try simp only [St.nx_put, St.nx_adv]); repeat (first | exact OA.mono s00_oa (by omega) | refine OA.newB ?_ (by omega) rfl | refine OA.advB ?_)⟩
 clear hF
 rintro ⟨e, ds, s1⟩ ⟨rfl, hF, ho⟩
 simp only [Fs] at hF ho
 generalize hlo : (if k = 2 then (0 : Int) else -1099511627776) = lo at hF
 have g0 := ho.at_ (0, .cells (b.pd.map .p) false) (by simp)
 simp only [List.map_cons, List.map_nil] at g0
 refine Wc.seqR (fun y => (rfA w b = false ∧ 0 ≤ b.st ∧ b.st < 1099511627776) ∧ y.ds = [] ∧ Fs y.e 149 [(0, P' (pI k)), (1, P' (pI w)), (5, .v (.c (.ref 0 0))), (7, P' (pI lo))] ∧ OA y.s.nx y.s [] [(0, .cells (b.pd.map .p) false)]) ?_ ?_
 ·refine Wc.seq ?_
  have bad : rfA w b = true → false = R := fun h => by rw [← hR, h]; rfl
  by_cases hst : 0 ≤ b.st ∧ b.st < 1099511627776
  ·have w1 : IntKind.i64.wrap (b.st + w) = b.st + w := by rw [wi64]; omega
   unfold rfA at bad ⊢
   rcases Bool.eq_false_or_eq_true (decide (b.st < 0)) with z1 | z1
   ·refine gR fun K F => ?_; simp only [go_sem, hF, g0, w1, hw0, z1]; apply F; clear F K
    refine gT (by simp only [go_sem, hF, g0, w1, hw0, z1]) ?_
    refine gS fun K F => ?_; simp only [go_sem, hF]; apply F; clear F K
    rw [← bad (by simp only [z1]; rfl)]
    exact Wc.ret (Pf.ret [.tmp 6] [.c (.p (.bool false))] rfl rfl (by simp only [resultsD, go_sem, hF]) rfl)
   rcases Bool.eq_false_or_eq_true (decide (1099511627776 ≤ b.st)) with z2 | z2
   ·refine gR fun K F => ?_; simp only [go_sem, hF, g0, w1, hw0, z1, z2]; apply F; clear F K
    refine gT (by simp only [go_sem, hF, g0, w1, hw0, z1, z2]) ?_
    refine gS fun K F => ?_; simp only [go_sem, hF]; apply F; clear F K
    rw [← bad (by simp only [z1, z2]; rfl)]
    exact Wc.ret (Pf.ret [.tmp 6] [.c (.p (.bool false))] rfl rfl (by simp only [resultsD, go_sem, hF]) rfl)
   rcases Bool.eq_false_or_eq_true (b.st.tmod w != 0) with z3 | z3
   ·refine gR fun K F => ?_; simp only [go_sem, hF, g0, w1, hw0, z1, z2, z3]; apply F; clear F K
    refine gT (by simp only [go_sem, hF, g0, w1, hw0, z1, z2, z3]) ?_
    refine gS fun K F => ?_; simp only [go_sem, hF]; apply F; clear F K
    rw [← bad (by simp only [z1, z2, z3]; rfl)]
    exact Wc.ret (Pf.ret [.tmp 6] [.c (.p (.bool false))] rfl rfl (by simp only [resultsD, go_sem, hF]) rfl)
   rcases Bool.eq_false_or_eq_true (decide (b.ft ≤ b.st)) with z4 | z4
   ·refine gR fun K F => ?_; simp only [go_sem, hF, g0, w1, hw0, z1, z2, z3, z4]; apply F; clear F K
    refine gT (by simp only [go_sem, hF, g0, w1, hw0, z1, z2, z3, z4]) ?_
    refine gS fun K F => ?_; simp only [go_sem, hF]; apply F; clear F K
    rw [← bad (by simp only [z1, z2, z3, z4]; rfl)]
    exact Wc.ret (Pf.ret [.tmp 6] [.c (.p (.bool false))] rfl rfl (by simp only [resultsD, go_sem, hF]) rfl)
   rcases Bool.eq_false_or_eq_true (decide (b.lt < b.ft)) with z5 | z5
   ·refine gR fun K F => ?_; simp only [go_sem, hF, g0, w1, hw0, z1, z2, z3, z4, z5]; apply F; clear F K
    refine gT (by simp only [go_sem, hF, g0, w1, hw0, z1, z2, z3, z4, z5]) ?_
    refine gS fun K F => ?_; simp only [go_sem, hF]; apply F; clear F K
    rw [← bad (by simp only [z1, z2, z3, z4, z5]; rfl)]
    exact Wc.ret (Pf.ret [.tmp 6] [.c (.p (.bool false))] rfl rfl (by simp only [resultsD, go_sem, hF]) rfl)
   rcases Bool.eq_false_or_eq_true (decide (b.st + w < b.lt)) with z6 | z6
   ·refine gR fun K F => ?_; simp only [go_sem, hF, g0, w1, hw0, z1, z2, z3, z4, z5, z6]; apply F; clear F K
    refine gT (by simp only [go_sem, hF, g0, w1, hw0, z1, z2, z3, z4, z5, z6]) ?_
    refine gS fun K F => ?_; simp only [go_sem, hF]; apply F; clear F K
    rw [← bad (by simp only [z1, z2, z3, z4, z5, z6]; rfl)]
    exact Wc.ret (Pf.ret [.tmp 6] [.c (.p (.bool false))] rfl rfl (by simp only [resultsD, go_sem, hF]) rfl)
   rcases Bool.eq_false_or_eq_true (decide (1099511627776 < b.lt)) with z7 | z7
   ·refine gR fun K F => ?_; simp only [go_sem, hF, g0, w1, hw0, z1, z2, z3, z4, z5, z6, z7]; apply F; clear F K
    refine gT (by simp only [go_sem, hF, g0, w1, hw0, z1, z2, z3, z4, z5, z6, z7]) ?_
    refine gS fun K F => ?_; simp only [go_sem, hF]; apply F; clear F K
    rw [← bad (by simp only [z1, z2, z3, z4, z5, z6, z7]; rfl)]
    exact Wc.ret (Pf.ret [.tmp 6] [.c (.p (.bool false))] rfl rfl (by simp only [resultsD, go_sem, hF]) rfl)
   refine gR fun K F => ?_; simp only [go_sem, hF, g0, w1, hw0, z1, z2, z3, z4, z5, z6, z7]; apply F; clear F K
   refine gF (by simp only [go_sem, hF, g0, w1, hw0, z1, z2, z3, z4, z5, z6, z7]) ?_
   exact ⟨⟨by simp only [z1, z2, z3, z4, z5, z6, z7]; rfl, hst⟩, rfl, by simp only [Fs, nZ, go_sem, hF], by (try simp only [St.nx_put, St.nx_adv]); repeat (first | exact OA.mono ho (by omega) | refine OA.newB ?_ (by omega) rfl | refine OA.advB ?_)⟩
  ·have hb : false = R := bad (by unfold rfA; rw [show (decide (b.st < 0) || decide (1099511627776 ≤ b.st)) = true by simp; omega]; rfl)
   rcases Bool.eq_false_or_eq_true (decide (b.st < 0)) with z1 | z1
   ·refine gR fun K F => ?_; simp only [go_sem, hF, g0, z1]; apply F; clear F K
    refine gT (by simp only [go_sem, hF, z1]) ?_
    refine gS fun K F => ?_; simp only [go_sem, hF]; apply F; clear F K
    rw [← (hb : false = R)]
    exact Wc.ret (Pf.ret [.tmp 6] [.c (.p (.bool false))] rfl rfl (by simp only [resultsD, go_sem, hF]) rfl)
   ·have z2 : decide (1099511627776 ≤ b.st) = true := by
     have := of_decide_eq_false z1
     exact decide_eq_true (by omega)
    refine gR fun K F => ?_; simp only [go_sem, hF, g0, z1, z2]; apply F; clear F K
    refine gT (by simp only [go_sem, hF, z1, z2]) ?_
    refine gS fun K F => ?_; simp only [go_sem, hF]; apply F; clear F K
    rw [← (hb : false = R)]
    exact Wc.ret (Pf.ret [.tmp 6] [.c (.p (.bool false))] rfl rfl (by simp only [resultsD, go_sem, hF]) rfl)
 clear hF ho g0 e s1
 rintro ⟨e, ds, s1⟩ ⟨⟨c1, hst⟩, rfl, hF, ho⟩
 simp only [Fs] at hF ho
 have g0 := ho.at_ (0, .cells (b.pd.map .p) false) (by simp)
 simp only [List.map_cons, List.map_nil] at g0
 rw [c1] at hR
 refine Wc.seqR (fun y => (rfB b = false ∧ 1 ≤ b.c ∧ b.c ≤ 2000) ∧ y.ds = [] ∧ Fs y.e 149 [(0, P' (pI k)), (1, P' (pI w)), (5, .v (.c (.ref 0 0))), (7, P' (pI lo))] ∧ OA y.s.nx y.s [] [(0, .cells (b.pd.map .p) false)]) ?_ ?_
 ·refine Wc.seq ?_
  have bad : rfB b = true → false = R := fun h => by rw [← hR, h]; rfl
  have p := pf180 b.c 1 2000
  cases hB : btw b.c 1 2000 with
  | false =>
   rw [hB] at p
   refine gR fun K F => ?_; simp only [go_sem, hF, g0]
   refine wpCall.pf p (by kernel_rfl) (by kernel_rfl) rfl rfl ?_
   simp only [go_sem, hF, g0]; apply F; clear F K
   refine gT (by simp only [go_sem, hF]) ?_
   refine gS fun K F => ?_; simp only [go_sem, hF]; apply F; clear F K
   rw [← ((bad (by unfold rfB; rw [hB]; rfl)) : false = R)]
   exact Wc.ret (Pf.ret [.tmp 6] [.c (.p (.bool false))] rfl rfl (by simp only [resultsD, go_sem, hF]) rfl)
  | true =>
   rw [hB] at p
   rcases Bool.eq_false_or_eq_true (!((b.ft == b.lt) == (b.c == 1))) with z | z
   ·refine gR fun K F => ?_; simp only [go_sem, hF, g0]
    refine wpCall.pf p (by kernel_rfl) (by kernel_rfl) rfl rfl ?_
    simp only [go_sem, hF, g0, z]; apply F; clear F K
    refine gT (by simp only [go_sem, hF, z]) ?_
    refine gS fun K F => ?_; simp only [go_sem, hF]; apply F; clear F K
    rw [← ((bad (by unfold rfB; rw [hB, bne_false, z]; rfl)) : false = R)]
    exact Wc.ret (Pf.ret [.tmp 6] [.c (.p (.bool false))] rfl rfl (by simp only [resultsD, go_sem, hF]) rfl)
   ·refine gR fun K F => ?_; simp only [go_sem, hF, g0]
    refine wpCall.pf p (by kernel_rfl) (by kernel_rfl) rfl rfl ?_
    simp only [go_sem, hF, g0, z]; apply F; clear F K
    refine gF (by simp only [go_sem, hF, z]) ?_
    refine ⟨⟨by unfold rfB; rw [hB, bne_false, z]; rfl, ?_⟩, rfl, by simp only [Fs, nZ, go_sem, hF], by (try simp only [St.nx_put, St.nx_adv]); repeat (first | exact OA.mono ho (by omega) | refine OA.newB ?_ (by omega) rfl | refine OA.advB ?_)⟩
    simp only [btw, Bool.and_eq_true, decide_eq_true_eq] at hB
    exact hB
 clear hF ho g0 e s1
 rintro ⟨e, ds, s1⟩ ⟨⟨c2, hc⟩, rfl, hF, ho⟩
 simp only [Fs] at hF ho
 have g0 := ho.at_ (0, .cells (b.pd.map .p) false) (by simp)
 simp only [List.map_cons, List.map_nil] at g0
 rw [c2] at hR
 refine Wc.seqR (fun y => rfC k b = false ∧ y.ds = [] ∧ Fs y.e 149 [(0, P' (pI k)), (1, P' (pI w)), (5, .v (.c (.ref 0 0))), (7, P' (pI lo))] ∧ OA y.s.nx y.s [] [(0, .cells (b.pd.map .p) false)]) ?_ ?_
 ·refine Wc.seq ?_
  have bad : rfC k b = true → false = R := fun h => by rw [← hR, h]; rfl
  unfold rfC at bad ⊢
  rw [hlo] at bad ⊢
  have p := pf180 b.f b.mn b.mx
  have q := pf180 b.l b.mn b.mx
  rcases Bool.eq_false_or_eq_true (decide (b.mn < lo)) with z1 | z1
  ·refine gR fun K F => ?_; simp only [go_sem, hF, g0, z1]; apply F; clear F K
   refine gT (by simp only [go_sem, hF, z1]) ?_
   refine gS fun K F => ?_; simp only [go_sem, hF]; apply F; clear F K
   rw [← ((bad (by rw [z1]; rfl)) : false = R)]
   exact Wc.ret (Pf.ret [.tmp 6] [.c (.p (.bool false))] rfl rfl (by simp only [resultsD, go_sem, hF]) rfl)
  rcases Bool.eq_false_or_eq_true (decide (1099511627776 < b.mx)) with z2 | z2
  ·refine gR fun K F => ?_; simp only [go_sem, hF, g0, z1, z2]; apply F; clear F K
   refine gT (by simp only [go_sem, hF, z1, z2]) ?_
   refine gS fun K F => ?_; simp only [go_sem, hF]; apply F; clear F K
   rw [← ((bad (by rw [z1, z2]; rfl)) : false = R)]
   exact Wc.ret (Pf.ret [.tmp 6] [.c (.p (.bool false))] rfl rfl (by simp only [resultsD, go_sem, hF]) rfl)
  cases hP : btw b.f b.mn b.mx with
  | false =>
   rw [hP] at p
   refine gR fun K F => ?_; simp only [go_sem, hF, g0, z1, z2]
   refine wpCall.pf p (by kernel_rfl) (by kernel_rfl) rfl rfl ?_
   simp only [go_sem, hF, g0, z1, z2]; apply F; clear F K
   refine gT (by simp only [go_sem, hF]) ?_
   refine gS fun K F => ?_; simp only [go_sem, hF]; apply F; clear F K
   rw [← ((bad (by rw [z1, z2, hP]; rfl)) : false = R)]
   exact Wc.ret (Pf.ret [.tmp 6] [.c (.p (.bool false))] rfl rfl (by simp only [resultsD, go_sem, hF]) rfl)
  | true =>
   rw [hP] at p
   cases hQ : btw b.l b.mn b.mx with
   | false =>
    rw [hQ] at q
    refine gR fun K F => ?_; simp only [go_sem, hF, g0, z1, z2]
    refine wpCall.pf p (by kernel_rfl) (by kernel_rfl) rfl rfl ?_
    simp only [go_sem, hF, g0, z1, z2]
    refine wpCall.pf q (by kernel_rfl) (by kernel_rfl) rfl rfl ?_
    simp only [go_sem, hF, g0, z1, z2]; apply F; clear F K
    refine gT (by simp only [go_sem, hF]) ?_
    refine gS fun K F => ?_; simp only [go_sem, hF]; apply F; clear F K
    rw [← ((bad (by rw [z1, z2, hP, hQ]; rfl)) : false = R)]
    exact Wc.ret (Pf.ret [.tmp 6] [.c (.p (.bool false))] rfl rfl (by simp only [resultsD, go_sem, hF]) rfl)
   | true =>
    rw [hQ] at q
    refine gR fun K F => ?_; simp only [go_sem, hF, g0, z1, z2]
    refine wpCall.pf p (by kernel_rfl) (by kernel_rfl) rfl rfl ?_
    simp only [go_sem, hF, g0, z1, z2]
    refine wpCall.pf q (by kernel_rfl) (by kernel_rfl) rfl rfl ?_
    simp only [go_sem, hF, g0, z1, z2]; apply F; clear F K
    refine gF (by simp only [go_sem, hF]) ?_
    exact ⟨by rw [z1, z2]; rfl, rfl, by simp only [Fs, nZ, go_sem, hF], by (try simp only [St.nx_put, St.nx_adv]); repeat (first | exact OA.mono ho (by omega) | refine OA.newB ?_ (by omega) rfl | refine OA.advB ?_)⟩
 clear hF ho g0 e s1
 rintro ⟨e, ds, s1⟩ ⟨c3, rfl, hF, ho⟩
 simp only [Fs] at hF ho
 have g0 := ho.at_ (0, .cells (b.pd.map .p) false) (by simp)
 simp only [List.map_cons, List.map_nil] at g0
 rw [c3] at hR
 have hv : (-1099511627776 ≤ b.mn ∧ b.mn ≤ 1099511627776) ∧ (-1099511627776 ≤ b.mx ∧ b.mx ≤ 1099511627776) := by
  unfold rfC btw at c3
  rw [hlo] at c3
  simp at c3
  have : -1099511627776 ≤ lo := by rw [← hlo]; split <;> omega
  omega
 obtain ⟨m1, m2⟩ := mulB hc.1 hc.2 hv.1.1 hv.1.2
 obtain ⟨m3, m4⟩ := mulB hc.1 hc.2 hv.2.1 hv.2.2
 have w2 : IntKind.i64.wrap (b.c * b.mn) = b.c * b.mn := by rw [wi64]; omega
 have w3 : IntKind.i64.wrap (b.c * b.mx) = b.c * b.mx := by rw [wi64]; omega
 have w4 : IntKind.i64.wrap (IntKind.i64.wrap (b.c - 1) * 1099511627776) = (b.c - 1) * 1099511627776 := by rw [wi64, wi64]; omega
 refine Wc.seqR (fun y => rfD k b = false ∧ y.ds = [] ∧ Fs y.e 149 [(0, P' (pI k)), (1, P' (pI w)), (5, .v (.c (.ref 0 0))), (7, P' (pI lo))] ∧ OA y.s.nx y.s [] [(0, .cells (b.pd.map .p) false)]) ?_ ?_
 ·refine Wc.seq ?_
  have bad : rfD k b = true → false = R := fun h => by rw [← hR, h]; rfl
  unfold rfD at bad ⊢
  have p := pf180 b.s (b.c * b.mn) (b.c * b.mx)
  cases hP : btw b.s (b.c * b.mn) (b.c * b.mx) with
  | false =>
   rw [hP] at p
   refine gR fun K F => ?_; simp only [go_sem, hF, g0, w2, w3]
   refine wpCall.pf p (by kernel_rfl) (by kernel_rfl) rfl rfl ?_
   simp only [go_sem, hF, g0]; apply F; clear F K
   refine gT (by simp only [go_sem, hF]) ?_
   refine gS fun K F => ?_; simp only [go_sem, hF]; apply F; clear F K
   rw [← ((bad (by rw [hP]; rfl)) : false = R)]
   exact Wc.ret (Pf.ret [.tmp 6] [.c (.p (.bool false))] rfl rfl (by simp only [resultsD, go_sem, hF]) rfl)
  | true =>
   rw [hP] at p
   obtain ⟨c, hcE⟩ : ∃ c, (decide (b.inc < 0) || ((k == 1) && (b.inc != 0)) || decide ((b.c - 1) * 1099511627776 < b.inc)) = c := ⟨_, rfl⟩
   have h3 : (!true || decide (b.inc < 0) || ((k == 1) && (b.inc != 0)) || decide ((b.c - 1) * 1099511627776 < b.inc)) = c := by rw [← hcE]; rfl
   rw [hP, h3] at bad
   rw [h3]
   rcases Bool.eq_false_or_eq_true (decide (b.inc < 0)) with z1 | z1 <;> rcases Bool.eq_false_or_eq_true (k == 1) with z2 | z2 <;> rcases Bool.eq_false_or_eq_true (b.inc != 0) with z3 | z3 <;> rcases Bool.eq_false_or_eq_true (decide ((b.c - 1) * 1099511627776 < b.inc)) with z4 | z4 <;> rw [z1, z2, z3, z4] at hcE <;> subst hcE <;>
   (refine gR fun K F => ?_; simp only [go_sem, hF, g0, w2, w3, z1, z2, z3, w4, z4] ; refine wpCall.pf p (by kernel_rfl) (by kernel_rfl) rfl rfl ?_ ; simp only [go_sem, hF, g0, z1, z2, z3, w4, z4]; apply F; clear F K) <;>
   first
   | (refine gT (by simp only [go_sem, hF, z1, z2, z3, z4]) ?_
      refine gS fun K F => ?_; simp only [go_sem, hF]; apply F; clear F K
      rw [← ((bad rfl) : false = R)]
      exact Wc.ret (Pf.ret [.tmp 6] [.c (.p (.bool false))] rfl rfl (by simp only [resultsD, go_sem, hF]) rfl))
   | (refine gF (by simp only [go_sem, hF, z1, z2, z3, z4]) ?_
      exact ⟨rfl, rfl, by simp only [Fs, nZ, go_sem, hF], by (try simp only [St.nx_put, St.nx_adv]); repeat (first | exact OA.mono ho (by omega) | refine OA.newB ?_ (by omega) rfl | refine OA.advB ?_)⟩)
 clear hF ho g0 e s1
 rintro ⟨e, ds, s1⟩ ⟨c4, rfl, hF, ho⟩
 simp only [Fs] at hF ho
 have g0 := ho.at_ (0, .cells (b.pd.map .p) false) (by simp)
 simp only [List.map_cons, List.map_nil] at g0
 rw [c4] at hR
 subst hR
 refine Wc.seq ?_
 have fin : ∀ (e : List D) (s : St), e.getD 6 .junk = P' (.bool (rfE b)) → Wc E0 none .ret { e := e, ds := [], s := s } (bodyQ E0 Tryz.f106 fun d0 s2 => ∃ s3, purD s2 d0 = some (P' (.bool (rfE b)), s3)) := fun e s h =>
  Wc.ret (Pf.ret [.tmp 6] [.c (.p (.bool (rfE b)))] rfl rfl (by simp only [resultsD, go_sem, h]) rfl)
 cases z1 : decide (1 < b.c) with
 | true =>
  refine gR fun K F => ?_; simp only [go_sem, hF, g0, z1]; apply F; clear F K
  exact fin _ _ (by simp only [go_sem, hF, rfE, z1, Bool.true_or])
 | false =>
  cases z2 : b.mn == b.mx with
  | true =>
   refine gR fun K F => ?_; simp only [go_sem, hF, g0, z1, z2]; apply F; clear F K
   exact fin _ _ (by simp only [go_sem, hF, rfE, z1, z2, Bool.true_and, Bool.false_or])
  | false =>
   refine gR fun K F => ?_; simp only [go_sem, hF, g0, z1, z2]; apply F; clear F K
   exact fin _ _ (by simp only [go_sem, hF, rfE, z1, z2, Bool.false_and, Bool.false_or])
theorem o106 : E0.opn 106 = false := by kernel_rfl
theorem x106 : E0.xt 106 = none := by kernel_rfl
theorem rfBks_step {k w : Int} {l : List Bkt} {i : Nat} {b : Bkt} (h : l[i]? = some b) : rfBks k w (prevS l i) (l.drop i) = (!(!rfBk k w b || decide (b.st ≤ prevS l i)) && rfBks k w (prevS l (i + 1)) (l.drop (i + 1))) := by
 have hi := (List.getElem?_eq_some_iff.1 h).1
 have hx := (List.getElem?_eq_some_iff.1 h).2
 have hp : prevS l (i + 1) = b.st := by simp [prevS, h]
 rw [List.drop_eq_getElem_cons hi, hx, hp]
 rfl
theorem pf54 (x : Rlp) (hlb : x.lb.length < 2^40) (hls : ∀ y ∈ x.lb, y.1.length < 2^50 ∧ y.2.length < 2^50) : Pf E0 54 [.agg (x.pd.map .p)] (P' (.bool (rlpOK x))) := by
 have hfl : (x.bs.flatMap Bkt.pd).length = x.bs.length * 10 := flat_len (k := 10) (fun _ => rfl) _
 have hR : (!(((lckA x.lb != 0) || ((x.k != 1) && (x.k != 2))) || (decide (x.w < 1) || decide (1099511627776 < x.w) || ((x.bs.length : Int) == 0) || decide ((2000 : Int) < x.bs.length))) && bksOK x.k x.w (-1) x.bs) = rlpOK x := by unfold rlpOK; rw [Bool.not_or, Bool.and_assoc]
 generalize rlpOK x = R at hR ⊢
 refine Pf.body (fn := Tryz.f54) (by kernel_rfl) rfl ?_; simp only [List.map_cons, List.map_nil, List.cons_append, List.nil_append, List.length_cons, List.length_nil, Tryz.ntmps54, List.replicate, Nat.reduceSub, Nat.reduceAdd]
 refine gS fun K F => ?_; simp only [go_sem]; apply F; clear F K
 refine Wc.seqR (fun y => ((((lckA x.lb != 0) || ((x.k != 1) && (x.k != 2))) || (decide (x.w < 1) || decide (1099511627776 < x.w) || ((x.bs.length : Int) == 0) || decide ((2000 : Int) < x.bs.length))) = false ∧ (x.k = 1 ∨ x.k = 2) ∧ (1 ≤ x.w ∧ x.w ≤ 1099511627776) ∧ x.bs.length ≤ 2000) ∧ y.ds = [] ∧ Fs y.e 78 [(1, .v (.c (.ref 0 0)))] ∧ OA y.s.nx y.s [] [(0, .cells (x.pd.map .p) false)]) ?_ ?_
 ·refine Wc.seq ?_
  have bad : (((lckA x.lb != 0) || ((x.k != 1) && (x.k != 2))) || (decide (x.w < 1) || decide (1099511627776 < x.w) || ((x.bs.length : Int) == 0) || decide ((2000 : Int) < x.bs.length))) = true → false = R := fun h => by rw [← hR, h]; rfl
  have p := pf92 x.lb hlb hls
  rcases Bool.eq_false_or_eq_true (lckA x.lb != 0) with z1 | z1
  ·refine gR fun K F => ?_; simp only [go_sem]
   refine wpCall.pf p (by kernel_rfl) (by kernel_rfl) rfl rfl ?_
   simp only [go_sem, z1]; apply F; clear F K
   refine gT (by simp only [go_sem, z1]) ?_
   refine gS fun K F => ?_; simp only [go_sem]; apply F; clear F K
   rw [← bad (by simp only [z1]; rfl)]
   exact Wc.ret (Pf.ret [.tmp 2] [.c (.p (.bool false))] rfl rfl (by simp only [resultsD, go_sem]) rfl)
  rcases Bool.eq_false_or_eq_true (x.k != 1) with z2 | z2
  ·rcases Bool.eq_false_or_eq_true (x.k != 2) with z3 | z3
   ·refine gR fun K F => ?_; simp only [go_sem]
    refine wpCall.pf p (by kernel_rfl) (by kernel_rfl) rfl rfl ?_
    simp only [go_sem, z1, z2, z3]; apply F; clear F K
    refine gT (by simp only [go_sem, z1, z2, z3]) ?_
    refine gS fun K F => ?_; simp only [go_sem]; apply F; clear F K
    rw [← bad (by simp only [z1, z2, z3]; rfl)]
    exact Wc.ret (Pf.ret [.tmp 2] [.c (.p (.bool false))] rfl rfl (by simp only [resultsD, go_sem]) rfl)
   rcases Bool.eq_false_or_eq_true (decide (x.w < 1)) with w1 | w1
   ·refine gR fun K F => ?_; simp only [go_sem]
    refine wpCall.pf p (by kernel_rfl) (by kernel_rfl) rfl rfl ?_
    simp only [go_sem, z1, z2, z3, w1]; apply F; clear F K
    refine gT (by simp only [go_sem, z1, z2, z3, w1]) ?_
    refine gS fun K F => ?_; simp only [go_sem]; apply F; clear F K
    rw [← bad (by simp only [z1, z2, z3, w1]; rfl)]
    exact Wc.ret (Pf.ret [.tmp 2] [.c (.p (.bool false))] rfl rfl (by simp only [resultsD, go_sem]) rfl)
   rcases Bool.eq_false_or_eq_true (decide (1099511627776 < x.w)) with w2 | w2
   ·refine gR fun K F => ?_; simp only [go_sem]
    refine wpCall.pf p (by kernel_rfl) (by kernel_rfl) rfl rfl ?_
    simp only [go_sem, z1, z2, z3, w1, w2]; apply F; clear F K
    refine gT (by simp only [go_sem, z1, z2, z3, w1, w2]) ?_
    refine gS fun K F => ?_; simp only [go_sem]; apply F; clear F K
    rw [← bad (by simp only [z1, z2, z3, w1, w2]; rfl)]
    exact Wc.ret (Pf.ret [.tmp 2] [.c (.p (.bool false))] rfl rfl (by simp only [resultsD, go_sem]) rfl)
   rcases Bool.eq_false_or_eq_true ((x.bs.length : Int) == 0) with w3 | w3
   ·refine gR fun K F => ?_; simp only [go_sem]
    refine wpCall.pf p (by kernel_rfl) (by kernel_rfl) rfl rfl ?_
    simp only [go_sem, z1, z2, z3, w1, w2, w3]; apply F; clear F K
    refine gT (by simp only [go_sem, z1, z2, z3, w1, w2, w3]) ?_
    refine gS fun K F => ?_; simp only [go_sem]; apply F; clear F K
    rw [← bad (by simp only [z1, z2, z3, w1, w2, w3]; rfl)]
    exact Wc.ret (Pf.ret [.tmp 2] [.c (.p (.bool false))] rfl rfl (by simp only [resultsD, go_sem]) rfl)
   rcases Bool.eq_false_or_eq_true (decide ((2000 : Int) < x.bs.length)) with w4 | w4
   ·refine gR fun K F => ?_; simp only [go_sem]
    refine wpCall.pf p (by kernel_rfl) (by kernel_rfl) rfl rfl ?_
    simp only [go_sem, z1, z2, z3, w1, w2, w3, w4]; apply F; clear F K
    refine gT (by simp only [go_sem, z1, z2, z3, w1, w2, w3, w4]) ?_
    refine gS fun K F => ?_; simp only [go_sem]; apply F; clear F K
    rw [← bad (by simp only [z1, z2, z3, w1, w2, w3, w4]; rfl)]
    exact Wc.ret (Pf.ret [.tmp 2] [.c (.p (.bool false))] rfl rfl (by simp only [resultsD, go_sem]) rfl)
   refine gR fun K F => ?_; simp only [go_sem]
   refine wpCall.pf p (by kernel_rfl) (by kernel_rfl) rfl rfl ?_
   simp only [go_sem, z1, z2, z3, w1, w2, w3, w4]; apply F; clear F K
   refine gF (by simp only [go_sem, z1, z2, z3, w1, w2, w3, w4]) ?_
   exact ⟨⟨by simp only [z1, z2, z3, w1, w2, w3, w4]; rfl, .inr (by simpa using z3), ⟨by have := of_decide_eq_false w1; omega, by have := of_decide_eq_false w2; omega⟩, by have := of_decide_eq_false w4; omega⟩, rfl, by simp only [Fs, nZ, go_sem], by (try simp only [St.nx_put, St.nx_adv]); repeat (first | exact OA.mono s00_oa (by omega) | refine OA.newB ?_ (by omega) rfl | refine OA.advB ?_)⟩
  ·rcases Bool.eq_false_or_eq_true (decide (x.w < 1)) with w1 | w1
   ·refine gR fun K F => ?_; simp only [go_sem]
    refine wpCall.pf p (by kernel_rfl) (by kernel_rfl) rfl rfl ?_
    simp only [go_sem, z1, z2, w1]; apply F; clear F K
    refine gT (by simp only [go_sem, z1, z2, w1]) ?_
    refine gS fun K F => ?_; simp only [go_sem]; apply F; clear F K
    rw [← bad (by simp only [z1, z2, w1]; rfl)]
    exact Wc.ret (Pf.ret [.tmp 2] [.c (.p (.bool false))] rfl rfl (by simp only [resultsD, go_sem]) rfl)
   rcases Bool.eq_false_or_eq_true (decide (1099511627776 < x.w)) with w2 | w2
   ·refine gR fun K F => ?_; simp only [go_sem]
    refine wpCall.pf p (by kernel_rfl) (by kernel_rfl) rfl rfl ?_
    simp only [go_sem, z1, z2, w1, w2]; apply F; clear F K
    refine gT (by simp only [go_sem, z1, z2, w1, w2]) ?_
    refine gS fun K F => ?_; simp only [go_sem]; apply F; clear F K
    rw [← bad (by simp only [z1, z2, w1, w2]; rfl)]
    exact Wc.ret (Pf.ret [.tmp 2] [.c (.p (.bool false))] rfl rfl (by simp only [resultsD, go_sem]) rfl)
   rcases Bool.eq_false_or_eq_true ((x.bs.length : Int) == 0) with w3 | w3
   ·refine gR fun K F => ?_; simp only [go_sem]
    refine wpCall.pf p (by kernel_rfl) (by kernel_rfl) rfl rfl ?_
    simp only [go_sem, z1, z2, w1, w2, w3]; apply F; clear F K
    refine gT (by simp only [go_sem, z1, z2, w1, w2, w3]) ?_
    refine gS fun K F => ?_; simp only [go_sem]; apply F; clear F K
    rw [← bad (by simp only [z1, z2, w1, w2, w3]; rfl)]
    exact Wc.ret (Pf.ret [.tmp 2] [.c (.p (.bool false))] rfl rfl (by simp only [resultsD, go_sem]) rfl)
   rcases Bool.eq_false_or_eq_true (decide ((2000 : Int) < x.bs.length)) with w4 | w4
   ·refine gR fun K F => ?_; simp only [go_sem]
    refine wpCall.pf p (by kernel_rfl) (by kernel_rfl) rfl rfl ?_
    simp only [go_sem, z1, z2, w1, w2, w3, w4]; apply F; clear F K
    refine gT (by simp only [go_sem, z1, z2, w1, w2, w3, w4]) ?_
    refine gS fun K F => ?_; simp only [go_sem]; apply F; clear F K
    rw [← bad (by simp only [z1, z2, w1, w2, w3, w4]; rfl)]
    exact Wc.ret (Pf.ret [.tmp 2] [.c (.p (.bool false))] rfl rfl (by simp only [resultsD, go_sem]) rfl)
   refine gR fun K F => ?_; simp only [go_sem]
   refine wpCall.pf p (by kernel_rfl) (by kernel_rfl) rfl rfl ?_
   simp only [go_sem, z1, z2, w1, w2, w3, w4]; apply F; clear F K
   refine gF (by simp only [go_sem, z1, z2, w1, w2, w3, w4]) ?_
   exact ⟨⟨by simp only [z1, z2, w1, w2, w3, w4]; rfl, .inl (by simpa using z2), ⟨by have := of_decide_eq_false w1; omega, by have := of_decide_eq_false w2; omega⟩, by have := of_decide_eq_false w4; omega⟩, rfl, by simp only [Fs, nZ, go_sem], by (try simp only [St.nx_put, St.nx_adv]); repeat (first | exact OA.mono s00_oa (by omega) | refine OA.newB ?_ (by omega) rfl | refine OA.advB ?_)⟩
 rintro ⟨e, ds, s1⟩ ⟨⟨c1, hk, hw, hbl⟩, rfl, hF, ho⟩
 simp only [Fs] at hF ho
 rw [c1, ← rfBks_eq hk x.bs (-1) (by omega)] at hR
 have hR0 : rfBks x.k x.w (prevS x.bs 0) (x.bs.drop 0) = R := by rw [← hR]; rfl
 clear hR
 refine Wc.seqR (fun y => R = true ∧ y.ds = [] ∧ Fs y.e 78 []) ?_ ?_
 ·refine gS fun K F => ?_; simp only [go_sem, hF]; apply F; clear F K
  refine Wc.block (Wc.loop (fun c y => ∃ i : Nat, c = x.bs.length - i ∧ i ≤ x.bs.length ∧ y.ds = [] ∧ Fs y.e 78 [(1, .v (.c (.ref 0 0))), (3, P' (pI i))] ∧ OA y.s.nx y.s [] [(0, .cells (x.pd.map .p) false)] ∧ rfBks x.k x.w (prevS x.bs i) (x.bs.drop i) = R) ?_ (k := x.bs.length) ?_)
  ·clear hF ho hR0 e s1
   rintro c ⟨e, ds, s1⟩ ⟨i, rfl, hi, rfl, hF, ho, hRi⟩
   simp only [Fs] at hF ho
   have g0 := ho.at_ (0, .cells (x.pd.map .p) false) (by simp)
   simp only [List.map_cons, List.map_nil] at g0
   refine Wc.seq (Wc.seq ?_)
   refine gR fun K F => ?_; simp only [go_sem, hF, g0]; apply F; clear F K
   refine Wc.cond (t := decide ((i : Int) < x.bs.length)) (by simp only [go_sem, hF]) (fun hc => ?_) (fun hc => ?_)
   ·have hil : i < x.bs.length := by have := of_decide_eq_true hc; omega
    obtain ⟨b, hb⟩ : ∃ b, x.bs[i]? = some b := ⟨x.bs[i], List.getElem?_eq_getElem hil⟩
    have hix := ixA ti29 rfl ti41 (j := i) (m := x.bs.length) (cs := x.bs.flatMap Bkt.pd) hil hfl (by decide)
    have hca := rpA (off := i * 10) (drop_flat (f := Bkt.pd) (k := 10) (fun _ => rfl) hb) (by rw [hfl]; omega)
    rw [rfBks_step hb] at hRi
    have p := pf106 b x.k x.w hk hw
    refine Wc.skip (Wc.seqR (fun y => (!rfBk x.k x.w b || decide (b.st ≤ prevS x.bs i)) = false ∧ y.ds = [] ∧ Fs y.e 78 [(1, .v (.c (.ref 0 0))), (3, P' (pI i))] ∧ OA y.s.nx y.s [] [(0, .cells (x.pd.map .p) false)]) ?_ ?_)
    ·refine Wc.block (Wc.seq ?_)
     cases hB : rfBk x.k x.w b with
     | false =>
      rw [hB] at p
      refine Wc.regD fun K F => ?_; simp only [go_sem, hF, g0, hix, hca]
      refine ⟨by simp [o106, x106, plainD, plainV, plainC], ?_⟩
      refine wpCall.pf p (by kernel_rfl) (by kernel_rfl) rfl rfl ?_
      simp only [go_sem, hF, g0, hix, hca]; apply F; clear F K
      refine gT (by simp only [go_sem, hF]) ?_
      refine gS fun K F => ?_; simp only [go_sem, hF]; apply F; clear F K
      rw [← hRi, hB]
      exact Wc.ret (Pf.ret [.tmp 2] [.c (.p (.bool false))] rfl rfl (by simp only [resultsD, go_sem, hF]) rfl)
     | true =>
      rw [hB] at p
      by_cases hi0 : 0 < i
      ·obtain ⟨a, ha⟩ : ∃ a, x.bs[i - 1]? = some a := ⟨x.bs[i - 1], List.getElem?_eq_getElem (by omega)⟩
       have hiy := ixA ti29 rfl ti41 (j := i - 1) (m := x.bs.length) (cs := x.bs.flatMap Bkt.pd) (by omega) hfl (by decide)
       have hcb := rpA (off := (i - 1) * 10) (drop_flat (f := Bkt.pd) (k := 10) (fun _ => rfl) ha) (by rw [hfl]; omega)
       have e1 : IntKind.i64.wrap ((i : Int) - 1) = ((i - 1 : Nat) : Int) := by rw [wi64]; omega
       have hd : (0 < (i : Int)) = True := by simp; omega
       have hpr : prevS x.bs i = a.st := by unfold prevS; rw [if_neg (by omega), ha]; rfl
       rw [hpr] at hRi ⊢
       refine Wc.regD fun K F => ?_; simp only [go_sem, hF, g0, hix, hca, hiy, hcb, e1, hd]
       refine ⟨by simp [o106, x106, plainD, plainV, plainC], ?_⟩
       refine wpCall.pf p (by kernel_rfl) (by kernel_rfl) rfl rfl ?_
       simp only [go_sem, hF, g0, hix, hca, hiy, hcb, e1, hd]; apply F; clear F K
       refine Wc.cond (t := decide (b.st ≤ a.st)) (by simp only [go_sem, hF]) (fun hc => ?_) (fun hc => ?_)
       ·refine gS fun K F => ?_; simp only [go_sem, hF]; apply F; clear F K
        rw [← hRi, hc, hB]
        exact Wc.ret (Pf.ret [.tmp 2] [.c (.p (.bool false))] rfl rfl (by simp only [resultsD, go_sem, hF]) rfl)
       ·exact Wc.skip ⟨by rw [hc]; rfl, rfl, by simp only [Fs, nZ, go_sem, hF], by (try simp only [St.nx_put, St.nx_adv]); repeat (first | exact OA.mono ho (by omega) | refine OA.newB ?_ (by omega) rfl | refine OA.advB ?_)⟩
      ·have hd : (0 < (i : Int)) = False := by simp; omega
       have hz : i = 0 := by omega
       have hs : 0 ≤ b.st := by
        rw [rfBk_eq hk] at hB
        simp only [Bool.and_eq_true, decide_eq_true_eq] at hB
        exact hB.1
       have hp : decide (b.st ≤ prevS x.bs i) = false := by subst hz; rw [show prevS x.bs 0 = -1 from rfl]; exact decide_eq_false (by omega)
       refine Wc.regD fun K F => ?_; simp only [go_sem, hF, g0, hix, hca, hd]
       refine ⟨by simp [o106, x106, plainD, plainV, plainC], ?_⟩
       refine wpCall.pf p (by kernel_rfl) (by kernel_rfl) rfl rfl ?_
       simp only [go_sem, hF, g0, hix, hca, hd]; apply F; clear F K
       refine gF (by simp only [go_sem, hF]) ?_
       exact ⟨by rw [hp]; rfl, rfl, by simp only [Fs, nZ, go_sem, hF], by (try simp only [St.nx_put, St.nx_adv]); repeat (first | exact OA.mono ho (by omega) | refine OA.newB ?_ (by omega) rfl | refine OA.advB ?_)⟩
    clear hF ho g0 e s1
    rintro ⟨e, ds, s1⟩ ⟨c3, rfl, hF, ho⟩
    simp only [Fs] at hF ho
    rw [c3] at hRi
    refine gR fun K F => ?_; simp only [go_sem, hF, i64n i (by omega)]; apply F; clear F K
    exact ⟨x.bs.length - (i + 1), by omega, i + 1, rfl, by omega, rfl, by simp only [Fs, nZ, go_sem, hF], by (try simp only [St.nx_put, St.nx_adv]); repeat (first | exact OA.mono ho (by omega) | refine OA.newB ?_ (by omega) rfl | refine OA.advB ?_), hRi⟩
   ·have hil : i = x.bs.length := by have := of_decide_eq_false hc; omega
    subst hil
    rw [List.drop_length] at hRi
    exact Wc.exit ⟨hRi.symm, rfl, by simp only [Fs, nZ, go_sem, hF]⟩
  ·exact ⟨0, rfl, by omega, rfl, by simp only [Fs, nZ, go_sem, hF], by (try simp only [St.nx_put, St.nx_adv]); repeat (first | exact OA.mono ho (by omega) | refine OA.newB ?_ (by omega) rfl | refine OA.advB ?_), hR0⟩
 clear hF ho e s1
 rintro ⟨e, ds, s1⟩ ⟨hRt, rfl, hF⟩
 simp only [Fs] at hF
 subst hRt
 refine gS fun K F => ?_; simp only [go_sem, hF]; apply F; clear F K
 exact Wc.ret (Pf.ret [.tmp 2] [.c (.p (.bool true))] rfl rfl (by simp only [resultsD, go_sem, hF]) rfl)
end Go.Proofs.YtedcnhbblgmdnaaGreat.Ab
