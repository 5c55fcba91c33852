/- A part of the proof: an evaluator of the code, its contracts, the law. No condition. -/
import Derived.Test.YtedcnhbblgmdnaaGreatT17
import Derived.Test.YtedcnhbblgmdnaaGreatT20
namespace Go.Proofs.YtedcnhbblgmdnaaGreat.Ab
set_option maxHeartbeats 4000000
set_option linter.unusedSimpArgs false
set_option linter.unusedVariables false
/-! ### coarser buckets -/
def grpB (k : Int) (l : List Bkt) : List Bkt := l.foldl (appB k) []
def reB (g : Int → Int) (b : Bkt) : Bkt := { b with st := g b.st }
def coarB (k w : Int) (l : List Bkt) : List Bkt := grpB k (l.map (reB fun s => s.tdiv w * w))
end Go.Proofs.YtedcnhbblgmdnaaGreat.Ab
namespace Go.Proofs.YtedcnhbblgmdnaaGreat.Ab
set_option maxHeartbeats 4000000
set_option linter.unusedSimpArgs false
set_option linter.unusedVariables false
/-! ### merged buckets -/
/-- Two buckets of the same start. -/
def meetB (k : Int) (a b : Bkt) : Option Bkt := if b.lt < a.ft then some (joinB k b a) else if a.lt < b.ft then some (joinB k a b) else none
def mergeB (k : Int) : List Bkt → List Bkt → Option (List Bkt)
  | [], y => some y
  | a :: x, [] => some (a :: x)
  | a :: x, b :: y => if a.st < b.st then (mergeB k x (b :: y)).map (a :: ·) else if b.st < a.st then (mergeB k (a :: x) y).map (b :: ·) else match meetB k a b with
    | none => none
    | some c => (mergeB k x y).map (c :: ·)
termination_by x y => x.length + y.length
def putB (k : Int) : List Bkt → Bkt → Option (List Bkt)
  | [], b => some [b]
  | c :: l, b => if c.st < b.st then (putB k l b).map (c :: ·) else if c.st ≠ b.st then some (b :: c :: l) else if c.lt < b.ft then some (joinB k c b :: l) else if b.lt < c.ft then some (joinB k b c :: l) else none
def putsB (k : Int) : List Bkt → List Bkt → Option (List Bkt)
  | x, [] => some x
  | x, b :: y => match putB k x b with
    | none => none
    | some z => putsB k z y
def AscB (l : List Bkt) : Prop := l.Pairwise (fun a b => a.st < b.st)
def OrdB (l : List Bkt) : Prop := ∀ b ∈ l, b.ft ≤ b.lt
end Go.Proofs.YtedcnhbblgmdnaaGreat.Ab
namespace Go.Proofs.YtedcnhbblgmdnaaGreat.Ab
set_option maxHeartbeats 4000000
set_option linter.unusedSimpArgs false
set_option linter.unusedVariables false
/-! ### the buckets of samples: their order -/
/-- A bucket of samples begins with one of them and ends with one. -/
def SpanB (w : Int) (l : List I2) (a : Bkt) : Prop := ∃ x ∈ l, ∃ y ∈ l, a.ft = x.1 ∧ a.lt = y.1 ∧ x.1 ≤ y.1 ∧ a.st = startOf w x.1 ∧ a.st = startOf w y.1
theorem SpanB.more {w : Int} {l m : List I2} {a : Bkt} (h : SpanB w l a) (hs : ∀ x ∈ l, x ∈ m) : SpanB w m a := by
  obtain ⟨x, hx, y, hy, h⟩ := h
  exact ⟨x, hs x hx, y, hs y hy, h⟩
end Go.Proofs.YtedcnhbblgmdnaaGreat.Ab
namespace Go.Proofs.YtedcnhbblgmdnaaGreat.Ab
set_option maxHeartbeats 4000000
set_option linter.unusedSimpArgs false
set_option linter.unusedVariables false
/-! ### the samples of each bucket -/
def inB (st w : Int) (y : I2) : Bool := decide (st < y.1) && decide (y.1 ≤ st + w)
end Go.Proofs.YtedcnhbblgmdnaaGreat.Ab
namespace Go.Proofs.YtedcnhbblgmdnaaGreat.Ab
set_option maxHeartbeats 4000000
set_option linter.unusedSimpArgs false
set_option linter.unusedVariables false
/-! ### the buckets of valid samples are valid -/
structure GoodB (k n : Int) (b : Bkt) : Prop where
  c1 : 1 ≤ b.c
  c2 : b.c ≤ n
  eq : b.ft = b.lt ↔ b.c = 1
  f1 : b.mn ≤ b.f
  f2 : b.f ≤ b.mx
  l1 : b.mn ≤ b.l
  l2 : b.l ≤ b.mx
  lo : -1099511627776 ≤ b.mn
  hi : b.mx ≤ 1099511627776
  pos : k = 2 → 0 ≤ b.mn
  s1 : b.c * b.mn ≤ b.s
  s2 : b.s ≤ b.c * b.mx
  i0 : 0 ≤ b.inc
  i1 : b.inc ≤ (b.c - 1) * 1099511627776
  ik : k ≠ 2 → b.inc = 0
  one : b.c = 1 → b.mn = b.mx
def okS (k : Int) (x : I2) : Prop := (1 ≤ x.1 ∧ x.1 ≤ 1099511627776) ∧ (-1099511627776 ≤ x.2 ∧ x.2 ≤ 1099511627776) ∧ (k = 2 → 0 ≤ x.2)
theorem GoodB.single {k w : Int} {x : I2} (h : okS k x) : GoodB k 1 (single w x) := by
  obtain ⟨_, ⟨h1, h2⟩, h3⟩ := h
  exact ⟨Int.le_refl _, Int.le_refl _, ⟨fun _ => rfl, fun _ => rfl⟩, Int.le_refl _, Int.le_refl _, Int.le_refl _, Int.le_refl _, h1, h2, h3, by show 1 * x.2 ≤ x.2; omega, by show x.2 ≤ 1 * x.2; omega,
    Int.le_refl _, by show (0 : Int) ≤ (1 - 1) * 1099511627776; omega, fun _ => rfl, fun _ => rfl⟩
theorem GoodB.more {k n m : Int} {b : Bkt} (h : GoodB k n b) (hm : n ≤ m) : GoodB k m b := { h with c2 := by have := h.c2; omega }
theorem minI_le (a b : Int) : minI a b ≤ a ∧ minI a b ≤ b ∧ (minI a b = a ∨ minI a b = b) := by unfold minI; split <;> omega
theorem le_maxI (a b : Int) : a ≤ maxI a b ∧ b ≤ maxI a b ∧ (maxI a b = a ∨ maxI a b = b) := by unfold maxI; split <;> omega
theorem GoodB.join {k w n : Int} {a : Bkt} {x : I2} (h : GoodB k n a) (hx : okS k x) (hlt : a.ft ≤ a.lt) (hl : a.lt < x.1) : GoodB k (n + 1) (joinB k a (Go.Proofs.YtedcnhbblgmdnaaGreat.Ab.single w x)) := by
  obtain ⟨_, ⟨h1, h2⟩, h3⟩ := hx
  obtain ⟨m1, m2, m3⟩ := minI_le a.mn x.2
  obtain ⟨n1, n2, n3⟩ := le_maxI a.mx x.2
  have c1 := h.c1; have c2 := h.c2; have f1 := h.f1; have f2 := h.f2; have lo := h.lo; have hi := h.hi; have l1 := h.l1; have l2 := h.l2
  have a1 := Int.mul_le_mul_of_nonneg_left m1 (show 0 ≤ a.c by omega)
  have a2 := Int.mul_le_mul_of_nonneg_left n1 (show 0 ≤ a.c by omega)
  have s1 := h.s1; have s2 := h.s2; have i0 := h.i0; have i1 := h.i1
  refine ⟨?_, ?_, ?_, ?_, ?_, ?_, ?_, ?_, ?_, ?_, ?_, ?_, ?_, ?_, ?_, ?_⟩ <;> simp only [joinB, Go.Proofs.YtedcnhbblgmdnaaGreat.Ab.single]
  · omega
  · omega
  · constructor <;> intro hh <;> omega
  · omega
  · omega
  · exact m2
  · exact n2
  · rcases m3 with e | e <;> omega
  · rcases n3 with e | e <;> omega
  · intro hk; have := h.pos hk; have := h3 hk; rcases m3 with e | e <;> omega
  · rw [Int.add_mul, Int.one_mul]; omega
  · rw [Int.add_mul, Int.one_mul]; omega
  · split
    · rename_i hk
      have := h3 hk
      unfold stepV; split <;> omega
    · exact i0
  · split
    · rename_i hk
      have := h3 hk
      have := h.pos hk
      unfold stepV; split <;> omega
    · omega
  · intro hk; rw [if_neg hk]; exact h.ik hk
  · intro hh; omega
theorem GoodB.bkA {k w : Int} {b : Bkt} (h : GoodB k 2000 b) (hk : k = 1 ∨ k = 2) (t1 : b.st < b.ft) (t2 : b.ft ≤ b.lt) (t3 : b.lt ≤ b.st + w) (t4 : b.lt ≤ 1099511627776) : bkA k w b = true := by
  have c1 := h.c1; have c2 := h.c2; have f1 := h.f1; have f2 := h.f2; have lo := h.lo; have hi := h.hi; have l1 := h.l1; have l2 := h.l2
  have s1 := h.s1; have s2 := h.s2; have i0 := h.i0; have i1 := h.i1
  have ok : ∀ v, b.mn ≤ v → v ≤ b.mx → okV k v = true := fun v v1 v2 => by
    unfold okV isVl
    have : (k == 2 && decide (v < 0)) = false := by
      rcases hk with rfl | rfl
      · rfl
      · have := h.pos rfl; simp; omega
    rw [this]; simp; omega
  have b1 : bkA1 w b = false := by unfold bkA1; simp; omega
  have b2 : bkA2 b = false := by
    unfold bkA2
    have : (b.ft == b.lt) = (b.c == 1) := by
      rw [Bool.eq_iff_iff]; simp [h.eq]
    rw [this]; simp; omega
  have b3 : bkA3 k b = true := by
    unfold bkA3
    rw [ok b.mn (by omega) (by omega), ok b.mx (by omega) (by omega), ok b.f (by omega) (by omega), ok b.l (by omega) (by omega)]; rfl
  have b4 : bkA4 b = false := by unfold bkA4; simp; omega
  have b5 : bkA5 b = false := by unfold bkA5; simp; omega
  have b6 : bkA6 k b = false := by
    unfold bkA6
    have : ((k == 1) && (b.inc != 0)) = false := by
      rcases hk with rfl | rfl
      · simp [h.ik (by omega)]
      · rfl
    rw [this]; simp; omega
  have b7 : bkA7 b = true := by
    unfold bkA7
    by_cases hc : 1 < b.c
    · simp [hc]
    · have hc1 : b.c = 1 := by omega
      have := h.one hc1
      rw [hc1] at s1 s2
      simp; right; omega
  unfold Go.Proofs.YtedcnhbblgmdnaaGreat.Ab.bkA
  rw [b1, b2, b3, b4, b5, b6, b7]; rfl
end Go.Proofs.YtedcnhbblgmdnaaGreat.Ab
namespace Go.Proofs.YtedcnhbblgmdnaaGreat.Ab
set_option maxHeartbeats 4000000
set_option linter.unusedSimpArgs false
set_option linter.unusedVariables false
/-! ### the reference's examination of a bucket -/
def rfA (w : Int) (b : Bkt) : Bool := decide (b.st < 0) || decide (1099511627776 ≤ b.st) || (b.st.tmod w != 0) || decide (b.ft ≤ b.st) || decide (b.lt < b.ft) || decide (b.st + w < b.lt) || decide (1099511627776 < b.lt)
def btw (n lo hi : Int) : Bool := decide (lo ≤ n) && decide (n ≤ hi)
def rfB (b : Bkt) : Bool := !btw b.c 1 2000 || ((b.ft == b.lt) != (b.c == 1))
def rfC (k : Int) (b : Bkt) : Bool := decide (b.mn < (if k = 2 then 0 else -1099511627776)) || decide (1099511627776 < b.mx) || !btw b.f b.mn b.mx || !btw b.l b.mn b.mx
def rfD (k : Int) (b : Bkt) : Bool := !btw b.s (b.c * b.mn) (b.c * b.mx) || decide (b.inc < 0) || ((k == 1) && (b.inc != 0)) || decide ((b.c - 1) * 1099511627776 < b.inc)
def rfE (b : Bkt) : Bool := decide (1 < b.c) || ((b.mn == b.mx) && (b.inc == 0))
def rfBk (k w : Int) (b : Bkt) : Bool := !rfA w b && (!rfB b && (!rfC k b && (!rfD k b && rfE b)))
def rfBks (k w : Int) : Int → List Bkt → Bool
  | _, [] => true
  | p, b :: r => !(!rfBk k w b || decide (b.st ≤ p)) && rfBks k w b.st r
/-! ### too many samples in a bucket -/
def bigB (l : List Bkt) : Bool := l.any fun b => decide (2000 < b.c)
end Go.Proofs.YtedcnhbblgmdnaaGreat.Ab
namespace Go.Proofs.YtedcnhbblgmdnaaGreat.Ab
set_option maxHeartbeats 8000000
set_option maxRecDepth 10000
set_option linter.unusedSimpArgs false
set_option linter.unusedVariables false
end Go.Proofs.YtedcnhbblgmdnaaGreat.Ab
namespace Go.Proofs.YtedcnhbblgmdnaaGreat.Ab
set_option maxHeartbeats 8000000
set_option maxRecDepth 10000
set_option linter.unusedSimpArgs false
set_option linter.unusedVariables false
end Go.Proofs.YtedcnhbblgmdnaaGreat.Ab
namespace Go.Proofs.YtedcnhbblgmdnaaGreat.Ab
set_option maxHeartbeats 8000000
set_option maxRecDepth 10000
set_option linter.unusedSimpArgs false
set_option linter.unusedVariables false
/-- The zone of a rollup. -/
def rlpZ (l : List Bkt) : Zo := match l with
  | [] => Zo.none
  | b :: r => ⟨(b :: r).length, b.ft, ((b :: r).getLast (by simp)).lt, (b :: r).foldl (fun m y => minI m y.mn) b.mn, (b :: r).foldl (fun m y => maxI m y.mx) b.mx⟩
def encR (x : Rlp) : D := if rlpOK x = false then .tup [noCh, .c (.p (pI 1))] else match packE x.bs bktCols with
  | none => .tup [noCh, .c (.p (pI 4))]
  | some ss => finE 6 (.lst x.lb.length (x.lb.flatMap lbP)) (rlpZ x.bs).pd (jn (appV (appV [] x.k).1 x.w).1 ss)
theorem thenD_ret0 {K : Fr → Prop} {Q : Ex → Fr → Prop} {y : Fr} (h : Q .ret y) : thenD K Q .ret y := h
theorem o98 : E0.opn 98 = true := by kernel_rfl
theorem x98 : E0.xt 98 = none := by kernel_rfl
theorem o99 : E0.opn 99 = false := by kernel_rfl
theorem x99 : E0.xt 99 = none := by kernel_rfl
theorem rlpOK_some {x : Rlp} (h : rlpOK x = true) : (x.k = 1 ∨ x.k = 2) ∧ (1 ≤ x.w ∧ x.w ≤ 1099511627776) ∧ x.bs ≠ [] ∧ x.bs.length ≤ 2000 := by
  unfold rlpOK at h
  simp only [Bool.and_eq_true, Bool.not_eq_true', Bool.or_eq_false_iff, decide_eq_false_iff_not, bne_eq_false_iff_eq, Bool.and_eq_false_iff, beq_eq_false_iff_ne] at h
  obtain ⟨⟨_, h1⟩, ⟨⟨⟨h2, h3⟩, h4⟩, h5⟩, _⟩ := h
  refine ⟨by rcases h1 with h | h; exact .inl (by simpa using h); exact .inr (by simpa using h), by omega, fun e => by rw [e] at h4; simp at h4, by omega⟩
theorem Own.purS {s : St} {es n : Nat} {c : C} {cs : List Pd} (h : Own s es (.v (.c c)) n cs) : Go.Proofs.YtedcnhbblgmdnaaGreat.Ab.purS c = some (.lst n cs) := by
  obtain ⟨hl, ⟨h1, h2⟩ | ⟨id, h1, _⟩⟩ := h
  · simp only [D.v.injEq, V.c.injEq] at h1
    subst h1 h2
    have : cs = [] := List.length_eq_zero_iff.1 (by simpa using hl)
    subst this; rfl
  · simp only [D.v.injEq, V.c.injEq] at h1
    subst h1; rfl
theorem purC_S {s : St} {c : C} {x : Pd} (h : purS c = some x) : purC s c = some (x, s) := by
  cases c <;> first | (simp only [purS] at h; cases h; rfl) | cases h
theorem purC_p (s : St) (x : Pd) : purC s (.p x) = some (x, s) := rfl
theorem purVs_5 {c : C} {y : Pd} (h : purS c = some y) (s : St) {p0 p1 p2 : Pd} {z0 z1 z2 z3 z4 z5 z6 z7 z8 z9 z10 z11 z12 : Pd} : purVs s [.c (.p p0), .c (.p p1), .agg [.p z0, .p z1, .p z2, .p z3, .p z4, .p z5, .p z6, .p z7, .p z8, .p z9, .p z10, .p z11, .p z12], .c (.p p2), .c c] =
    some ([.c (.p p0), .c (.p p1), .agg [.p z0, .p z1, .p z2, .p z3, .p z4, .p z5, .p z6, .p z7, .p z8, .p z9, .p z10, .p z11, .p z12], .c (.p p2), .c (.p y)], s) := by
  simp only [purVs, purV, purCs, purC_p, purC_S h, List.map_cons, List.map_nil]
theorem purNo (s : St) : purD s (packD [noCh, .c (.p (pI 4))]) = some (.tup [noCh, .c (.p (pI 4))], s) := rfl
theorem purCh (s : St) (n : Nat) (cs : List Pd) (z : Zo) (d : List UInt8) : purD s (packD [chV 6 (.lst n cs) z.pd d, .c (.p (pI 0))]) = some (.tup [chV 6 (.lst n cs) z.pd d, .c (.p (pI 0))], s) := rfl
/-- 15: EncodeRollup -/
theorem pf51 (x : Rlp) (hlb : x.lb.length < 2^40) (hls : ∀ y ∈ x.lb, y.1.length < 2^50 ∧ y.2.length < 2^50) : Pf E0 51 [.agg (x.pd.map .p)] (encR x) := by
  have hfl : (x.bs.flatMap Bkt.pd).length = x.bs.length * 10 := flat_len (k := 10) (fun _ => rfl) _
  have p46 := pf97 x hlb hls
  unfold encR
  refine Pf.body (fn := Tryz.f51) (by kernel_rfl) rfl ?_; simp only [List.map_cons, List.map_nil, List.cons_append, List.nil_append, List.length_cons, List.length_nil, Tryz.ntmps51, List.replicate, Nat.reduceSub, Nat.reduceAdd]
  refine Wc.seq ?_
  refine Wc.reg fun K hK => ?_; simp only [go_sem, ti3, ti4, ti9, ti22, ti94, ti96, ti32, ti29, ti31, ti41, ti158, ti155]; refine hK _ _ ?_; clear hK K
  cases hok : rlpOK x with
  | false =>
    rw [hok] at p46
    rw [if_pos rfl]
    refine Wc.seq (Wc.seq ?_)
    refine Wc.reg fun K hK => ?_; simp only [go_sem, ti3, ti4, ti9, ti22, ti94, ti96, ti32, ti29, ti31, ti41, ti158, ti155]
    refine wpCall.pf p46 (by kernel_rfl) (by kernel_rfl) rfl rfl ?_
    simp only [go_sem, ti3, ti4, ti9, ti22, ti94, ti96, ti32, ti29, ti31, ti41, ti158, ti155]; refine hK _ _ ?_; clear hK K
    refine Wc.cond (t := true) (by simp only [go_sem, ti3, ti4, ti9, ti22, ti94, ti96, ti32, ti29, ti31, ti41, ti158, ti155]) (fun _ => ?_) (fun hc => by cases hc)
    refine Wc.seq ?_
    refine Wc.reg fun K hK => ?_; simp only [go_sem, ti3, ti4, ti9, ti22, ti94, ti96, ti32, ti29, ti31, ti41, ti158, ti155]; refine hK _ _ ?_; clear hK K
    exact Wc.ret (Pf.ret [.cell 2 96, .tmp 3] [.agg ([.p (pI 0), .nils] ++ zz0.map .p ++ [.p (.str [])]), .c (.p (pI 1))] rfl rfl (by simp only [resultsD, go_sem, ti3, ti4, ti9, ti22, ti94, ti96, ti32, ti29, ti31, ti41, ti158, ti155]) rfl)
  | true =>
    rw [hok] at p46
    obtain ⟨hk, hw, hne, hbl⟩ := rlpOK_some hok
    rw [if_neg (by decide)]
    generalize hP : packE x.bs bktCols = P
    refine Wc.seqR (fun y => y.ds = [] ∧ Fs y.e 90 [(1, .v (.c (.ref 0 0))), (2, .v (.c (.ref 1 0)))] ∧ OA y.s.nx y.s [] [(1, .cells ([.p (pI 0), .nils] ++ zz0.map .p ++ [.p (.str [])]) false), (0, .cells (x.pd.map .p) false)]) ?_ ?_
    · refine Wc.seq ?_
      refine Wc.reg fun K hK => ?_; simp only [go_sem, ti3, ti4, ti9, ti22, ti94, ti96, ti32, ti29, ti31, ti41, ti158, ti155]
      refine wpCall.pf p46 (by kernel_rfl) (by kernel_rfl) rfl rfl ?_
      simp only [go_sem, ti3, ti4, ti9, ti22, ti94, ti96, ti32, ti29, ti31, ti41, ti158, ti155]; refine hK _ _ ?_; clear hK K
      refine Wc.cond (t := false) (by simp only [go_sem, ti3, ti4, ti9, ti22, ti94, ti96, ti32, ti29, ti31, ti41, ti158, ti155]) (fun hc => by cases hc) (fun _ => Wc.skip ?_)
      exact ⟨rfl, by simp only [Fs, Int.natCast_zero, go_sem, ti3, ti4, ti9, ti22, ti94, ti96, ti32, ti29, ti31, ti41, ti158, ti155], by (try simp only [St.nx_put, St.nx_adv]); repeat (first | exact OA.mono s00_oa (by omega) | refine OA.newB ?_ (by omega) rfl | refine OA.advB ?_)⟩
    rintro ⟨e, ds, s1⟩ ⟨rfl, hF, ho⟩
    simp only [Fs] at hF ho
    have g0 := ho.at_ (0, .cells (x.pd.map .p) false) (by simp)
    have g1 := ho.at_ (1, .cells ([.p (pI 0), .nils] ++ zz0.map .p ++ [.p (.str [])]) false) (by simp)
    simp only [List.map_cons, List.map_nil, List.cons_append, List.nil_append] at g0 g1
    refine Wc.seq ?_
    refine Wc.regT fun K hK => ?_; simp only [go_sem, ti3, ti4, ti9, ti22, ti94, ti96, ti32, ti29, ti31, ti41, ti158, ti155, hF, g0, o98, x98, o99, x99, List.all_nil, Option.isNone_none]
    refine wpCall.pf pf99 x99 o99 rfl rfl ?_
    simp only [go_sem, ti3, ti4, ti9, ti22, ti94, ti96, ti32, ti29, ti31, ti41, ti158, ti155, hF, g0, o98, x98, o99, x99, List.all_nil, Option.isNone_none]
    refine call98 (x := .v (.c (.p (.lst x.bs.length (x.bs.flatMap Bkt.pd))))) (l := x.bs) (cols := bktCols) (ho.adv.mono (by simp only [St.nx_adv]; omega)) (by omega) ⟨_, rfl⟩ (by simp only [go_sem, ti3, ti4, ti9, ti22, ti94, ti96, ti32, ti29, ti31, ti41, ti158, ti155]) (fun j hj => ixA ti29 rfl ti41 hj hfl (by decide)) bktCols_ok (by decide) (fun hN s' ho' hnx => ?_) (fun ss hS x' s' ho' hnx => ?_)
    · rw [hP] at hN
      subst hN
      simp only [go_sem, ti3, ti4, ti9, ti22, ti94, ti96, ti32, ti29, ti31, ti41, ti158, ti155, hF, g0, o98, x98, o99, x99, List.all_nil, Option.isNone_none]
      refine ⟨by rfl, hK _ _ ?_⟩
      have g1' := ho'.at_ (1, .cells ([.p (pI 0), .nils] ++ zz0.map .p ++ [.p (.str [])]) false) (by simp)
      simp only [List.map_cons, List.map_nil, List.cons_append, List.nil_append] at g1'
      refine Wc.seq (Wc.seq ?_)
      refine Wc.reg fun K hK => ?_; simp only [go_sem, ti3, ti4, ti9, ti22, ti94, ti96, ti32, ti29, ti31, ti41, ti158, ti155, hF]; refine hK _ _ ?_; clear hK K
      refine Wc.cond (t := true) (by simp only [go_sem, ti3, ti4, ti9, ti22, ti94, ti96, ti32, ti29, ti31, ti41, ti158, ti155, hF]) (fun _ => ?_) (fun hc => by cases hc)
      refine Wc.seq ?_
      refine Wc.reg fun K hK => ?_; simp only [go_sem, ti3, ti4, ti9, ti22, ti94, ti96, ti32, ti29, ti31, ti41, ti158, ti155, hF, g1']; refine hK _ _ ?_; clear hK K
      refine Wc.ret (thenD_ret0 ?_)
      exact Pf.ret [.cell 2 96, .tmp 3] [.agg ([.p (pI 0), .nils] ++ zz0.map .p ++ [.p (.str [])]), .c (.p (pI 4))] rfl rfl (by simp only [resultsD, go_sem, ti3, ti4, ti9, ti22, ti94, ti96, ti32, ti29, ti31, ti41, ti158, ti155, hF, g1']) rfl
    · rw [hP] at hS
      subst hS
      simp only [go_sem, ti3, ti4, ti9, ti22, ti94, ti96, ti32, ti29, ti31, ti41, ti158, ti155, hF, g0, o98, x98, o99, x99, List.all_nil, Option.isNone_none]
      refine ⟨by rfl, hK _ _ ?_⟩
      clear hK K
      obtain ⟨b0, r0, hbs⟩ : ∃ b0 r0, x.bs = b0 :: r0 := by
        cases hx : x.bs with
        | nil => exact absurd hx hne
        | cons a r => exact ⟨a, r, rfl⟩
      have hlen0 : 0 < x.bs.length := by rw [hbs]; simp
      refine Wc.seq (Wc.seq ?_)
      refine Wc.reg fun K hK => ?_; simp only [go_sem, ti3, ti4, ti9, ti22, ti94, ti96, ti32, ti29, ti31, ti41, ti158, ti155, hF]; refine hK _ _ ?_; clear hK K
      refine Wc.cond (t := false) (by simp only [go_sem, ti3, ti4, ti9, ti22, ti94, ti96, ti32, ti29, ti31, ti41, ti158, ti155, hF]) (fun hc => by cases hc) (fun _ => Wc.skip ?_)
      have g0' := ho'.at_ (0, .cells (x.pd.map .p) false) (by simp)
      simp only [List.map_cons, List.map_nil] at g0'
      have hix0 : indexAddrD E0 29 (.v (.c (.p (.lst x.bs.length (x.bs.flatMap Bkt.pd))))) (.v (.c (.p (.int .i64 0)))) = some (.v (.c (.rp (x.bs.flatMap Bkt.pd) 0))) := ixA ti29 rfl ti41 (j := 0) hlen0 hfl (by decide)
      have hca0 := rpA (off := 0) (cs := x.bs.flatMap Bkt.pd) (pre := b0.pd) (rest := r0.flatMap Bkt.pd) (by rw [hbs]; rfl) (by omega)
      refine Wc.seqA (fun y => ∃ k6, y.ds = [] ∧ Fs y.e 90 [(1, .v (.c (.ref 0 0))), (2, .v (.c (.ref 1 0))), (4, .v (.c x')), (6, .v (.c (.ref k6 0)))] ∧ OA y.s.nx y.s [(1, .v (.c x'), ss.length, ss.map .str)] [(k6, .cells (b0.pd.map .p) false), (1, .cells ([.p (pI 0), .nils] ++ zz0.map .p ++ [.p (.str [])]) false), (0, .cells (x.pd.map .p) false)]) ?_ ?_
      · refine Wc.reg fun K hK => ?_; simp only [go_sem, ti3, ti4, ti9, ti22, ti94, ti96, ti32, ti29, ti31, ti41, ti158, ti155, hF, g0', hix0, hca0]; refine hK _ _ ?_; clear hK K
        exact ⟨rfl, s'.nx + 6, rfl, by simp only [Fs, Int.natCast_zero, go_sem, ti3, ti4, ti9, ti22, ti94, ti96, ti32, ti29, ti31, ti41, ti158, ti155, hF], by (try simp only [St.nx_put, St.nx_adv]); repeat (first | exact OA.mono ho' (by omega) | refine OA.newB ?_ (by omega) rfl | refine OA.advB ?_)⟩
      clear hF ho ho' g0 g0' g1 hnx e s1 s'
      rintro ⟨e, ds, s1⟩ ⟨k6, rfl, hF, ho⟩
      simp only [Fs] at hF ho
      have g0 := ho.at_ (0, .cells (x.pd.map .p) false) (by simp)
      have g6 := ho.at_ (k6, .cells (b0.pd.map .p) false) (by simp)
      simp only [List.map_cons, List.map_nil] at g0 g6
      obtain ⟨bl, hbl1⟩ : ∃ bl, x.bs[x.bs.length - 1]? = some bl := ⟨x.bs[x.bs.length - 1], List.getElem?_eq_getElem (by omega)⟩
      have hixl := ixA ti29 rfl ti41 (j := x.bs.length - 1) (m := x.bs.length) (cs := x.bs.flatMap Bkt.pd) (by omega) hfl (by decide)
      have hcl : ∀ s, cellsAt s (.v (.c (.rp (x.bs.flatMap Bkt.pd) ((x.bs.length - 1) * 10 + 8)))) = some (([pI bl.lt, pI bl.inc] ++ (x.bs.drop (x.bs.length - 1 + 1)).flatMap Bkt.pd).map .p) := fun s => by
        refine rpA ?_ (by rw [hfl]; omega) s
        rw [← List.drop_drop, drop_flat (f := Bkt.pd) (k := 10) (fun _ => rfl) hbl1]
        rfl
      have w1 : IntKind.i64.wrap ((x.bs.length : Int) - 1) = ((x.bs.length - 1 : Nat) : Int) := by rw [wi64]; omega
      refine Wc.seqA (fun y => ∃ k7, y.ds = [] ∧ Fs y.e 90 [(1, .v (.c (.ref 0 0))), (2, .v (.c (.ref 1 0))), (4, .v (.c x')), (7, .v (.c (.ref k7 0)))] ∧ OA y.s.nx y.s [(1, .v (.c x'), ss.length, ss.map .str)] [(k7, .cells [.p (pI x.bs.length), .p (pI b0.ft), .p (pI bl.lt), .p (pI b0.mn), .p (pI b0.mx), .p (.int .u32 0), .p (.int .u32 0), .p (.int .u32 0), .p (.int .u32 0), .p (.int .u32 0), .p (.int .u32 0), .p (.int .u32 0), .p (.int .u32 0)] false), (1, .cells ([.p (pI 0), .nils] ++ zz0.map .p ++ [.p (.str [])]) false), (0, .cells (x.pd.map .p) false)]) ?_ ?_
      · refine Wc.regT fun K hK => ?_; simp only [go_sem, ti3, ti4, ti9, ti22, ti94, ti96, ti32, ti29, ti31, ti41, ti158, ti155, hF, g0, g6, hixl, hcl, w1]; refine ⟨by rw [trOK_eq]; rfl, hK _ _ ?_⟩; clear hK K
        have hs := ho.sub (L1 := [(1, .v (.c x'), ss.length, ss.map .str)]) (M1 := [(1, .cells ([.p (pI 0), .nils] ++ zz0.map .p ++ [.p (.str [])]) false), (0, .cells (x.pd.map .p) false)]) (List.Sublist.refl _) (List.sublist_cons_self _ _)
        exact ⟨rfl, s1.nx + 19, rfl, by simp only [Fs, Int.natCast_zero, go_sem, ti3, ti4, ti9, ti22, ti94, ti96, ti32, ti29, ti31, ti41, ti158, ti155, hF], by (try simp only [St.nx_put, St.nx_adv]); repeat (first | exact OA.mono hs (by omega) | refine OA.newB ?_ (by omega) rfl | refine OA.advB ?_)⟩
      clear hF ho g0 g6 e s1
      rintro ⟨e, ds, s1⟩ ⟨k7, rfl, hF, ho⟩
      simp only [Fs] at hF ho
      have g0 := ho.at_ (0, .cells (x.pd.map .p) false) (by simp)
      simp only [List.map_cons, List.map_nil] at g0
      refine Wc.seqA (fun y => y.ds = [] ∧ Fs y.e 90 [(1, .v (.c (.ref 0 0))), (2, .v (.c (.ref 1 0))), (4, .v (.c x')), (7, .v (.c (.ref k7 0)))] ∧ OA y.s.nx y.s [(1, .v (.c x'), ss.length, ss.map .str)] [(k7, .cells [.p (pI x.bs.length), .p (pI b0.ft), .p (pI bl.lt), .p (pI (x.bs.foldl (fun m y => minI m y.mn) b0.mn)), .p (pI (x.bs.foldl (fun m y => maxI m y.mx) b0.mx)), .p (.int .u32 0), .p (.int .u32 0), .p (.int .u32 0), .p (.int .u32 0), .p (.int .u32 0), .p (.int .u32 0), .p (.int .u32 0), .p (.int .u32 0)] false), (1, .cells ([.p (pI 0), .nils] ++ zz0.map .p ++ [.p (.str [])]) false), (0, .cells (x.pd.map .p) false)]) ?_ ?_
      · refine Wc.seq ?_
        refine Wc.reg fun K hK => ?_; simp only [go_sem, ti3, ti4, ti9, ti22, ti94, ti96, ti32, ti29, ti31, ti41, ti158, ti155, hF, g0, Int.natCast_zero]; refine hK _ _ ?_; clear hK K
        refine Wc.block (Wc.loop (fun c y => ∃ i : Nat, c = x.bs.length - i ∧ i ≤ x.bs.length ∧ y.ds = [] ∧ Fs y.e 90 [(1, .v (.c (.ref 0 0))), (2, .v (.c (.ref 1 0))), (4, .v (.c x')), (7, .v (.c (.ref k7 0))), (50, P' (.lst x.bs.length (x.bs.flatMap Bkt.pd))), (51, P' (pI x.bs.length)), (52, P' (pI i))] ∧ OA y.s.nx y.s [(1, .v (.c x'), ss.length, ss.map .str)] [(k7, .cells [.p (pI x.bs.length), .p (pI b0.ft), .p (pI bl.lt), .p (pI ((x.bs.take i).foldl (fun m y => minI m y.mn) b0.mn)), .p (pI ((x.bs.take i).foldl (fun m y => maxI m y.mx) b0.mx)), .p (.int .u32 0), .p (.int .u32 0), .p (.int .u32 0), .p (.int .u32 0), .p (.int .u32 0), .p (.int .u32 0), .p (.int .u32 0), .p (.int .u32 0)] false), (1, .cells ([.p (pI 0), .nils] ++ zz0.map .p ++ [.p (.str [])]) false), (0, .cells (x.pd.map .p) false)]) ?_ (k := x.bs.length) ?_)
        · clear hF ho g0 e s1
          rintro c ⟨e, ds, s1⟩ ⟨i, rfl, hi, rfl, hF, ho⟩
          simp only [Fs] at hF ho
          refine Wc.seq ?_
          refine Wc.reg fun K hK => ?_; simp only [go_sem, ti3, ti4, ti9, ti22, ti94, ti96, ti32, ti29, ti31, ti41, ti158, ti155, hF]; refine hK _ _ ?_; clear hK K
          refine Wc.seq (Wc.cond (t := decide ((i : Int) < x.bs.length)) (by simp only [go_sem, ti3, ti4, ti9, ti22, ti94, ti96, ti32, ti29, ti31, ti41, ti158, ti155, hF]) (fun hc => ?_) (fun hc => ?_))
          · have hil : i < x.bs.length := by have := of_decide_eq_true hc; omega
            obtain ⟨b, hb⟩ : ∃ b, x.bs[i]? = some b := ⟨x.bs[i], List.getElem?_eq_getElem hil⟩
            have hix := ixA ti29 rfl ti41 (j := i) (m := x.bs.length) (cs := x.bs.flatMap Bkt.pd) hil hfl (by decide)
            have hca := rpA (off := i * 10) (drop_flat (f := Bkt.pd) (k := 10) (fun _ => rfl) hb) (by rw [hfl]; omega)
            have e1 : (x.bs.take (i + 1)).foldl (fun m y => minI m y.mn) b0.mn = minI ((x.bs.take i).foldl (fun m y => minI m y.mn) b0.mn) b.mn := by rw [take_snoc hb, List.foldl_append]; rfl
            have e2 : (x.bs.take (i + 1)).foldl (fun m y => maxI m y.mx) b0.mx = maxI ((x.bs.take i).foldl (fun m y => maxI m y.mx) b0.mx) b.mx := by rw [take_snoc hb, List.foldl_append]; rfl
            generalize hm1 : (x.bs.take i).foldl (fun m y => minI m y.mn) b0.mn = m1 at *
            generalize hm2 : (x.bs.take i).foldl (fun m y => maxI m y.mx) b0.mx = m2 at *
            refine Wc.skip (Wc.seq (Wc.block (Wc.seqA (fun y => ∃ k9, y.ds = [] ∧ Fs y.e 90 [(1, .v (.c (.ref 0 0))), (2, .v (.c (.ref 1 0))), (4, .v (.c x')), (7, .v (.c (.ref k7 0))), (50, P' (.lst x.bs.length (x.bs.flatMap Bkt.pd))), (51, P' (pI x.bs.length)), (52, P' (pI i)), (9, .v (.c (.ref k9 0)))] ∧ OA y.s.nx y.s [(1, .v (.c x'), ss.length, ss.map .str)] [(k9, .cells (b.pd.map .p) false), (k7, .cells [.p (pI x.bs.length), .p (pI b0.ft), .p (pI bl.lt), .p (pI m1), .p (pI m2), .p (.int .u32 0), .p (.int .u32 0), .p (.int .u32 0), .p (.int .u32 0), .p (.int .u32 0), .p (.int .u32 0), .p (.int .u32 0), .p (.int .u32 0)] false), (1, .cells ([.p (pI 0), .nils] ++ zz0.map .p ++ [.p (.str [])]) false), (0, .cells (x.pd.map .p) false)]) ?_ ?_)))
            · refine Wc.reg fun K hK => ?_; simp only [go_sem, ti3, ti4, ti9, ti22, ti94, ti96, ti32, ti29, ti31, ti41, ti158, ti155, hF, hix, hca]; refine hK _ _ ?_; clear hK K
              exact ⟨rfl, s1.nx + 3, rfl, by simp only [Fs, Int.natCast_zero, go_sem, ti3, ti4, ti9, ti22, ti94, ti96, ti32, ti29, ti31, ti41, ti158, ti155, hF], by (try simp only [St.nx_put, St.nx_adv]); repeat (first | exact OA.mono ho (by omega) | refine OA.newB ?_ (by omega) rfl | refine OA.advB ?_)⟩
            clear hF ho e s1
            rintro ⟨e, ds, s1⟩ ⟨k9, rfl, hF, ho⟩
            simp only [Fs] at hF ho
            have g9 := ho.at_ (k9, .cells (b.pd.map .p) false) (by simp)
            have g7 := ho.at_ (k7, .cells [.p (pI x.bs.length), .p (pI b0.ft), .p (pI bl.lt), .p (pI m1), .p (pI m2), .p (.int .u32 0), .p (.int .u32 0), .p (.int .u32 0), .p (.int .u32 0), .p (.int .u32 0), .p (.int .u32 0), .p (.int .u32 0), .p (.int .u32 0)] false) (by simp)
            simp only [List.map_cons, List.map_nil] at g9 g7
            have hne79 : (k7 = k9) = False := by
              have := ho.dism
              simp only [List.pairwise_cons, List.mem_cons] at this
              have := this.1 (k7, .cells [.p (pI x.bs.length), .p (pI b0.ft), .p (pI bl.lt), .p (pI m1), .p (pI m2), .p (.int .u32 0), .p (.int .u32 0), .p (.int .u32 0), .p (.int .u32 0), .p (.int .u32 0), .p (.int .u32 0), .p (.int .u32 0), .p (.int .u32 0)] false) (.inl rfl)
              simp only [eq_iff_iff, iff_false]
              exact fun e => this e.symm
            refine Wc.seq ?_
            refine Wc.reg fun K hK => ?_; simp only [go_sem, ti3, ti4, ti9, ti22, ti94, ti96, ti32, ti29, ti31, ti41, ti158, ti155, hF, g9, g7, foldO]; refine hK _ _ ?_; clear hK K
            refine Wc.reg fun K hK => ?_; simp only [go_sem, ti3, ti4, ti9, ti22, ti94, ti96, ti32, ti29, ti31, ti41, ti158, ti155, hF, g9, g7, foldO, hne79]; refine hK _ _ ?_; clear hK K
            refine Wc.reg fun K hK => ?_; simp only [go_sem, ti3, ti4, ti9, ti22, ti94, ti96, ti32, ti29, ti31, ti41, ti158, ti155, hF, i64n i (by omega)]; refine hK _ _ ?_; clear hK K
            refine ⟨x.bs.length - (i + 1), by omega, i + 1, rfl, by omega, rfl, by simp only [Fs, Int.natCast_zero, go_sem, ti3, ti4, ti9, ti22, ti94, ti96, ti32, ti29, ti31, ti41, ti158, ti155, hF], ?_⟩
            rw [e1, e2]
            have hs := ho.sub (L1 := [(1, .v (.c x'), ss.length, ss.map .str)]) (M1 := [(k7, .cells [.p (pI x.bs.length), .p (pI b0.ft), .p (pI bl.lt), .p (pI m1), .p (pI m2), .p (.int .u32 0), .p (.int .u32 0), .p (.int .u32 0), .p (.int .u32 0), .p (.int .u32 0), .p (.int .u32 0), .p (.int .u32 0), .p (.int .u32 0)] false), (1, .cells ([.p (pI 0), .nils] ++ zz0.map .p ++ [.p (.str [])]) false), (0, .cells (x.pd.map .p) false)]) (List.Sublist.refl _) (List.sublist_cons_self _ _)
            simp only [St.nx_put, St.nx_adv]; (repeat refine OA.advB ?_); refine OA.ofS (M1 := []) (k := k7) ?_; repeat (first | exact ⟨_, OA.mono hs (by omega)⟩ | refine OAs.adv ?_ | refine OAs.put ?_)
          · have hil : i = x.bs.length := by have := of_decide_eq_false hc; omega
            subst hil
            rw [List.take_length] at ho
            exact Wc.exit ⟨rfl, rfl, by simp only [Fs, Int.natCast_zero, go_sem, ti3, ti4, ti9, ti22, ti94, ti96, ti32, ti29, ti31, ti41, ti158, ti155, hF], by (try simp only [St.nx_put, St.nx_adv]); repeat (first | exact OA.mono ho (by omega) | refine OA.newB ?_ (by omega) rfl | refine OA.advB ?_)⟩
        · exact ⟨0, rfl, by omega, rfl, by simp only [Fs, Int.natCast_zero, go_sem, ti3, ti4, ti9, ti22, ti94, ti96, ti32, ti29, ti31, ti41, ti158, ti155, hF], by (try simp only [St.nx_put, St.nx_adv]); repeat (first | exact OA.mono ho (by omega) | refine OA.newB ?_ (by omega) rfl | refine OA.advB ?_)⟩
      clear hF ho g0 e s1
      rintro ⟨e, ds, s1⟩ ⟨rfl, hF, ho⟩
      simp only [Fs] at hF ho
      have g0 := ho.at_ (0, .cells (x.pd.map .p) false) (by simp)
      have g1 := ho.at_ (1, .cells ([.p (pI 0), .nils] ++ zz0.map .p ++ [.p (.str [])]) false) (by simp)
      have g7 := ho.at_ (k7, .cells [.p (pI x.bs.length), .p (pI b0.ft), .p (pI bl.lt), .p (pI (x.bs.foldl (fun m y => minI m y.mn) b0.mn)), .p (pI (x.bs.foldl (fun m y => maxI m y.mx) b0.mx)), .p (.int .u32 0), .p (.int .u32 0), .p (.int .u32 0), .p (.int .u32 0), .p (.int .u32 0), .p (.int .u32 0), .p (.int .u32 0), .p (.int .u32 0)] false) (by simp)
      simp only [List.map_cons, List.map_nil, List.cons_append, List.nil_append] at g0 g1 g7
      have hpu := (ho.own _ (List.mem_cons_self ..)).purS
      have hz : rlpZ x.bs = ⟨x.bs.length, b0.ft, bl.lt, x.bs.foldl (fun m y => minI m y.mn) b0.mn, x.bs.foldl (fun m y => maxI m y.mx) b0.mx⟩ := by
        have hl : x.bs.getLast? = some bl := by rw [List.getLast?_eq_getElem?]; exact hbl1
        rw [hbs] at hl ⊢
        rw [List.getLast?_eq_some_getLast (by simp)] at hl
        simp only [Option.some.injEq] at hl
        simp only [rlpZ, hl]
      have hap : (appV (appV [] x.k).1 x.w).1.length ≤ 262144 := by
        have a1 : (appV [] x.k).1.length ≤ 10 := by
          unfold appV
          split
          · simp
          · rw [List.nil_append]; exact vb_len10 (by omega)
        unfold appV at a1 ⊢
        split
        · simp
        · simp only [List.length_append]
          have := vb_len10 (n := x.w.toNat) (by omega)
          omega
      have hpl : ∀ q ∈ ss, q.length ≤ 35184372088832 := by
        rw [packE_cols] at hP
        refine jn_pre hP fun c hc hc0 => ?_
        obtain ⟨cc, _, rfl⟩ := List.mem_map.1 hc
        have := encF_len hc0
        rw [List.length_map] at this
        omega
      have hsl := packE_len hP
      have p41 := pf101 6 x.lb.length (x.lb.flatMap lbP) (pI x.bs.length) (pI b0.ft) (pI bl.lt) (pI (x.bs.foldl (fun m y => minI m y.mn) b0.mn)) (pI (x.bs.foldl (fun m y => maxI m y.mx) b0.mx)) (.int .u32 0) (.int .u32 0) (.int .u32 0) (.int .u32 0) (.int .u32 0) (.int .u32 0) (.int .u32 0) (.int .u32 0) (appV (appV [] x.k).1 x.w).1 ss hap hpl (by have : bktCols.length = 10 := rfl; omega)
      rw [hz]
      have p49b := pf100 (appV [] x.k).1 x.w (by
        unfold appV
        split
        · simp
        · rw [List.nil_append]; have := vb_len10 (n := x.k.toNat) (by omega); simp only; omega)
      generalize appV (appV [] x.k).1 x.w = T2 at *
      refine Wc.seq ?_
      refine Wc.reg fun K hK => ?_; simp only [go_sem, ti3, ti4, ti9, ti22, ti94, ti96, ti32, ti29, ti31, ti41, ti158, ti155, hF, g0]
      refine wpCall.pf (pf100 [] x.k (by simp)) (by kernel_rfl) (by kernel_rfl) rfl rfl ?_
      simp only [go_sem, ti3, ti4, ti9, ti22, ti94, ti96, ti32, ti29, ti31, ti41, ti158, ti155, hF, g0]; refine hK _ _ ?_; clear hK K
      refine Wc.seq ?_
      refine Wc.reg fun K hK => ?_; simp only [go_sem, ti3, ti4, ti9, ti22, ti94, ti96, ti32, ti29, ti31, ti41, ti158, ti155, hF, g0]
      refine wpCall.pf p49b (by kernel_rfl) (by kernel_rfl) rfl rfl ?_
      simp only [go_sem, ti3, ti4, ti9, ti22, ti94, ti96, ti32, ti29, ti31, ti41, ti158, ti155, hF, g0]; refine hK _ _ ?_; clear hK K
      refine Wc.seq ?_
      cases hj : jn T2.1 ss with
      | none =>
        rw [hj] at p41
        simp only [finE, hj] at p41 ⊢
        refine Wc.reg fun K hK => ?_; simp only [go_sem, ti3, ti4, ti9, ti22, ti94, ti96, ti32, ti29, ti31, ti41, ti158, ti155, hF, g0, g7]
        refine wpCall.pf p41 (by kernel_rfl) (by kernel_rfl) rfl (purVs_5 hpu _) ?_
        simp only [go_sem, ti3, ti4, ti9, ti22, ti94, ti96, ti32, ti29, ti31, ti41, ti158, ti155, hF, g0, g1, g7]; refine hK _ _ ?_; clear hK K
        exact Wc.ret (Pf.ret [.cell 2 96, .tmp 3] [noCh, .c (.p (pI 4))] rfl rfl (by simp only [resultsD, go_sem, ti3, ti4, ti9, ti22, ti94, ti96, ti32, ti29, ti31, ti41, ti158, ti155, hF]; rfl) (purNo _))
      | some d =>
        rw [hj] at p41
        simp only [finE, hj] at p41 ⊢
        refine Wc.reg fun K hK => ?_; simp only [go_sem, ti3, ti4, ti9, ti22, ti94, ti96, ti32, ti29, ti31, ti41, ti158, ti155, hF, g0, g7]
        refine wpCall.pf p41 (by kernel_rfl) (by kernel_rfl) rfl (purVs_5 hpu _) ?_
        simp only [go_sem, ti3, ti4, ti9, ti22, ti94, ti96, ti32, ti29, ti31, ti41, ti158, ti155, hF, g0, g1, g7]; refine hK _ _ ?_; clear hK K
        exact Wc.ret (Pf.ret [.cell 2 96, .tmp 3] [chV 6 (.lst x.lb.length (x.lb.flatMap lbP)) (Zo.pd ⟨x.bs.length, b0.ft, bl.lt, x.bs.foldl (fun m y => minI m y.mn) b0.mn, x.bs.foldl (fun m y => maxI m y.mx) b0.mx⟩) d, .c (.p (pI 0))] rfl rfl (by simp only [resultsD, go_sem, ti3, ti4, ti9, ti22, ti94, ti96, ti32, ti29, ti31, ti41, ti158, ti155, hF]; rfl) (purCh _ _ _ _ _))
end Go.Proofs.YtedcnhbblgmdnaaGreat.Ab
namespace Go.Proofs.YtedcnhbblgmdnaaGreat.Ab
set_option maxHeartbeats 8000000
set_option maxRecDepth 10000
set_option linter.unusedSimpArgs false
set_option linter.unusedVariables false
def chkR (x : Rlp) : Int := if rlpOK x then 0 else 1
theorem encR_form (x : Rlp) : ∃ (c : List C) (e : Int), encR x = .tup [.agg c, .c (.p (pI e))] ∧ c.length = 16 ∧ ((e == 1) = !rlpOK x) := by
  unfold encR
  cases hok : rlpOK x with
  | false => exact ⟨_, 1, by rw [if_pos rfl], rfl, rfl⟩
  | true =>
    rw [if_neg (by simp)]
    cases packE x.bs bktCols with
    | none => exact ⟨_, 4, rfl, rfl, rfl⟩
    | some ss =>
      simp only [finE]
      cases jn (appV (appV [] x.k).1 x.w).1 ss with
      | none => exact ⟨_, 4, rfl, rfl, rfl⟩
      | some d => exact ⟨_, 0, rfl, rfl, rfl⟩
/-- 19: Check -/
theorem pf19 (x : Rlp) (hlb : x.lb.length < 2^40) (hls : ∀ y ∈ x.lb, y.1.length < 2^50 ∧ y.2.length < 2^50) : Pf E0 19 [.agg (x.pd.map .p)] (P' (pI (chkR x))) := by
  have p := pf51 x hlb hls
  obtain ⟨c, e, he, hl, h1⟩ := encR_form x
  rw [he] at p
  obtain ⟨c0, c1, c2, c3, c4, c5, c6, c7, c8, c9, c10, c11, c12, c13, c14, c15, rfl⟩ : ∃ c0 c1 c2 c3 c4 c5 c6 c7 c8 c9 c10 c11 c12 c13 c14 c15, c = [c0, c1, c2, c3, c4, c5, c6, c7, c8, c9, c10, c11, c12, c13, c14, c15] := by
    match c, hl with
    | [c0, c1, c2, c3, c4, c5, c6, c7, c8, c9, c10, c11, c12, c13, c14, c15], _ => exact ⟨_, _, _, _, _, _, _, _, _, _, _, _, _, _, _, _, rfl⟩
  unfold chkR
  refine Pf.body (fn := Tryz.f19) (by kernel_rfl) rfl ?_; simp only [List.map_cons, List.map_nil, List.cons_append, List.nil_append, List.length_cons, List.length_nil, Tryz.ntmps19, List.replicate, Nat.reduceSub, Nat.reduceAdd]
  refine Wc.seq ?_
  refine Wc.reg fun K hK => ?_; simp only [go_sem, ti3, ti4, ti32, ti39, ti41, ti31, ti96]; refine hK _ _ ?_; clear hK K
  refine Wc.seq (Wc.seq ?_)
  refine Wc.reg fun K hK => ?_; simp only [go_sem, ti3, ti4, ti32, ti39, ti41, ti31, ti96]
  refine wpCall.pf p (by kernel_rfl) (by kernel_rfl) rfl rfl ?_
  simp only [go_sem, ti3, ti4, ti32, ti39, ti41, ti31, ti96]; refine hK _ _ ?_; clear hK K
  refine Wc.seq ?_
  refine Wc.reg fun K hK => ?_; simp only [go_sem, ti3, ti4, ti32, ti39, ti41, ti31, ti96]; refine hK _ _ ?_; clear hK K
  refine Wc.cond (t := (e == 1)) (by simp only [go_sem, ti3, ti4, ti32, ti39, ti41, ti31, ti96]) (fun hc => ?_) (fun hc => ?_)
  · have hok : rlpOK x = false := by rw [hc] at h1; simpa using h1
    refine Wc.seq ?_
    refine Wc.reg fun K hK => ?_; simp only [go_sem, ti3, ti4, ti32, ti39, ti41, ti31, ti96]; refine hK _ _ ?_; clear hK K
    rw [hok]
    exact Wc.ret (Pf.ret [.tmp 2] [.c (.p (pI 1))] rfl rfl (by simp only [resultsD, go_sem, ti3, ti4, ti32, ti39, ti41, ti31, ti96]) rfl)
  · have hok : rlpOK x = true := by rw [hc] at h1; simpa using h1
    refine Wc.skip (Wc.seq ?_)
    refine Wc.reg fun K hK => ?_; simp only [go_sem, ti3, ti4, ti32, ti39, ti41, ti31, ti96]; refine hK _ _ ?_; clear hK K
    rw [hok]
    exact Wc.ret (Pf.ret [.tmp 2] [.c (.p (pI 0))] rfl rfl (by simp only [resultsD, go_sem, ti3, ti4, ti32, ti39, ti41, ti31, ti96]) rfl)
end Go.Proofs.YtedcnhbblgmdnaaGreat.Ab
namespace Go.Proofs.YtedcnhbblgmdnaaGreat.Ab
set_option maxHeartbeats 8000000
set_option maxRecDepth 10000
set_option linter.unusedSimpArgs false
set_option linter.unusedVariables false
end Go.Proofs.YtedcnhbblgmdnaaGreat.Ab
namespace Go.Proofs.YtedcnhbblgmdnaaGreat.Ab
set_option maxHeartbeats 8000000
set_option maxRecDepth 10000
set_option linter.unusedSimpArgs false
set_option linter.unusedVariables false
end Go.Proofs.YtedcnhbblgmdnaaGreat.Ab
namespace Go.Proofs.YtedcnhbblgmdnaaGreat.Ab
set_option maxHeartbeats 8000000
set_option maxRecDepth 10000
set_option linter.unusedSimpArgs false
set_option linter.unusedVariables false
/-! ### slices that are objects of the state -/
theorem allM_p : ∀ (l : List Pd), allM purS (l.map .p) = some l
  | [] => rfl
  | x :: r => by simp only [List.map_cons, allM, purS, allM_p r]
def cB (l : List Bkt) : List C := (l.flatMap Bkt.pd).map .p
theorem cB_app (l m : List Bkt) : cB (l ++ m) = cB l ++ cB m := by simp [cB]
/-- A slice of buckets, and its object. -/
def GB (x : C) (l : List Bkt) (G : List (Nat × Ob)) : Prop := (x = .nils ∧ l = [] ∧ G = []) ∨ ∃ id, x = .gs l.length id 0 l.length 10 ∧ G = [(id, .grow 10 l.length (cB l) false)]
/-- Two buckets may be joined: no number is too great. -/
structure JB (a b : Bkt) : Prop where
  l1 : -1099511627776 ≤ a.l
  l2 : a.l ≤ 1099511627776
  f1 : -1099511627776 ≤ b.f
  f2 : b.f ≤ 1099511627776
  i1 : -4611686018427387904 ≤ a.inc + b.inc
  i2 : a.inc + b.inc ≤ 4611686018427387904
  c1 : -4611686018427387904 ≤ a.c + b.c
  c2 : a.c + b.c ≤ 4611686018427387904
  s1 : -9223372036854775808 ≤ a.s + b.s
  s2 : a.s + b.s ≤ 9223372036854775807
theorem OA.putB {s : St} {c k : Nat} {o : Ob} {L : List (Nat × D × Nat × List Pd)} {M : List (Nat × Ob)} (h : OA k s L M) (hc : k < c) : OA c (s.put k o) L M := (h.put (Nat.le_refl _)).mono hc
theorem OAs.putB {c key k : Nat} {s : St} {o : Ob} {L : List (Nat × D × Nat × List Pd)} {M1 M2 : List (Nat × Ob)} (h : OAs key s L M1 k M2) (hc : key < c) : OAs c (s.put key o) L M1 k M2 := by
  obtain ⟨o', h⟩ := h; exact ⟨o', OA.putB h hc⟩
end Go.Proofs.YtedcnhbblgmdnaaGreat.Ab
namespace Go.Proofs.YtedcnhbblgmdnaaGreat.Ab
set_option maxHeartbeats 8000000
set_option maxRecDepth 10000
set_option linter.unusedSimpArgs false
set_option linter.unusedVariables false
def zR : Rlp := ⟨[], 0, 0, []⟩
abbrev resR (x : Rlp) (e : Int) : D := .tup [.agg (x.pd.map .p), .c (.p (pI e))]
def limB (x : Rlp) : Bool := bigB x.bs || decide (2000 < x.bs.length)
end Go.Proofs.YtedcnhbblgmdnaaGreat.Ab
namespace Go.Proofs.YtedcnhbblgmdnaaGreat.Ab
set_option maxHeartbeats 8000000
set_option maxRecDepth 10000
set_option linter.unusedSimpArgs false
set_option linter.unusedVariables false
/-- A valid gauge or counter. -/
structure Sv (x : Ser) : Prop where
  lb : lckA x.lb = 0
  k : x.k = 1 ∨ x.k = 2
  ne : x.sm ≠ []
  len : x.sm.length ≤ 2000
  srt : x.sm.Pairwise (fun a b => a.1 < b.1)
  ok : ∀ y ∈ x.sm, okS x.k y
  hs : x.hs = []
/-- A bucket within bounds. -/
structure WB (b : Bkt) : Prop where
  c1 : 0 ≤ b.c
  c2 : b.c ≤ 1000000
  f1 : -1099511627776 ≤ b.f
  f2 : b.f ≤ 1099511627776
  l1 : -1099511627776 ≤ b.l
  l2 : b.l ≤ 1099511627776
  i1 : -1152921504606846976 ≤ b.inc
  i2 : b.inc ≤ 1152921504606846976
  s1 : -1152921504606846976 ≤ b.s
  s2 : b.s ≤ 1152921504606846976
theorem JB.of {a b : Bkt} (ha : WB a) (hb : WB b) : JB a b := by
  obtain ⟨a1, a2, a3, a4, a5, a6, a7, a8, a9, a10⟩ := ha
  obtain ⟨b1, b2, b3, b4, b5, b6, b7, b8, b9, b10⟩ := hb
  constructor <;> omega
theorem WB.single {k w : Int} {x : I2} (h : okS k x) : WB (single w x) := by
  obtain ⟨h1, h2, h3⟩ := h
  constructor <;> simp only [Ab.single] <;> omega
def ofC (x : Ser) (w : Int) : Int := if serOK x = false then 1 else if x.k = 3 then 8 else if btw w 1 1099511627776 = false then 2 else 0
/-- The rollup of a series. -/
def ofR (x : Ser) (w : Int) : Rlp := if ofC x w = 0 then ⟨x.lb, x.k, w, ofB x.k w x.sm⟩ else zR
theorem cB_all (l : List Bkt) : allM purS (cB l) = some (l.flatMap Bkt.pd) := allM_p _
theorem GB.pur {b : Nat} {s : St} {L : List (Nat × D × Nat × List Pd)} {M G : List (Nat × Ob)} {x : C} {l : List Bkt} (ho : OA b s L (G ++ M)) (h : GB x l G) : ∃ s', purC s x = some (.lst l.length (l.flatMap Bkt.pd), s') := by
  rcases h with ⟨rfl, rfl, rfl⟩ | ⟨id, rfl, rfl⟩
  · exact ⟨s, rfl⟩
  · have g : s.get id = some (.grow 10 l.length (cB l) false) := ho.at_ (id, .grow 10 l.length (cB l) false) (by simp)
    have hf : (l.flatMap Bkt.pd).length = l.length * 10 := flat_len (k := 10) (fun _ => rfl) l
    refine ⟨s.put id (.grow 10 l.length ((l.flatMap Bkt.pd).map .p) true), ?_⟩
    simp only [purC, g, cB_all, true_and, Nat.zero_add, hf, Nat.le_refl, if_true, List.drop_zero]
    rw [List.take_of_length_le (by omega)]
end Go.Proofs.YtedcnhbblgmdnaaGreat.Ab
namespace Go.Proofs.YtedcnhbblgmdnaaGreat.Ab
set_option maxHeartbeats 8000000
set_option maxRecDepth 10000
set_option linter.unusedSimpArgs false
set_option linter.unusedVariables false
/-! ### the buckets of a series, in the program's way -/
end Go.Proofs.YtedcnhbblgmdnaaGreat.Ab
namespace Go.Proofs.YtedcnhbblgmdnaaGreat.Ab
set_option maxHeartbeats 8000000
set_option maxRecDepth 10000
set_option linter.unusedSimpArgs false
set_option linter.unusedVariables false
end Go.Proofs.YtedcnhbblgmdnaaGreat.Ab
namespace Go.Proofs.YtedcnhbblgmdnaaGreat.Ab
set_option maxHeartbeats 8000000
set_option maxRecDepth 10000
set_option linter.unusedSimpArgs false
set_option linter.unusedVariables false
end Go.Proofs.YtedcnhbblgmdnaaGreat.Ab
namespace Go.Proofs.YtedcnhbblgmdnaaGreat.Ab
set_option maxHeartbeats 8000000
set_option maxRecDepth 10000
set_option linter.unusedSimpArgs false
set_option linter.unusedVariables false
end Go.Proofs.YtedcnhbblgmdnaaGreat.Ab
namespace Go.Proofs.YtedcnhbblgmdnaaGreat.Ab
set_option maxHeartbeats 8000000
set_option maxRecDepth 10000
set_option linter.unusedSimpArgs false
set_option linter.unusedVariables false
/-- The same as trOK, paths looked up first. -/
def trOK3 (ops : Array Oper) : List Tr → Bool
  | [] => true
  | x :: r => (r.all fun y => dirEdge ops y.i x.i || (reach ops 9 y.i x.i || freeOK x y)) && trOK3 ops r
theorem trOK_eq3 (ops : Array Oper) : ∀ l, trOK ops l = trOK3 ops l
  | [] => rfl
  | x :: r => by
    rw [trOK, trOK3, trOK_eq3 ops r]
    congr 2
    funext y
    unfold pairOK hasEdge
    cases dirEdge ops y.i x.i <;> cases freeOK x y <;> cases reach ops 9 y.i x.i <;> rfl
theorem GB.app {b key : Nat} {s : St} {L : List (Nat × D × Nat × List Pd)} {M G : List (Nat × Ob)} {x : C} {l m : List Bkt} {y : D} {K : D → St → Prop} (ho : OA b s L (G ++ M)) (hx : GB x l G) (hkey : b ≤ key) (hn : l.length + m.length < 2^30) (hy : srcD E0 29 s y = some (m.length, m.flatMap Bkt.pd)) (hm : m ≠ [])
    (hk : ∀ x' G' s', OA (key + 1) s' L (G' ++ M) → s'.nx = s.nx → GB x' (l ++ m) G' → K (.v (.c x')) s') : stepK (appendD E0 key [29, 29] (.v (.c x)) y s) K := by
  have hfl : (m.flatMap Bkt.pd).length = m.length * 10 := flat_len (k := 10) (fun _ => rfl) m
  have hm0 : 0 < m.length := List.length_pos_iff.2 hm
  rcases hx with ⟨rfl, rfl, rfl⟩ | ⟨id, rfl, rfl⟩
  · refine OA.appN (by_ := 80) (m := m.length) (ys := m.flatMap Bkt.pd) (L := L) (M := M) ho hkey rfl ⟨_, ti29, rfl⟩ ti41 rfl rfl rfl (by decide) (by decide) hy hfl hm0 (by simp only [List.length_nil] at hn; omega) fun s' hs hnx => ?_
    exact hk _ [(key, .grow 10 m.length (cB m) false)] s' hs hnx (.inr ⟨key, by simp, by simp⟩)
  · refine OA.appG (M1 := []) (M2 := M) (by_ := 80) (n := l.length) (m := m.length) (ys := m.flatMap Bkt.pd) (cs := cB l) (L := L) ho rfl ⟨_, ti29, rfl⟩ ti41 rfl rfl rfl (by decide) (by decide) hy hfl (by omega) fun s' hs hnx => ?_
    refine hk _ [(id, .grow 10 (l.length + m.length) (cB l ++ (m.flatMap Bkt.pd).map .p) false)] s' (hs.mono (by omega)) hnx (.inr ⟨id, by rw [List.length_append], by rw [List.length_append, cB_app]; rfl⟩)
end Go.Proofs.YtedcnhbblgmdnaaGreat.Ab
namespace Go.Proofs.YtedcnhbblgmdnaaGreat.Ab
set_option maxHeartbeats 8000000
set_option maxRecDepth 10000
set_option linter.unusedSimpArgs false
set_option linter.unusedVariables false
end Go.Proofs.YtedcnhbblgmdnaaGreat.Ab
namespace Go.Proofs.YtedcnhbblgmdnaaGreat.Ab
set_option maxHeartbeats 8000000
set_option maxRecDepth 10000
set_option linter.unusedSimpArgs false
set_option linter.unusedVariables false
theorem b10 : ((1 : Int) != 0) = true := rfl
end Go.Proofs.YtedcnhbblgmdnaaGreat.Ab
namespace Go.Proofs.YtedcnhbblgmdnaaGreat.Ab
set_option maxHeartbeats 8000000
set_option maxRecDepth 10000
set_option linter.unusedSimpArgs false
set_option linter.unusedVariables false
/-! ### valid rollups -/
structure VB (w : Int) (b : Bkt) : Prop where
  c1 : 1 ≤ b.c
  c2 : b.c ≤ 2000
  f1 : -1099511627776 ≤ b.f
  f2 : b.f ≤ 1099511627776
  l1 : -1099511627776 ≤ b.l
  l2 : b.l ≤ 1099511627776
  i1 : 0 ≤ b.inc
  i2 : b.inc ≤ 2197923743924224
  s1 : -2199023255552000 ≤ b.s
  s2 : b.s ≤ 2199023255552000
  t0 : 0 ≤ b.st
  t1 : b.st < 1099511627776
  t2 : b.st < b.ft
  t3 : b.ft ≤ b.lt
  t4 : b.lt ≤ b.st + w
  t5 : b.lt ≤ 1099511627776
  tm : b.st.tmod w = 0
theorem VB.of {k w : Int} {b : Bkt} (hk : k = 1 ∨ k = 2) (h : bkA k w b = true) (t0 : 0 ≤ b.st) (t1 : b.st < 1099511627776) (tm : b.st.tmod w = 0) : VB w b := by
  have hv : ∀ v, okV k v = true → -1099511627776 ≤ v ∧ v ≤ 1099511627776 := fun v hv => by
    simp only [okV, isVl, Bool.and_eq_true, decide_eq_true_eq] at hv
    exact hv.1
  simp only [bkA, Bool.and_eq_true, Bool.not_eq_true'] at h
  obtain ⟨h1, h2, h3, h4, h5, h6, h7⟩ := h
  simp only [bkA1, Bool.or_eq_false_iff, decide_eq_false_iff_not] at h1
  simp only [bkA2, Bool.or_eq_false_iff, decide_eq_false_iff_not] at h2
  simp only [bkA3, Bool.and_eq_true] at h3
  simp only [bkA5, Bool.or_eq_false_iff, decide_eq_false_iff_not] at h5
  simp only [bkA6, Bool.or_eq_false_iff, decide_eq_false_iff_not] at h6
  obtain ⟨m1, m2⟩ := hv _ h3.1
  obtain ⟨x1, x2⟩ := hv _ h3.2.1
  obtain ⟨f1, f2⟩ := hv _ h3.2.2.1
  obtain ⟨l1, l2⟩ := hv _ h3.2.2.2
  have c1 : 1 ≤ b.c := by omega
  have c2 : b.c ≤ 2000 := by omega
  have a1 := mulB c1 c2 m1 m2
  have a2 := mulB c1 c2 x1 x2
  exact ⟨c1, c2, f1, f2, l1, l2, by omega, by omega, by omega, by omega, t0, t1, by omega, by omega, by omega, by omega, tm⟩
structure Rv (x : Rlp) : Prop where
  lb : lckA x.lb = 0
  k : x.k = 1 ∨ x.k = 2
  w1 : 1 ≤ x.w
  w2 : x.w ≤ 1099511627776
  ne : x.bs ≠ []
  len : x.bs.length ≤ 2000
  asc : AscB x.bs
  vb : ∀ b ∈ x.bs, VB x.w b
/-- What n valid buckets come to, joined. -/
structure Wn (n : Int) (b : Bkt) : Prop where
  c1 : 0 ≤ b.c
  c2 : b.c ≤ n * 2000
  f1 : -1099511627776 ≤ b.f
  f2 : b.f ≤ 1099511627776
  l1 : -1099511627776 ≤ b.l
  l2 : b.l ≤ 1099511627776
  i1 : -(n * 2200122767179776) ≤ b.inc
  i2 : b.inc ≤ n * 2200122767179776
  s1 : -(n * 2199023255552000) ≤ b.s
  s2 : b.s ≤ n * 2199023255552000
theorem Wn.more {n m : Int} {b : Bkt} (h : Wn n b) (hm : n ≤ m) : Wn m b := by
  obtain ⟨c1, c2, f1, f2, l1, l2, i1, i2, s1, s2⟩ := h
  constructor <;> omega
theorem Wn.join {w n k : Int} {a b : Bkt} (ha : Wn n a) (hb : VB w b) (h0 : 0 ≤ n) : Wn (n + 1) (joinB k a b) := by
  obtain ⟨c1, c2, f1, f2, l1, l2, i1, i2, s1, s2⟩ := ha
  obtain ⟨d1, d2, g1, g2, m1, m2, j1, j2, t1, t2, _⟩ := hb
  have hst : -2199023255552 ≤ stepV a.l b.f ∧ stepV a.l b.f ≤ 2199023255552 := by unfold stepV; split <;> omega
  constructor <;> simp only [joinB] <;> first | omega | (split <;> omega)
end Go.Proofs.YtedcnhbblgmdnaaGreat.Ab
namespace Go.Proofs.YtedcnhbblgmdnaaGreat.Ab
set_option maxHeartbeats 8000000
set_option maxRecDepth 10000
set_option linter.unusedSimpArgs false
set_option linter.unusedVariables false
theorem St.put_adv (s : St) (k n : Nat) (o : Ob) : (s.put k o).adv n = (s.adv n).put k o := rfl
def coP (x : Rlp) (f : Int) : Rlp := ⟨x.lb, x.k, x.w * f, coarB x.k (x.w * f) x.bs⟩
def coC (x : Rlp) (f : Int) : Int := if rlpOK x = false then 1 else if f < 1 ∨ Int.tdiv 1099511627776 x.w < f then 2 else if limB (coP x f) then 4 else 0
/-- A coarser rollup. -/
def coR (x : Rlp) (f : Int) : Rlp := if coC x f = 0 then coP x f else zR
end Go.Proofs.YtedcnhbblgmdnaaGreat.Ab
namespace Go.Proofs.YtedcnhbblgmdnaaGreat.Ab
set_option maxHeartbeats 8000000
set_option maxRecDepth 10000
set_option linter.unusedSimpArgs false
set_option linter.unusedVariables false
theorem GB.len {x : C} {l : List Bkt} {G : List (Nat × Ob)} (h : GB x l G) : lenD E0 29 (.v (.c x)) = some (.v (.c (.p (.int .i64 l.length)))) := by
  rcases h with ⟨rfl, rfl, _⟩ | ⟨id, rfl, _⟩
  · rw [lenD_nils, ti29]; rfl
  · rw [lenD_gs, ti29]; rfl
end Go.Proofs.YtedcnhbblgmdnaaGreat.Ab
