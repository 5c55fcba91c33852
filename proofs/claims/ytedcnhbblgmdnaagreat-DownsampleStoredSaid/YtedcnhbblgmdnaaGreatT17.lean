/- A part of the proof: an evaluator of the code, its contracts, the law. No condition. -/
import Derived.Test.YtedcnhbblgmdnaaGreatT16
namespace Go.Proofs.YtedcnhbblgmdnaaGreat.Ab
set_option maxHeartbeats 4000000
set_option maxRecDepth 10000
set_option linter.unusedSimpArgs false
set_option linter.unusedVariables false
theorem min2 (a b : Int) : foldO minD (.v (.c (.p (.int .i64 a)))) [.v (.c (.p (.int .i64 b)))] = some (.v (.c (.p (.int .i64 (min a b))))) := by
  simp only [foldO, minD, P', if_true, Option.some.injEq, D.v.injEq, V.c.injEq, C.p.injEq, Pd.int.injEq, true_and, decide_eq_true_eq]
  split <;> omega
theorem max2 (a b : Int) : foldO maxD (.v (.c (.p (.int .i64 a)))) [.v (.c (.p (.int .i64 b)))] = some (.v (.c (.p (.int .i64 (max a b))))) := by
  simp only [foldO, maxD, P', if_true, Option.some.injEq, D.v.injEq, V.c.injEq, C.p.injEq, Pd.int.injEq, true_and, decide_eq_true_eq]
  split <;> omega
end Go.Proofs.YtedcnhbblgmdnaaGreat.Ab
/- Histograms: the two ways to tell whether there are values with a histogram's numbers come to the same. -/
namespace Go.Proofs.YtedcnhbblgmdnaaGreat.Ab
set_option linter.unusedVariables false
set_option linter.unusedSimpArgs false
def sumI (f : Nat → Int × Int → Int) : Nat → List (Int × Int) → Int
  | _, [] => 0
  | i, b :: r => f i b + sumI f (i + 1) r
/-- How many values there are. -/
def cnt (l : List (Int × Int)) : Int := sumI (fun _ b => b.2) 0 l
theorem sumI_bound {f : Nat → Int × Int → Int} {m : Int} : ∀ {l : List (Int × Int)} {i : Nat}, (∀ j b, l[j]? = some b → 0 ≤ f (i + j) b ∧ f (i + j) b ≤ m * b.2) → 0 ≤ sumI f i l ∧ sumI f i l ≤ m * sumI (fun _ b => b.2) i l
  | [], i, h => by simp [sumI]
  | b :: r, i, h => by
    have h1 := h 0 b rfl
    have h2 := sumI_bound (f := f) (m := m) (l := r) (i := i + 1) fun j c hj => by
      have := h (j + 1) c (by simpa using hj)
      have e : i + 1 + j = i + (j + 1) := by omega
      rw [e]; exact this
    simp only [sumI, Int.mul_add]
    simp only [Nat.add_zero] at h1
    omega
abbrev mxv : Int := 1099511627776
def leastP (q : Nat) (mn mx : Int) (bs : List (Int × Int)) (last : Int × Int) : Int := sumI (fun _ b => max (lo q b.1.toNat : Int) mn * b.2) 0 bs + (mx - max (lo q last.1.toNat : Int) mn)
def greatP (q : Nat) (mn mx : Int) (bs : List (Int × Int)) (first : Int × Int) : Int := sumI (fun _ b => min (hi q b.1.toNat : Int) mx * b.2) 0 bs - (min (hi q first.1.toNat : Int) mx - mn)
def lowR (q : Nat) (mn : Int) (i : Nat) (b : Int × Int) : Int := if i = 0 then mn else (lo q b.1.toNat : Int)
def highR (q : Nat) (mx : Int) (n i : Nat) (b : Int × Int) : Int := if i + 1 = n then mx else (hi q b.1.toNat : Int)
def termL (q : Nat) (mn : Int) (n i : Nat) (b : Int × Int) : Int := lowR q mn i b * b.2 + (if i + 1 = n then mn - lowR q mn i b else 0)
def termM (q : Nat) (mx : Int) (n i : Nat) (b : Int × Int) : Int := highR q mx n i b * b.2 + (if i = 0 then mx - highR q mx n i b else 0)
def leastR (q : Nat) (mn mx : Int) (bs : List (Int × Int)) : Int := (mx - mn) + sumI (termL q mn bs.length) 0 bs
def mostR (q : Nat) (mn mx : Int) (bs : List (Int × Int)) : Int := (mn - mx) + sumI (termM q mx bs.length) 0 bs
/-- What is told of the buckets. -/
structure BsOK (q : Nat) (bs : List (Int × Int)) : Prop where
  lo0 : ∀ b ∈ bs, 0 ≤ b.1 ∧ b.1 ≤ ((41 - q) * 2 ^ q : Nat)
  cn : ∀ b ∈ bs, 1 ≤ b.2
  asc : ∀ (i j : Nat) (b c : Int × Int), i < j → bs[i]? = some b → bs[j]? = some c → b.1 < c.1
section
variable {q : Nat} {bs : List (Int × Int)} {mn mx : Int} {f l : Int × Int}
end
/-- The program's way. -/
def agr1 (q : Nat) (s mn mx : Int) (bs : List (Int × Int)) (f l : Int × Int) (t : Int) : Bool :=
  if mn < 0 ∨ mxv < mn ∨ mx < 0 ∨ mxv < mx ∨ mx < mn then false
  else if (ix q mn.toNat : Int) ≠ f.1 ∨ (ix q mx.toNat : Int) ≠ l.1 then false
  else if t = 1 ∧ mn ≠ mx then false
  else decide (leastP q mn mx bs l ≤ s) && decide (s ≤ greatP q mn mx bs f)
/-- The reference's way. -/
def fit1 (q : Nat) (s mn mx : Int) (bs : List (Int × Int)) (f l : Int × Int) (t : Int) : Bool :=
  if mn < 0 ∨ mxv < mx ∨ mx < mn then false
  else if (ix q mn.toNat : Int) ≠ f.1 ∨ (ix q mx.toNat : Int) ≠ l.1 then false
  else if t = 1 then decide (mn = mx) && decide (s = mn)
  else decide (leastR q mn mx bs ≤ s) && decide (s ≤ mostR q mn mx bs)
end Go.Proofs.YtedcnhbblgmdnaaGreat.Ab
namespace Go.Proofs.YtedcnhbblgmdnaaGreat.Ab
set_option maxHeartbeats 4000000
set_option maxRecDepth 10000
set_option linter.unusedSimpArgs false
set_option linter.unusedVariables false
end Go.Proofs.YtedcnhbblgmdnaaGreat.Ab
namespace Go.Proofs.YtedcnhbblgmdnaaGreat.Ab
set_option maxHeartbeats 8000000
set_option maxRecDepth 10000
set_option linter.unusedSimpArgs false
set_option linter.unusedVariables false
/-- Whether there are values with a histogram's numbers. -/
def agrB (h : Hst) (q : Nat) (t : Int) : Bool := if h.c ≠ t then false else if t = 0 then decide (h.s = 0) && (decide (h.mn = 0) && decide (h.mx = 0)) else match h.bs[0]?, h.bs[h.bs.length - 1]? with
  | some f, some l => agr1 q h.s h.mn h.mx h.bs f l t
  | _, _ => false
theorem St.adv_adv (s : St) (m n : Nat) : (s.adv m).adv n = s.adv (m + n) := by simp [St.adv, Nat.add_assoc]
end Go.Proofs.YtedcnhbblgmdnaaGreat.Ab
namespace Go.Proofs.YtedcnhbblgmdnaaGreat.Ab
set_option maxHeartbeats 8000000
set_option maxRecDepth 10000
set_option linter.unusedSimpArgs false
set_option linter.unusedVariables false
/-- Why a list is no list of buckets, behind an index. -/
def bck (last : Int) : Int → List I2 → Int
  | _, [] => 0
  | p, b :: r => if b.1 < 0 ∨ last < b.1 ∨ b.2 < 1 ∨ 1048576 < b.2 then 2 else if b.1 ≤ p then 9 else bck last b.1 r
def prevB (l : List I2) (i : Nat) : Int := if i = 0 then -1 else ((l[i - 1]?).map (·.1)).getD 0
/-- Why a histogram is not valid. -/
def hck (h : Hst) : Int := if h.p < 0 ∨ 8 < h.p then 2 else if 500 < h.bs.length then 4 else if bck (ix h.p.toNat 1099511627776) (-1) h.bs ≠ 0 then bck (ix h.p.toNat 1099511627776) (-1) h.bs else if 1048576 < cnt h.bs then 4 else if agrB h h.p.toNat (cnt h.bs) = false then 10 else 0
end Go.Proofs.YtedcnhbblgmdnaaGreat.Ab
namespace Go.Proofs.YtedcnhbblgmdnaaGreat.Ab
set_option maxHeartbeats 8000000
set_option maxRecDepth 10000
set_option linter.unusedSimpArgs false
set_option linter.unusedVariables false
/-- What a histogram's reference functions ask. -/
structure HCx (h : Hst) (q : Nat) : Prop where
  q8 : q ≤ 8
  p : h.p = q
  bs : BsOK q h.bs
  n : h.bs.length ≤ 500
  c : cnt h.bs ≤ 1048576
  a : 0 ≤ h.mn
  b : h.mn ≤ h.mx
  d : h.mx ≤ 1099511627776
theorem HCx.lo {h : Hst} {q : Nat} (x : HCx h q) {b : I2} (hb : b ∈ h.bs) : b.1.toNat ≤ (41 - q) * 2 ^ q ∧ (Go.Proofs.YtedcnhbblgmdnaaGreat.Ab.lo q b.1.toNat : Int) ≤ 1099511627776 ∧ (hi q b.1.toNat : Int) ≤ 1099511627776 ∧ 1 ≤ b.2 ∧ 0 ≤ b.1 := by
  have h0 := x.bs.lo0 b hb
  have h1 : b.1.toNat ≤ (41 - q) * 2 ^ q := by omega
  have h2 := lo_last x.q8 h1
  have h3 : hi q b.1.toNat ≤ 1099511627776 := Nat.min_le_right _ _
  have h4 := x.bs.cn b hb
  omega
theorem HCx.lowR {h : Hst} {q : Nat} (x : HCx h q) {i : Nat} {b : I2} (hb : b ∈ h.bs) : 0 ≤ lowR q h.mn i b ∧ lowR q h.mn i b ≤ 1099511627776 := by
  have h1 := x.lo hb
  have := x.a; have := x.b; have := x.d
  unfold Go.Proofs.YtedcnhbblgmdnaaGreat.Ab.lowR
  split <;> omega
theorem HCx.highR {h : Hst} {q : Nat} (x : HCx h q) {i : Nat} {b : I2} (hb : b ∈ h.bs) : 0 ≤ highR q h.mx h.bs.length i b ∧ highR q h.mx h.bs.length i b ≤ 1099511627776 := by
  have h1 := x.lo hb
  have := x.a; have := x.b; have := x.d
  unfold Go.Proofs.YtedcnhbblgmdnaaGreat.Ab.highR
  split <;> omega
theorem HCx.mulB {h : Hst} {q : Nat} (x : HCx h q) {g : Nat → I2 → Int} (hg : ∀ (i : Nat) (b : I2), b ∈ h.bs → 0 ≤ g i b ∧ g i b ≤ 1099511627776) (i : Nat) : 0 ≤ sumI (fun i b => g i b * b.2) 0 (h.bs.take i) ∧ sumI (fun i b => g i b * b.2) 0 (h.bs.take i) ≤ 1099511627776 * cnt (h.bs.take i) := by
  refine sumI_bound (m := 1099511627776) fun j c hc => ?_
  have hcm := List.mem_of_mem_take (List.mem_of_getElem? hc)
  have h1 := hg (0 + j) c hcm
  have h2 := x.bs.cn c hcm
  exact ⟨Int.mul_nonneg h1.1 (by omega), Int.mul_le_mul_of_nonneg_right h1.2 (by omega)⟩
end Go.Proofs.YtedcnhbblgmdnaaGreat.Ab
namespace Go.Proofs.YtedcnhbblgmdnaaGreat.Ab
set_option maxHeartbeats 8000000
set_option maxRecDepth 10000
set_option linter.unusedSimpArgs false
set_option linter.unusedVariables false
end Go.Proofs.YtedcnhbblgmdnaaGreat.Ab
namespace Go.Proofs.YtedcnhbblgmdnaaGreat.Ab
set_option maxHeartbeats 8000000
set_option maxRecDepth 10000
set_option linter.unusedSimpArgs false
set_option linter.unusedVariables false
end Go.Proofs.YtedcnhbblgmdnaaGreat.Ab
namespace Go.Proofs.YtedcnhbblgmdnaaGreat.Ab
set_option maxHeartbeats 8000000
set_option maxRecDepth 10000
set_option linter.unusedSimpArgs false
set_option linter.unusedVariables false
/-- Whether a list is one of valid histograms, behind a time. -/
def vh : Int → List HSm → Bool
  | _, [] => true
  | p, x :: r => if x.t ≤ p ∨ 1099511627776 < x.t ∨ hck x.h ≠ 0 then false else vh x.t r
def validH (l : List HSm) : Bool := !(l.length == 0) && decide (l.length ≤ 2000) && vh 0 l
def prevH (l : List HSm) (i : Nat) : Int := if i = 0 then 0 else ((l[i - 1]?).map (·.t)).getD 0
/-- A series: labels, kind, samples, histograms. -/
structure Ser where
  lb : List Lb
  k : Int
  sm : List I2
  hs : List HSm
abbrev Ser.pd (x : Ser) : List Pd := [.lst x.lb.length (x.lb.flatMap lbP), pI x.k, .lst x.sm.length (x.sm.flatMap p2), .lst x.hs.length (x.hs.flatMap HSm.pd)]
/-- A series that isn't too long for the machine. -/
structure Ser.Sz (x : Ser) : Prop where
  lb : x.lb.length < 2^40
  ls : ∀ y ∈ x.lb, y.1.length < 2^50 ∧ y.2.length < 2^50
  sm : x.sm.length < 2^40
  hs : x.hs.length < 2^40
  hb : ∀ y ∈ x.hs, y.h.bs.length < 2^60
def serOK (x : Ser) : Bool := if lckA x.lb ≠ 0 then false else if x.k = 3 then (x.sm.length == 0) && validH x.hs else (x.hs.length == 0) && (!(x.sm.length == 0) && (sckA x.k x.sm == 0))
end Go.Proofs.YtedcnhbblgmdnaaGreat.Ab
namespace Go.Proofs.YtedcnhbblgmdnaaGreat.Ab
set_option maxHeartbeats 8000000
set_option maxRecDepth 10000
set_option linter.unusedSimpArgs false
set_option linter.unusedVariables false
end Go.Proofs.YtedcnhbblgmdnaaGreat.Ab
namespace Go.Proofs.YtedcnhbblgmdnaaGreat.Ab
set_option maxHeartbeats 4000000
set_option linter.unusedSimpArgs false
set_option linter.unusedVariables false
theorem encT_len {l : List Int} (h : (encT l).2 = 0) : (encT l).1.length ≤ 40 + 20 * l.length := by
  unfold encT at *
  by_cases hc : chkT l = 0
  · rw [if_pos hc]
    obtain ⟨hl2, hV⟩ := chkT_ok hc
    have hR : ∀ x ∈ l, inR x = true := fun x hx => by have := hV x hx; simp [inR]; omega
    have hD := diffs_mem hV
    have hDR : ∀ x ∈ diffs l, inR x = true := fun x hx => by have := hD x hx; simp [inR]; omega
    have hDD := diffs_mem hD
    have hDDR : (diffs (diffs l)).all inR = true := List.all_eq_true.2 fun d hd => by have := hDD d hd; simp [inR]; omega
    have hdl := diffs_len l
    have hddl := diffs_len (diffs l)
    have hrl := runE_len _ (diffs (diffs l)) (Nat.le_refl _) hDDR (by omega)
    have f1 := first1_len hR
    have f2 := first1_len hDR
    have hvl := vb_len10 (n := l.length) (by omega)
    simp only [List.length_append]
    omega
  · rw [if_neg hc] at h
    exact absurd h hc
theorem encV_len2 {l : List Int} (h : (encV l).2 = 0) : (encV l).1.length ≤ 40 + 20 * l.length := by
  unfold encV at *
  by_cases h1 : 20000 < l.length
  · rw [if_pos h1] at h; cases h
  rw [if_neg h1] at h ⊢
  by_cases h2 : l.all inV = true
  · rw [if_pos h2]
    have hV := inV_all h2
    have hR : ∀ x ∈ l, inR x = true := fun x hx => inV_R (List.all_eq_true.1 h2 x hx)
    have hdR : (diffs l).all inR = true := List.all_eq_true.2 fun d hd => by have := diffs_mem hV d hd; simp [inR]; omega
    have hdl := diffs_len l
    have hrl := runE_len _ (diffs l) (Nat.le_refl _) hdR (by omega)
    have f1 := first1_len hR
    have hvl := vb_len10 (n := l.length) (by omega)
    simp only [List.length_append]
    omega
  · rw [if_neg h2] at h; cases h
theorem encI_len2 {l : List Int} (h : (encI l).2 = 0) : (encI l).1.length ≤ 40 + 20 * l.length := by
  unfold encI at *
  by_cases h1 : 20000 < l.length
  · rw [if_pos h1] at h; cases h
  rw [if_neg h1] at h ⊢
  by_cases h2 : l.all inR = true
  · rw [if_pos h2]
    have hvl := vb_len10 (n := l.length) (by omega)
    have := encL_len l h2
    simp only [List.length_append]
    omega
  · rw [if_neg h2] at h; cases h
theorem encF_len {f : Int} {l : List Int} (h : (encF f l).2 = 0) : (encF f l).1.length ≤ 40 + 20 * l.length := by
  unfold encF at *
  split at h
  · rename_i h0; rw [if_pos h0]; exact encT_len h
  · split at h
    · rename_i h0 h1; rw [if_neg h0, if_pos h1]; exact encV_len2 h
    · rename_i h0 h1; rw [if_neg h0, if_neg h1]; exact encI_len2 h
/-- Encoded columns; none: one is too long. -/
def colsOK (cs : List (List UInt8 × Int)) : Option (List (List UInt8)) := if cs.all (fun c => c.2 == 0) then some (cs.map (·.1)) else none
theorem colsOK_cons (c : List UInt8 × Int) (r : List (List UInt8 × Int)) : colsOK (c :: r) = if c.2 = 0 then (match colsOK r with
    | some ss => some (c.1 :: ss)
    | none => none) else none := by
  unfold colsOK
  by_cases h : c.2 = 0
  · have hb : (c.2 == 0) = true := by simpa using h
    rw [if_pos h, List.all_cons, hb, Bool.true_and, List.map_cons]
    cases r.all (fun c => c.2 == 0) <;> rfl
  · have hb : (c.2 == 0) = false := by simpa using h
    rw [if_neg h, List.all_cons, hb, Bool.false_and]; rfl
theorem packE_cols {A : Type} (l : List A) : ∀ cols : List (Col A), packE l cols = colsOK (cols.map fun c => encF c.f (l.map c.get))
  | [] => rfl
  | c :: r => by rw [List.map_cons, colsOK_cons, packE, packE_cols l r]; rfl
def smpCs (l : List I2) : List (List UInt8 × Int) := [encT (l.map (·.1)), encV (l.map (·.2))]
def hstCs (l : List HSm) : List (List UInt8 × Int) :=
  [encT (l.map (·.t)), encV (l.map (·.h.p)), encV (l.map (·.h.c)), encV (l.map (·.h.mn)), encV (l.map (·.h.mx)), encV (l.map fun x => (x.h.bs.length : Int)), encV ((l.flatMap (·.h.bs)).map (·.1)), encV ((l.flatMap (·.h.bs)).map (·.2)), encI (l.map (·.h.s))]
/-! ### the parts, one behind the other -/
def flatP (ss : List (List UInt8)) : List UInt8 := ss.flatMap fun s => vb s.length ++ s
theorem jn_eq : ∀ (ss : List (List UInt8)) (t : List UInt8), t.length ≤ 262144 → jn t ss = if 262144 < (t ++ flatP ss).length then none else some (t ++ flatP ss)
  | [], t, h => by
    have e : t ++ flatP [] = t := by simp [flatP]
    rw [e, if_neg (by omega)]; rfl
  | s :: r, t, h => by
    have e : t ++ flatP (s :: r) = (t ++ vb s.length ++ s) ++ flatP r := by simp [flatP]
    rw [e]
    simp only [jn]
    by_cases h1 : 262144 < (t ++ vb s.length ++ s).length
    · rw [if_pos h1, if_pos (by rw [List.length_append]; omega)]
    · rw [if_neg h1, jn_eq r _ (by omega)]
/-- What both encoders come to, out of the columns. -/
def encC (sig : Int) (lab : Pd) (z : List Pd) (t : List UInt8) (cs : List (List UInt8 × Int)) : D := match colsOK cs with
  | none => .tup [noCh, .c (.p (pI 4))]
  | some ss => finE sig lab z (jn t ss)
/-! ### zones -/
def zfold (l : List I2) : Zo := l.foldl (fun z p => z.add p.1 p.2) Zo.none
/-! ### what a valid series is -/
def serCs (x : Ser) : List (List UInt8 × Int) := if x.k = 3 then hstCs x.hs else smpCs x.sm
def serZ (x : Ser) : Zo := if x.k = 3 then zfold (x.hs.map fun y => (y.t, y.h.c)) else zfold x.sm
/-- The cells of a zone whose bits are clear. -/
abbrev Zo.pd (z : Zo) : List Pd := [pI z.c, pI z.t1, pI z.t2, pI z.v1, pI z.v2, .int .u32 0, .int .u32 0, .int .u32 0, .int .u32 0, .int .u32 0, .int .u32 0, .int .u32 0, .int .u32 0]
/-- What Encode comes to. -/
def encS (x : Ser) : D := if serOK x = false then .tup [noCh, .c (.p (pI 1))] else encC 1 (.lst x.lb.length (x.lb.flatMap lbP)) (serZ x).pd (appV [] x.k).1 (serCs x)
end Go.Proofs.YtedcnhbblgmdnaaGreat.Ab
namespace Go.Proofs.YtedcnhbblgmdnaaGreat.Ab
set_option maxHeartbeats 8000000
set_option maxRecDepth 10000
set_option linter.unusedSimpArgs false
set_option linter.unusedVariables false
theorem jn_pre {cs : List (List UInt8 × Int)} {ss : List (List UInt8)} {m : Nat} (h : colsOK cs = some ss) (hl : ∀ c ∈ cs, c.2 = 0 → c.1.length ≤ m) : ∀ s ∈ ss, s.length ≤ m := by
  unfold colsOK at h
  split at h
  · rename_i ha
    cases h
    intro s hs
    obtain ⟨c, hc, rfl⟩ := List.mem_map.1 hs
    exact hl c hc (by simpa using List.all_eq_true.1 ha c hc)
  · cases h
end Go.Proofs.YtedcnhbblgmdnaaGreat.Ab
namespace Go.Proofs.YtedcnhbblgmdnaaGreat.Ab
set_option maxHeartbeats 4000000
set_option maxRecDepth 10000
set_option linter.unusedSimpArgs false
set_option linter.unusedVariables false
/-- What is known of a frame. -/
def Fs (e : List D) (n : Nat) : List (Nat × D) → Prop
  | [] => e.length = n
  | (j, d) :: r => e.getD j .junk = d ∧ Fs e n r
theorem OA.newB {s : St} {c k : Nat} {o : Ob} {L : List (Nat × D × Nat × List Pd)} {M : List (Nat × Ob)} (h : OA k s L M) (hc : k < c) (hf : o.isFront = false) : OA c (s.put k o) L ((k, o) :: M) :=
  (h.new (Nat.le_refl _) hf).mono hc
theorem OA.advB {s : St} {c n : Nat} {L : List (Nat × D × Nat × List Pd)} {M : List (Nat × Ob)} (h : OA c s L M) : OA c (s.adv n) L M := h.adv
/-- One object is laid anew. -/
def OAs (c : Nat) (s : St) (L : List (Nat × D × Nat × List Pd)) (M1 : List (Nat × Ob)) (k : Nat) (M2 : List (Nat × Ob)) : Prop := ∃ o, OA c s L (M1 ++ (k, o) :: M2)
theorem OAs.adv {c n : Nat} {s : St} {L : List (Nat × D × Nat × List Pd)} {M1 M2 : List (Nat × Ob)} {k : Nat} (h : OAs c s L M1 k M2) : OAs c (s.adv n) L M1 k M2 := by
  obtain ⟨o, h⟩ := h; exact ⟨o, h.adv⟩
theorem OAs.put {c : Nat} {s : St} {L : List (Nat × D × Nat × List Pd)} {M1 M2 : List (Nat × Ob)} {k : Nat} {o' : Ob} (h : OAs c s L M1 k M2) (hf : o'.isFront = false := by rfl) : OAs c (s.put k o') L M1 k M2 := by
  obtain ⟨o, h⟩ := h; exact ⟨o', h.set hf⟩
theorem OA.ofS {c : Nat} {s : St} {L : List (Nat × D × Nat × List Pd)} {M1 M2 : List (Nat × Ob)} {k : Nat} {o' : Ob} (h : OAs c s L M1 k M2) (hf : o'.isFront = false := by rfl) : OA c (s.put k o') L (M1 ++ (k, o') :: M2) := by
  obtain ⟨o, h⟩ := h; exact h.set hf
attribute [go_sem] St.put_put
/-- An iterator whose rounds may also end it. -/
def IterG (g : Nat) (cap : List C) (H : St → Prop) (step : Nat → Nat → List V → Prop) (last : Nat → Prop) : Prop :=
  ∃ fn c, E0.fn g = some fn ∧ fn.body = some c ∧ ∀ (l : Nat) (J : Nat → St → Prop) (Z : St → Prop), (∀ i s n, J i s → J i (s.adv n)) → (∀ i s n k o, J i s → s.nx ≤ k → k < s.nx + n → J i ((s.adv n).put k o)) → (∀ s n, Z s → Z (s.adv n)) → (∀ i s, J i s → H s) →
    (∀ i k a s, J i s → step i k a → wpCall E0 (.v (.c (.fn (.yield l) [] []))) (a.map .v) s (fun d s' => (d = P' (.bool true) ∧ J k s') ∨ (d = P' (.bool false) ∧ Z s'))) →
    ∀ s, J 0 s → ∀ Q : D → St → Prop, (∀ d s' i, last i → J i s' → Q d s') → (∀ d s', Z s' → Q d s') →
      Wc E0 none c { e := (V.c (.fn (.yield l) [] []) :: cap.map .c).map .v ++ List.replicate (fn.ntmps - (V.c (.fn (.yield l) [] []) :: cap.map .c).length) (.tup []), ds := [], s := s } (bodyQ E0 fn Q)
/-- How a round ends. -/
def endG (R Z : Prop) : Ex → Prop
  | .normal => R
  | _ => Z
/-- A loop over such an iterator. -/
theorem Wc.iterG {g : Nat} {cap : List C} {H : St → Prop} {step : Nat → Nat → List V → Prop} {last : Nat → Prop} (hi : IterG g cap H step last) {f : Operand} {ps : Array Nat} {assign body : Code} {x : Fr} {Q : Ex → Fr → Prop} {L : List (Nat × D × Nat × List Pd)} {M : List (Nat × Ob)}
    (R : Nat → List (Nat × D × Nat × List Pd) → List (Nat × Ob) → Prop) (Z : Ex → List (Nat × D × Nat × List Pd) → List (Nat × Ob) → Prop) (ht : opd x.e f = .v (.c (.fn (.func g) [] cap))) (ho : OA x.s.nx x.s L M) (h0 : R 0 L M) (hH : ∀ i L M s, R i L M → (∀ y ∈ M, s.get y.1 = some y.2) → H s) (hps : ∀ i k a, step i k a → ps.toList.length = a.length)
    (hround : ∀ i k a (lp : LoopR) (s : St) L M, step i k a → R i L M → OA s.nx s L ((x.s.nx, .loop lp) :: (x.s.nx + 1, .defr) :: M) →
      Wc E0 (some x.s.nx) assign { e := setAll x.e (ps.toList.zip a), ds := [], s := s } fun ex y => ex = .normal ∧ ∃ L1 M1, OA y.s.nx y.s L1 ((x.s.nx, .loop lp) :: (x.s.nx + 1, .defr) :: M1) ∧
        ∀ (lq : LoopR) (s' : St), OA s'.nx s' L1 ((x.s.nx, .loop lq) :: (x.s.nx + 1, .defr) :: M1) → Wc E0 (some x.s.nx) body { e := y.e, ds := [], s := s' } fun ex z =>
          ∃ L' M', OA z.s.nx z.s L' ((x.s.nx, .loop lq) :: (x.s.nx + 1, .defr) :: M') ∧ endG (R k L' M') (Z ex L' M') ex)
    (hQ : ∀ L M s' i, last i → OA s'.nx s' L ((x.s.nx + 1, .defr) :: M) → R i L M → Q .normal { e := x.e, ds := [x.s.nx + 1] ++ x.ds, s := s' })
    (hZ : ∀ ex L M s', ex ≠ .normal → OA s'.nx s' L ((x.s.nx + 1, .defr) :: M) → Z ex L M → Q ex { e := x.e, ds := [x.s.nx + 1] ++ x.ds, s := s' }) : Wc E0 none (.rangeFunc f ps assign body) x Q := by
  obtain ⟨fn, c, hf, hb, hi⟩ := hi
  refine Wc.range (g := g) (cap := cap.map .c) (ds := [x.s.nx + 1]) (s1 := ({ x.s with nx := x.s.nx + 2 } : St).put (x.s.nx + 1) .defr) (by rw [ht]; rfl) rfl hf hb ?_
  have hc := St.put_comm ({ x.s with nx := x.s.nx + 2 } : St) (k := x.s.nx + 1) (j := x.s.nx) (by omega) .defr
  rw [hc]
  have ho' : OA x.s.nx ({ x.s with nx := x.s.nx + 2 } : St) L M := ho.adv (n := 2)
  generalize hlp : (LoopR.mk .ready none x.e ps.toList assign body) = lp
  have h1 := (ho'.new (k := x.s.nx) (o := .loop lp) (Nat.le_refl _) rfl).new (k := x.s.nx + 1) (o := .defr) (Nat.le_refl _) rfl
  have hl1 : lp.st = .ready := by rw [← hlp]
  have hl2 : lp.ps = ps.toList := by rw [← hlp]
  have hl3 : lp.e = x.e := by rw [← hlp]
  have hl4 : lp.assign = assign := by rw [← hlp]
  have hl5 : lp.body = body := by rw [← hlp]
  have hl6 : lp.pend = none := by rw [← hlp]
  refine hi x.s.nx (fun i s => ∃ L M, OA s.nx s L ((x.s.nx, .loop lp) :: (x.s.nx + 1, .defr) :: M) ∧ R i L M)
    (fun s => ∃ ex L M lq, ex ≠ Ex.normal ∧ OA s.nx s L ((x.s.nx, .loop lq) :: (x.s.nx + 1, .defr) :: M) ∧ lq.st = .done ∧ lq.pend = jumpOf ex ∧ Z ex L M) ?_ ?_ ?_ ?_ ?_ _ ?_ _ ?_ ?_
  · rintro i s n ⟨L, M, h, hr⟩
    exact ⟨L, M, (h.mono (Nat.le_add_right _ n)).adv, hr⟩
  · rintro i s n k o ⟨L, M, h, hr⟩ h1 h2
    exact ⟨L, M, (OA.put (h.adv (n := n)) h1).mono (by simp only [St.nx_put, St.nx_adv]; omega), hr⟩
  · rintro s n ⟨ex, L, M, lq, hne, h, h2, h3, hz⟩
    exact ⟨ex, L, M, lq, hne, (h.mono (Nat.le_add_right _ n)).adv, h2, h3, hz⟩
  · rintro i s ⟨L, M, h, hr⟩
    exact hH i L M s hr fun y hy => h.at_ y (by simp [hy])
  · rintro i k a s ⟨L, M, h, hr⟩ hst
    have hg : s.get x.s.nx = some (.loop lp) := h.at_ (x.s.nx, .loop lp) (by simp)
    refine wpCall.yield (vs_map a) hg (by rw [hl2]; exact hps _ _ _ hst) ?_
    rw [hl2, hl3, hl4]
    refine (hround i k a lp s L M hst hr h).mono ?_
    rintro ex y ⟨rfl, L1, M1, hy, hbody⟩
    refine ⟨rfl, lp, hy.at_ (x.s.nx, .loop lp) (by simp), hl1, ?_⟩
    rw [← hl5] at hbody
    have hset := hy.set (M1 := []) (k := x.s.nx) (o := .loop lp) (o' := .loop { lp with st := .busy }) rfl
    refine (hbody { lp with st := .busy } _ hset).mono ?_
    rintro ex z ⟨L', M', hz, hr'⟩
    refine ⟨_, hz.at_ (x.s.nx, .loop { lp with st := .busy }) (by simp), ?_⟩
    by_cases hex : ex = .normal
    · subst hex
      refine .inl ⟨rfl, L', M', ?_, hr'⟩
      have hset2 := hz.set (M1 := []) (k := x.s.nx) (o := .loop { lp with st := .busy }) (o' := .loop lp) rfl
      have e : ({ ({ lp with st := .busy } : LoopR) with st := if (jumpOf .normal).isNone then .ready else .done, pend := jumpOf .normal } : LoopR) = lp := by
        obtain ⟨a, b, c, d, e, f⟩ := lp
        simp only at hl1 hl6
        subst hl1 hl6
        rfl
      rw [e]
      exact hset2
    · have hj : (jumpOf ex).isNone = false := by cases ex with
        | normal => exact absurd rfl hex
        | exit i => rfl
        | ret => rfl
      have hz' : Z ex L' M' := by cases ex with
        | normal => exact absurd rfl hex
        | exit i => exact hr'
        | ret => exact hr'
      refine .inr ⟨by rw [hj], ex, L', M', { ({ lp with st := .busy } : LoopR) with st := .done, pend := jumpOf ex }, hex, ?_, rfl, rfl, hz'⟩
      rw [hj]
      exact hz.set (M1 := []) (k := x.s.nx) (o := .loop { lp with st := .busy }) (o' := .loop { ({ lp with st := .busy } : LoopR) with st := .done, pend := jumpOf ex }) rfl
  · refine ⟨L, M, ?_, h0⟩
    have := h1.sub (L1 := L) (M1 := (x.s.nx + 1, .defr) :: (x.s.nx, .loop lp) :: M) (List.Sublist.refl _) (List.Sublist.refl _)
    refine ⟨this.free, this.own, this.dis, fun y hy => this.at_ y (by simp at hy ⊢; rcases hy with h | h | h <;> simp [h]), fun y hy => this.nof y (by simp at hy ⊢; rcases hy with h | h | h <;> simp [h]), ?_⟩
    have hd := this.dism
    simp only [List.pairwise_cons] at hd ⊢
    obtain ⟨a1, a2, a3⟩ := hd
    refine ⟨fun y hy => ?_, fun y hy => a1 y (by simp [hy]), a3⟩
    rcases List.mem_cons.1 hy with rfl | hy
    · simp
    · exact a2 y hy
  · rintro d s' i hlast ⟨L, M, h, hr⟩
    have hg : s'.get x.s.nx = some (.loop lp) := h.at_ (x.s.nx, .loop lp) (by simp)
    refine ⟨none, s'.put x.s.nx (.loop { lp with st := .exhausted }), ?_, ?_⟩
    · simp only [endLoopD, hg, hl1, hl6]
      rfl
    · have hset := h.set (M1 := []) (k := x.s.nx) (o := .loop lp) (o' := .loop { lp with st := .exhausted }) rfl
      exact hQ L M _ i hlast (OA.sub (M := [] ++ (x.s.nx, .loop { lp with st := .exhausted }) :: (x.s.nx + 1, .defr) :: M) hset (List.Sublist.refl _) (List.sublist_cons_self _ _)) hr
  · rintro d s' ⟨ex, L, M, lq, hne, h, h2, h3, hz⟩
    have hg : s'.get x.s.nx = some (.loop lq) := h.at_ (x.s.nx, .loop lq) (by simp)
    have hset := h.set (M1 := []) (k := x.s.nx) (o := .loop lq) (o' := .loop { lq with st := .exhausted }) rfl
    have hq := hZ ex L M (s'.put x.s.nx (.loop { lq with st := .exhausted })) hne (OA.sub (M := [] ++ (x.s.nx, .loop { lq with st := .exhausted }) :: (x.s.nx + 1, .defr) :: M) hset (List.Sublist.refl _) (List.sublist_cons_self _ _)) hz
    refine ⟨jumpOf ex, s'.put x.s.nx (.loop { lq with st := .exhausted }), ?_, ?_⟩
    · simp only [endLoopD, hg, h2, h3]
      rfl
    · cases ex with
      | normal => exact absurd rfl hne
      | exit i => exact hq
      | ret => exact hq
end Go.Proofs.YtedcnhbblgmdnaaGreat.Ab
namespace Go.Proofs.YtedcnhbblgmdnaaGreat.Ab
set_option maxHeartbeats 4000000
set_option linter.unusedSimpArgs false
set_option linter.unusedVariables false
/-! ### buckets of samples -/
structure Bkt where
  st : Int
  c : Int
  s : Int
  mn : Int
  mx : Int
  f : Int
  l : Int
  ft : Int
  lt : Int
  inc : Int
abbrev Bkt.pd (b : Bkt) : List Pd := [pI b.st, pI b.c, pI b.s, pI b.mn, pI b.mx, pI b.f, pI b.l, pI b.ft, pI b.lt, pI b.inc]
def stepV (a b : Int) : Int := if b < a then b else b - a
def startOf (w t : Int) : Int := (t - 1).tdiv w * w
def single (w : Int) (x : I2) : Bkt := ⟨startOf w x.1, 1, x.2, x.2, x.2, x.2, x.2, x.1, x.1, 0⟩
def minI (a b : Int) : Int := if b < a then b else a
def maxI (a b : Int) : Int := if b > a then b else a
def joinB (k : Int) (a b : Bkt) : Bkt := ⟨a.st, a.c + b.c, a.s + b.s, minI a.mn b.mn, maxI a.mx b.mx, a.f, b.l, a.ft, b.lt, if k = 2 then a.inc + b.inc + stepV a.l b.f else a.inc⟩
/-- Buckets with one more, which is later than all others. -/
def appB (k : Int) (l : List Bkt) (b : Bkt) : List Bkt := match l.getLast? with
  | none => [b]
  | some a => if a.st = b.st then l.dropLast ++ [joinB k a b] else l ++ [b]
def ofB (k w : Int) (l : List I2) : List Bkt := l.foldl (fun acc x => appB k acc (single w x)) []
/-- The samples of each bucket. -/
def pieces (w : Int) : List I2 → List (Int × List I2)
  | [] => []
  | x :: r => (startOf w x.1, x :: r.takeWhile fun y => decide (y.1 - startOf w x.1 ≤ w)) :: pieces w (r.dropWhile fun y => decide (y.1 - startOf w x.1 ≤ w))
termination_by l => l.length
decreasing_by
  have := (List.dropWhile_sublist (p := fun y : I2 => decide (y.1 - startOf w x.1 ≤ w)) (l := r)).length_le
  simp only [List.length_cons]
  omega
def incV : List I2 → Int
  | x :: y :: r => stepV x.2 y.2 + incV (y :: r)
  | _ => 0
def sumV (l : List I2) : Int := l.foldl (fun s x => s + x.2) 0
def sumB (k st : Int) (x : I2) (r : List I2) : Bkt := ⟨st, (x :: r).length, sumV (x :: r), (x :: r).foldl (fun m y => minI m y.2) x.2, (x :: r).foldl (fun m y => maxI m y.2) x.2, x.2, ((x :: r).getLast (by simp)).2, x.1, ((x :: r).getLast (by simp)).1, if k = 2 then incV (x :: r) else 0⟩
def sumP (k : Int) (p : Int × List I2) : List Bkt := match p.2 with
  | [] => []
  | x :: r => [sumB k p.1 x r]
def rollB (k w : Int) (l : List I2) : List Bkt := (pieces w l).flatMap (sumP k)
end Go.Proofs.YtedcnhbblgmdnaaGreat.Ab
