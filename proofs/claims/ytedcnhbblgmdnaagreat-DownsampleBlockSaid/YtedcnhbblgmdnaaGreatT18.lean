/- A part of the proof. -/
import Derived.Test.YtedcnhbblgmdnaaGreatT17
namespace Go.Proofs.YtedcnhbblgmdnaaGreat.Ab
set_option maxHeartbeats 4000000
set_option linter.unusedSimpArgs false
set_option linter.unusedVariables false
theorem encT_len {l : List Int} (h : (encT l).2 = 0) : (encT l).1.length ≤ 40 + 20 * l.length := by
 unfold encT at *
 by_cases hc : chkT l = 0
 ·rw [if_pos hc]
  obtain ⟨hl2, hV⟩ := chkT_ok hc
  have hR : ∀ x ∈ l, inR x = true := fun x hx => by have := hV x hx; simp [inR]; omega
  have hD := diffs_mem hV
  have hDR : ∀ x ∈ diffs l, inR x = true := fun x hx => by have := hD x hx; simp [inR]; omega
  have hDD := diffs_mem hD
  have hDDR : (diffs (diffs l)).all inR = true := List.all_eq_true.2 fun d hd => by have := hDD d hd; simp [inR]; omega
  have hdl := diffs_len l
  have hddl := diffs_len (diffs l)
  have hrl := runE_len _ (diffs (diffs l)) (Nat.le_refl _) hDDR (by omega)
  have f1 := first1_len hR
  have f2 := first1_len hDR
  have hvl := vb_len10 (n := l.length) (by omega)
  simp only [List.length_append]
  omega
 ·rw [if_neg hc] at h
  exact absurd h hc
theorem encV_len2 {l : List Int} (h : (encV l).2 = 0) : (encV l).1.length ≤ 40 + 20 * l.length := by
 unfold encV at *
 by_cases h1 : 20000 < l.length
 ·rw [if_pos h1] at h; cases h
 rw [if_neg h1] at h ⊢
 by_cases h2 : l.all inV = true
 ·rw [if_pos h2]
  have hV := inV_all h2
  have hR : ∀ x ∈ l, inR x = true := fun x hx => inV_R (List.all_eq_true.1 h2 x hx)
  have hdR : (diffs l).all inR = true := List.all_eq_true.2 fun d hd => by have := diffs_mem hV d hd; simp [inR]; omega
  have hdl := diffs_len l
  have hrl := runE_len _ (diffs l) (Nat.le_refl _) hdR (by omega)
  have f1 := first1_len hR
  have hvl := vb_len10 (n := l.length) (by omega)
  simp only [List.length_append]
  omega
 ·rw [if_neg h2] at h; cases h
theorem encI_len2 {l : List Int} (h : (encI l).2 = 0) : (encI l).1.length ≤ 40 + 20 * l.length := by
 unfold encI at *
 by_cases h1 : 20000 < l.length
 ·rw [if_pos h1] at h; cases h
 rw [if_neg h1] at h ⊢
 by_cases h2 : l.all inR = true
 ·rw [if_pos h2]
  have hvl := vb_len10 (n := l.length) (by omega)
  have := encL_len l h2
  simp only [List.length_append]
  omega
 ·rw [if_neg h2] at h; cases h
theorem encF_len {f : Int} {l : List Int} (h : (encF f l).2 = 0) : (encF f l).1.length ≤ 40 + 20 * l.length := by
 unfold encF at *
 split at h
 ·rename_i h0; rw [if_pos h0]; exact encT_len h
 ·split at h
  ·rename_i h0 h1; rw [if_neg h0, if_pos h1]; exact encV_len2 h
  ·rename_i h0 h1; rw [if_neg h0, if_neg h1]; exact encI_len2 h
def colsOK (cs : List (List UInt8 × Int)) : Option (List (List UInt8)) := if cs.all (fun c => c.2 == 0) then some (cs.map (·.1)) else none
theorem colsOK_cons (c : List UInt8 × Int) (r : List (List UInt8 × Int)) : colsOK (c :: r) = if c.2 = 0 then (match colsOK r with
  | some ss => some (c.1 :: ss)
  | none => none) else none := by
 unfold colsOK
 by_cases h : c.2 = 0
 ·have hb : (c.2 == 0) = true := by simpa using h
  rw [if_pos h, List.all_cons, hb, Bool.true_and, List.map_cons]
  cases r.all (fun c => c.2 == 0) <;> rfl
 ·have hb : (c.2 == 0) = false := by simpa using h
  rw [if_neg h, List.all_cons, hb, Bool.false_and]; rfl
theorem packE_cols {A : Type} (l : List A) : ∀ cols : List (Col A), packE l cols = colsOK (cols.map fun c => encF c.f (l.map c.get))
 | [] => rfl
 | c :: r => by rw [List.map_cons, colsOK_cons, packE, packE_cols l r]; rfl
/-! ### the parts, one behind the other -/
def flatP (ss : List (List UInt8)) : List UInt8 := ss.flatMap fun s => vb s.length ++ s
theorem jn_eq : ∀ (ss : List (List UInt8)) (t : List UInt8), t.length ≤ 262144 → jn t ss = if 262144 < (t ++ flatP ss).length then none else some (t ++ flatP ss)
 | [], t, h => by
  have e : t ++ flatP [] = t := by simp [flatP]
  rw [e, if_neg (by omega)]; rfl
 | s :: r, t, h => by
  have e : t ++ flatP (s :: r) = (t ++ vb s.length ++ s) ++ flatP r := by simp [flatP]
  rw [e]
  simp only [jn]
  by_cases h1 : 262144 < (t ++ vb s.length ++ s).length
  ·rw [if_pos h1, if_pos (by rw [List.length_append]; omega)]
  ·rw [if_neg h1, jn_eq r _ (by omega)]
theorem partW_bad (cs : List (List UInt8 × Int)) : cs.foldl (fun w c => partW w c.1 c.2) (([] : List UInt8), (4 : Int)) = ([], 4) := by
 induction cs with
 | nil => rfl
 | cons c r ih => rw [List.foldl_cons]; exact ih
theorem partW_cols : ∀ (cs : List (List UInt8 × Int)) (t : List UInt8), (∀ c ∈ cs, c.1.length < 2^40) → cs.foldl (fun w c => partW w c.1 c.2) (t, (0 : Int)) = match colsOK cs with
  | some ss => (t ++ flatP ss, 0)
  | none => ([], 4)
 | [], t, _ => by simp [colsOK, flatP]
 | c :: r, t, h => by
  rw [List.foldl_cons, colsOK_cons]
  have hc := h c (by simp)
  by_cases h1 : c.2 = 0
  ·have e : partW (t, 0) c.1 c.2 = (t ++ vb c.1.length ++ c.1, 0) := by
    unfold partW
    rw [if_neg (by simp), if_neg (by simpa using h1)]
    have : appV t (c.1.length : Int) = (t ++ vb c.1.length, 0) := by unfold appV; rw [if_neg (by omega), Int.toNat_natCast]
    rw [this]
   rw [e, partW_cols r _ fun d hd => h d (by simp [hd]), if_pos h1]
   cases colsOK r with
   | none => rfl
   | some ss => simp [flatP]
  ·have e : partW (t, 0) c.1 c.2 = ([], 4) := by
    unfold partW
    rw [if_neg (by simp), if_pos h1]
   rw [e, partW_bad, if_neg h1]
def encC (sig : Int) (lab : Pd) (z : List Pd) (t : List UInt8) (cs : List (List UInt8 × Int)) : D := match colsOK cs with
 | none => .tup [noCh, .c (.p (pI 4))]
 | some ss => finE sig lab z (jn t ss)
theorem encC_w {sig : Int} {lab : Pd} {z : List Pd} {t : List UInt8} {cs : List (List UInt8 × Int)} (ht : t.length ≤ 262144) (h : ∀ c ∈ cs, c.1.length < 2^40) {w : List UInt8 × Int} (hw : w = cs.foldl (fun w c => partW w c.1 c.2) (t, (0 : Int))) :
  (if w.2 ≠ 0 ∨ 262144 < w.1.length then D.tup [noCh, .c (.p (pI 4))] else .tup [chV sig lab z w.1, .c (.p (pI 0))]) = encC sig lab z t cs := by
 rw [hw, partW_cols cs t h]
 unfold encC
 cases colsOK cs with
 | none => rfl
 | some ss =>
  simp only
  rw [jn_eq ss t ht]
  by_cases h1 : 262144 < (t ++ flatP ss).length
  ·rw [if_pos (.inr h1), if_pos h1]; rfl
  ·have h2 : ¬ ((0 : Int) ≠ 0 ∨ 262144 < (t ++ flatP ss).length) := by simp at h1 ⊢; omega
   rw [if_neg h2, if_neg h1]; rfl
/-! ### zones -/
/-! ### what a valid series is -/
abbrev Zo.pd (z : Zo) : List Pd := [pI z.c, pI z.t1, pI z.t2, pI z.v1, pI z.v2, .int .u32 0, .int .u32 0, .int .u32 0, .int .u32 0, .int .u32 0, .int .u32 0, .int .u32 0, .int .u32 0]
set_option maxHeartbeats 8000000
set_option maxRecDepth 10000
theorem jn_pre {cs : List (List UInt8 × Int)} {ss : List (List UInt8)} {m : Nat} (h : colsOK cs = some ss) (hl : ∀ c ∈ cs, c.2 = 0 → c.1.length ≤ m) : ∀ s ∈ ss, s.length ≤ m := by
 unfold colsOK at h
 split at h
 ·rename_i ha
  cases h
  intro s hs
  obtain ⟨c, hc, rfl⟩ := List.mem_map.1 hs
  exact hl c hc (by simpa using List.all_eq_true.1 ha c hc)
 ·cases h
set_option maxHeartbeats 4000000
set_option linter.unusedSimpArgs false
set_option linter.unusedVariables false
def Fs (e : List D) (n : Nat) : List (Nat × D) → Prop
 | [] => e.length = n
 | (j, d) :: r => e.getD j .junk = d ∧ Fs e n r
theorem OA.newB {s : St} {c k : Nat} {o : Ob} {L : List (Nat × D × Nat × List Pd)} {M : List (Nat × Ob)} (h : OA k s L M) (hc : k < c) (hf : o.isFront = false) : OA c (s.put k o) L ((k, o) :: M) :=
 (h.new (Nat.le_refl _) hf).mono hc
theorem OA.advB {s : St} {c n : Nat} {L : List (Nat × D × Nat × List Pd)} {M : List (Nat × Ob)} (h : OA c s L M) : OA c (s.adv n) L M := h.adv
def OAs (c : Nat) (s : St) (L : List (Nat × D × Nat × List Pd)) (M1 : List (Nat × Ob)) (k : Nat) (M2 : List (Nat × Ob)) : Prop := ∃ o, OA c s L (M1 ++ (k, o) :: M2)
theorem OAs.adv {c n : Nat} {s : St} {L : List (Nat × D × Nat × List Pd)} {M1 M2 : List (Nat × Ob)} {k : Nat} (h : OAs c s L M1 k M2) : OAs c (s.adv n) L M1 k M2 := by
 obtain ⟨o, h⟩ := h; exact ⟨o, h.adv⟩
theorem OAs.put {c : Nat} {s : St} {L : List (Nat × D × Nat × List Pd)} {M1 M2 : List (Nat × Ob)} {k : Nat} {o' : Ob} (h : OAs c s L M1 k M2) (hf : o'.isFront = false := by rfl) : OAs c (s.put k o') L M1 k M2 := by
 obtain ⟨o, h⟩ := h; exact ⟨o', h.set hf⟩
theorem OA.ofS {c : Nat} {s : St} {L : List (Nat × D × Nat × List Pd)} {M1 M2 : List (Nat × Ob)} {k : Nat} {o' : Ob} (h : OAs c s L M1 k M2) (hf : o'.isFront = false := by rfl) : OA c (s.put k o') L (M1 ++ (k, o') :: M2) := by
 obtain ⟨o, h⟩ := h; exact h.set hf
attribute [go_sem] St.put_put
def IterG (g : Nat) (cap : List C) (H : St → Prop) (step : Nat → Nat → List V → Prop) (last : Nat → Prop) : Prop :=
 ∃ fn c, E0.fn g = some fn ∧ fn.body = some c ∧ ∀ (l : Nat) (J : Nat → St → Prop) (Z : St → Prop), (∀ i s n, J i s → J i (s.adv n)) → (∀ i s n k o, J i s → s.nx ≤ k → k < s.nx + n → J i ((s.adv n).put k o)) → (∀ s n, Z s → Z (s.adv n)) → (∀ i s, J i s → H s) →
  (∀ i k a s, J i s → step i k a → wpCall E0 (.v (.c (.fn (.yield l) [] []))) (a.map .v) s (fun d s' => (d = P' (.bool true) ∧ J k s') ∨ (d = P' (.bool false) ∧ Z s'))) →
  ∀ s, J 0 s → ∀ Q : D → St → Prop, (∀ d s' i, last i → J i s' → Q d s') → (∀ d s', Z s' → Q d s') →
   Wc E0 none c { e := (V.c (.fn (.yield l) [] []) :: cap.map .c).map .v ++ List.replicate (fn.ntmps - (V.c (.fn (.yield l) [] []) :: cap.map .c).length) (.tup []), ds := [], s := s } (bodyQ E0 fn Q)
def endG (R Z : Prop) : Ex → Prop
 | .normal => R
 | _ => Z
theorem Wc.iterG {g : Nat} {cap : List C} {H : St → Prop} {step : Nat → Nat → List V → Prop} {last : Nat → Prop} (hi : IterG g cap H step last) {f : Operand} {ps : Array Nat} {assign body : Code} {x : Fr} {Q : Ex → Fr → Prop} {L : List (Nat × D × Nat × List Pd)} {M : List (Nat × Ob)}
  (R : Nat → List (Nat × D × Nat × List Pd) → List (Nat × Ob) → Prop) (Z : Ex → List (Nat × D × Nat × List Pd) → List (Nat × Ob) → Prop) (ht : opd x.e f = .v (.c (.fn (.func g) [] cap))) (ho : OA x.s.nx x.s L M) (h0 : R 0 L M) (hH : ∀ i L M s, R i L M → (∀ y ∈ M, s.get y.1 = some y.2) → H s) (hps : ∀ i k a, step i k a → ps.toList.length = a.length)
  (hround : ∀ i k a (lp : LoopR) (s : St) L M, step i k a → R i L M → OA s.nx s L ((x.s.nx, .loop lp) :: (x.s.nx + 1, .defr) :: M) →
   Wc E0 (some x.s.nx) assign { e := setAll x.e (ps.toList.zip a), ds := [], s := s } fun ex y => ex = .normal ∧ ∃ L1 M1, OA y.s.nx y.s L1 ((x.s.nx, .loop lp) :: (x.s.nx + 1, .defr) :: M1) ∧
    ∀ (lq : LoopR) (s' : St), OA s'.nx s' L1 ((x.s.nx, .loop lq) :: (x.s.nx + 1, .defr) :: M1) → Wc E0 (some x.s.nx) body { e := y.e, ds := [], s := s' } fun ex z =>
     ∃ L' M', OA z.s.nx z.s L' ((x.s.nx, .loop lq) :: (x.s.nx + 1, .defr) :: M') ∧ endG (R k L' M') (Z ex L' M') ex)
  (hQ : ∀ L M s' i, last i → OA s'.nx s' L ((x.s.nx + 1, .defr) :: M) → R i L M → Q .normal { e := x.e, ds := [x.s.nx + 1] ++ x.ds, s := s' })
  (hZ : ∀ ex L M s', ex ≠ .normal → OA s'.nx s' L ((x.s.nx + 1, .defr) :: M) → Z ex L M → Q ex { e := x.e, ds := [x.s.nx + 1] ++ x.ds, s := s' }) : Wc E0 none (.rangeFunc f ps assign body) x Q := by
 obtain ⟨fn, c, hf, hb, hi⟩ := hi
 refine Wc.range (g := g) (cap := cap.map .c) (ds := [x.s.nx + 1]) (s1 := ({ x.s with nx := x.s.nx + 2 } : St).put (x.s.nx + 1) .defr) (by rw [ht]; rfl) rfl hf hb ?_
 have hc := St.put_comm ({ x.s with nx := x.s.nx + 2 } : St) (k := x.s.nx + 1) (j := x.s.nx) (by omega) .defr
 rw [hc]
 have ho' : OA x.s.nx ({ x.s with nx := x.s.nx + 2 } : St) L M := ho.adv (n := 2)
 generalize hlp : (LoopR.mk .ready none x.e ps.toList assign body) = lp
 have h1 := (ho'.new (k := x.s.nx) (o := .loop lp) (Nat.le_refl _) rfl).new (k := x.s.nx + 1) (o := .defr) (Nat.le_refl _) rfl
 have hl1 : lp.st = .ready := by rw [← hlp]
 have hl2 : lp.ps = ps.toList := by rw [← hlp]
 have hl3 : lp.e = x.e := by rw [← hlp]
 have hl4 : lp.assign = assign := by rw [← hlp]
 have hl5 : lp.body = body := by rw [← hlp]
 have hl6 : lp.pend = none := by rw [← hlp]
 refine hi x.s.nx (fun i s => ∃ L M, OA s.nx s L ((x.s.nx, .loop lp) :: (x.s.nx + 1, .defr) :: M) ∧ R i L M)
  (fun s => ∃ ex L M lq, ex ≠ Ex.normal ∧ OA s.nx s L ((x.s.nx, .loop lq) :: (x.s.nx + 1, .defr) :: M) ∧ lq.st = .done ∧ lq.pend = jumpOf ex ∧ Z ex L M) ?_ ?_ ?_ ?_ ?_ _ ?_ _ ?_ ?_
 ·rintro i s n ⟨L, M, h, hr⟩
  exact ⟨L, M, (h.mono (Nat.le_add_right _ n)).adv, hr⟩
 ·rintro i s n k o ⟨L, M, h, hr⟩ h1 h2
  exact ⟨L, M, (OA.put (h.adv (n := n)) h1).mono (by simp only [St.nx_put, St.nx_adv]; omega), hr⟩
 ·rintro s n ⟨ex, L, M, lq, hne, h, h2, h3, hz⟩
  exact ⟨ex, L, M, lq, hne, (h.mono (Nat.le_add_right _ n)).adv, h2, h3, hz⟩
 ·rintro i s ⟨L, M, h, hr⟩
  exact hH i L M s hr fun y hy => h.at_ y (by simp [hy])
 ·rintro i k a s ⟨L, M, h, hr⟩ hst
  have hg : s.get x.s.nx = some (.loop lp) := h.at_ (x.s.nx, .loop lp) (by simp)
  refine wpCall.yield (vs_map a) hg (by rw [hl2]; exact hps _ _ _ hst) ?_
  rw [hl2, hl3, hl4]
  refine (hround i k a lp s L M hst hr h).mono ?_
  rintro ex y ⟨rfl, L1, M1, hy, hbody⟩
  refine ⟨rfl, lp, hy.at_ (x.s.nx, .loop lp) (by simp), hl1, ?_⟩
  rw [← hl5] at hbody
  have hset := hy.set (M1 := []) (k := x.s.nx) (o := .loop lp) (o' := .loop { lp with st := .busy }) rfl
  refine (hbody { lp with st := .busy } _ hset).mono ?_
  rintro ex z ⟨L', M', hz, hr'⟩
  refine ⟨_, hz.at_ (x.s.nx, .loop { lp with st := .busy }) (by simp), ?_⟩
  by_cases hex : ex = .normal
  ·subst hex
   refine .inl ⟨rfl, L', M', ?_, hr'⟩
   have hset2 := hz.set (M1 := []) (k := x.s.nx) (o := .loop { lp with st := .busy }) (o' := .loop lp) rfl
   have e : ({ ({ lp with st := .busy } : LoopR) with st := if (jumpOf .normal).isNone then .ready else .done, pend := jumpOf .normal } : LoopR) = lp := by
    obtain ⟨a, b, c, d, e, f⟩ := lp
    simp only at hl1 hl6
    subst hl1 hl6
    rfl
   rw [e]
   exact hset2
  ·have hj : (jumpOf ex).isNone = false := by cases ex with
    | normal => exact absurd rfl hex
    | exit i => rfl
    | ret => rfl
   have hz' : Z ex L' M' := by cases ex with
    | normal => exact absurd rfl hex
    | exit i => exact hr'
    | ret => exact hr'
   refine .inr ⟨by rw [hj], ex, L', M', { ({ lp with st := .busy } : LoopR) with st := .done, pend := jumpOf ex }, hex, ?_, rfl, rfl, hz'⟩
   rw [hj]
   exact hz.set (M1 := []) (k := x.s.nx) (o := .loop { lp with st := .busy }) (o' := .loop { ({ lp with st := .busy } : LoopR) with st := .done, pend := jumpOf ex }) rfl
 ·refine ⟨L, M, ?_, h0⟩
  have := h1.sub (L1 := L) (M1 := (x.s.nx + 1, .defr) :: (x.s.nx, .loop lp) :: M) (List.Sublist.refl _) (List.Sublist.refl _)
  refine ⟨this.free, this.own, this.dis, fun y hy => this.at_ y (by simp at hy ⊢; rcases hy with h | h | h <;> simp [h]), fun y hy => this.nof y (by simp at hy ⊢; rcases hy with h | h | h <;> simp [h]), ?_⟩
  have hd := this.dism
  simp only [List.pairwise_cons] at hd ⊢
  obtain ⟨a1, a2, a3⟩ := hd
  refine ⟨fun y hy => ?_, fun y hy => a1 y (by simp [hy]), a3⟩
  rcases List.mem_cons.1 hy with rfl | hy
  ·simp
  ·exact a2 y hy
 ·rintro d s' i hlast ⟨L, M, h, hr⟩
  have hg : s'.get x.s.nx = some (.loop lp) := h.at_ (x.s.nx, .loop lp) (by simp)
  refine ⟨none, s'.put x.s.nx (.loop { lp with st := .exhausted }), ?_, ?_⟩
  ·simp only [endLoopD, hg, hl1, hl6]
   rfl
  ·have hset := h.set (M1 := []) (k := x.s.nx) (o := .loop lp) (o' := .loop { lp with st := .exhausted }) rfl
   exact hQ L M _ i hlast (OA.sub (M := [] ++ (x.s.nx, .loop { lp with st := .exhausted }) :: (x.s.nx + 1, .defr) :: M) hset (List.Sublist.refl _) (List.sublist_cons_self _ _)) hr
 ·rintro d s' ⟨ex, L, M, lq, hne, h, h2, h3, hz⟩
  have hg : s'.get x.s.nx = some (.loop lq) := h.at_ (x.s.nx, .loop lq) (by simp)
  have hset := h.set (M1 := []) (k := x.s.nx) (o := .loop lq) (o' := .loop { lq with st := .exhausted }) rfl
  have hq := hZ ex L M (s'.put x.s.nx (.loop { lq with st := .exhausted })) hne (OA.sub (M := [] ++ (x.s.nx, .loop { lq with st := .exhausted }) :: (x.s.nx + 1, .defr) :: M) hset (List.Sublist.refl _) (List.sublist_cons_self _ _)) hz
  refine ⟨jumpOf ex, s'.put x.s.nx (.loop { lq with st := .exhausted }), ?_, ?_⟩
  ·simp only [endLoopD, hg, h2, h3]
   rfl
  ·cases ex with
   | normal => exact absurd rfl hne
   | exit i => exact hq
   | ret => exact hq
/-! ### buckets of samples -/
structure Bkt where
 st : Int
 c : Int
 s : Int
 mn : Int
 mx : Int
 f : Int
 l : Int
 ft : Int
 lt : Int
 inc : Int
abbrev Bkt.pd (b : Bkt) : List Pd := [pI b.st, pI b.c, pI b.s, pI b.mn, pI b.mx, pI b.f, pI b.l, pI b.ft, pI b.lt, pI b.inc]
def stepV (a b : Int) : Int := if b < a then b else b - a
def startOf (w t : Int) : Int := (t - 1).tdiv w * w
def single (w : Int) (x : I2) : Bkt := ⟨startOf w x.1, 1, x.2, x.2, x.2, x.2, x.2, x.1, x.1, 0⟩
def minI (a b : Int) : Int := if b < a then b else a
def maxI (a b : Int) : Int := if b > a then b else a
def joinB (k : Int) (a b : Bkt) : Bkt := ⟨a.st, a.c + b.c, a.s + b.s, minI a.mn b.mn, maxI a.mx b.mx, a.f, b.l, a.ft, b.lt, if k = 2 then a.inc + b.inc + stepV a.l b.f else a.inc⟩
set_option maxHeartbeats 8000000
set_option maxRecDepth 10000
set_option linter.unusedSimpArgs false
set_option linter.unusedVariables false
theorem pf224 (n : Int) : Pf E0 224 [.c (.p (.int .i64 n))] (P' (.bool (isVl n))) := by
 refine Pf.body (fn := Tryz.f224) (by kernel_rfl) rfl ?_; simp only [List.map_cons, List.map_nil, List.cons_append, List.nil_append, List.length_cons, List.length_nil, Tryz.ntmps224, List.replicate, Nat.reduceSub, Nat.reduceAdd]
 refine gS fun K F => ?_; simp only [go_sem]; apply F; clear F K
 refine Wc.seq ?_
 by_cases h : -1099511627776 ≤ n
 ·refine gR fun K F => ?_; simp only [go_sem, h]; apply F; clear F K
  exact Wc.ret (Pf.ret [.tmp 2] [.c (.p (.bool (isVl n)))] rfl rfl (by simp only [resultsD, go_sem, isVl, h, Bool.true_and]) rfl)
 ·refine gR fun K F => ?_; simp only [go_sem, h]; apply F; clear F K
  exact Wc.ret (Pf.ret [.tmp 2] [.c (.p (.bool (isVl n)))] rfl rfl (by simp only [resultsD, go_sem, isVl, h, Bool.false_and]) rfl)
def okV (k v : Int) : Bool := isVl v && !((k == 2) && decide (v < 0))
theorem mulB {c v : Int} (h1 : 1 ≤ c) (h2 : c ≤ 2000) (h3 : -1099511627776 ≤ v) (h4 : v ≤ 1099511627776) : -2199023255552000 ≤ c * v ∧ c * v ≤ 2199023255552000 := by
 rcases Int.le_total 0 v with h | h
 ·have a := Int.mul_le_mul_of_nonneg_right h2 h
  have b := Int.mul_nonneg (show 0 ≤ c by omega) h
  omega
 ·have a := Int.mul_le_mul_of_nonneg_right h2 (show 0 ≤ -v by omega)
  have b := Int.mul_nonneg (show 0 ≤ c by omega) (show 0 ≤ -v by omega)
  rw [Int.mul_neg, Int.mul_neg] at a
  rw [Int.mul_neg] at b
  omega
def bkA1 (w : Int) (b : Bkt) : Bool := decide (b.ft ≤ b.st) || decide (b.lt < b.ft) || decide (b.st + w < b.lt) || decide (1099511627776 < b.lt)
def bkA2 (b : Bkt) : Bool := decide (b.c < 1) || decide (2000 < b.c) || ((b.ft == b.lt) != (b.c == 1))
def bkA3 (k : Int) (b : Bkt) : Bool := okV k b.mn && (okV k b.mx && (okV k b.f && okV k b.l))
def bkA4 (b : Bkt) : Bool := decide (b.f < b.mn) || decide (b.mx < b.f) || decide (b.l < b.mn) || decide (b.mx < b.l)
def bkA5 (b : Bkt) : Bool := decide (b.s < b.c * b.mn) || decide (b.c * b.mx < b.s)
def bkA6 (k : Int) (b : Bkt) : Bool := ((k == 1) && (b.inc != 0)) || decide (b.inc < 0) || decide ((b.c - 1) * 1099511627776 < b.inc)
def bkA7 (b : Bkt) : Bool := decide (1 < b.c) || ((((b.s == b.mn) && (b.mn == b.mx)) && (b.f == b.mn)) && (b.l == b.mn))
def bkA (k w : Int) (b : Bkt) : Bool := !bkA1 w b && (!bkA2 b && (bkA3 k b && (!bkA4 b && (!bkA5 b && (!bkA6 k b && bkA7 b)))))
theorem bne_false {a b : Bool} : (a != b) = !(a == b) := rfl
theorem pf155 (b : Bkt) (k w : Int) (hs : 0 ≤ b.st ∧ b.st < 1099511627776) (hw : 1 ≤ w ∧ w ≤ 1099511627776) : Pf E0 155 [.agg (b.pd.map .p), .c (.p (pI k)), .c (.p (pI w))] (P' (.bool (bkA k w b))) := by
 have w1 : IntKind.i64.wrap (b.st + w) = b.st + w := by rw [wi64]; omega
 generalize hR : bkA k w b = R
 unfold bkA at hR
 refine Pf.body (fn := Tryz.f155) (by kernel_rfl) rfl ?_; simp only [List.map_cons, List.map_nil, List.cons_append, List.nil_append, List.length_cons, List.length_nil, Tryz.ntmps155, List.replicate, Nat.reduceSub, Nat.reduceAdd]
 refine gS fun K F => ?_; simp only [go_sem]; apply F; clear F K
 have hF : True := trivial
 refine Wc.seqR (fun y => bkA1 w b = false ∧ y.ds = [] ∧ Fs y.e 174 [(1, P' (pI k)), (2, P' (pI w)), (3, .v (.c (.ref 0 0)))] ∧ OA y.s.nx y.s [] [(0, .cells (b.pd.map .p) false)]) ?_ ?_
 ·refine Wc.seq ?_
  have bad : bkA1 w b = true → false = R := fun h => by rw [← hR, h]; rfl
  unfold bkA1 at bad ⊢
  rcases Bool.eq_false_or_eq_true (decide (b.ft ≤ b.st)) with z1 | z1
  ·refine gR fun K F => ?_; simp only [go_sem, w1, z1]; apply F; clear F K
   refine gT (by simp only [go_sem, w1, z1]) ?_
   refine gS fun K F => ?_; simp only [go_sem]; apply F; clear F K
   rw [← bad (by simp only [z1]; rfl)]
   exact Wc.ret (Pf.ret [.tmp 6] [.c (.p (.bool false))] rfl rfl (by simp only [resultsD, go_sem]) rfl)
  rcases Bool.eq_false_or_eq_true (decide (b.lt < b.ft)) with z2 | z2
  ·refine gR fun K F => ?_; simp only [go_sem, w1, z1, z2]; apply F; clear F K
   refine gT (by simp only [go_sem, w1, z1, z2]) ?_
   refine gS fun K F => ?_; simp only [go_sem]; apply F; clear F K
   rw [← bad (by simp only [z1, z2]; rfl)]
   exact Wc.ret (Pf.ret [.tmp 6] [.c (.p (.bool false))] rfl rfl (by simp only [resultsD, go_sem]) rfl)
  rcases Bool.eq_false_or_eq_true (decide (b.st + w < b.lt)) with z3 | z3
  ·refine gR fun K F => ?_; simp only [go_sem, w1, z1, z2, z3]; apply F; clear F K
   refine gT (by simp only [go_sem, w1, z1, z2, z3]) ?_
   refine gS fun K F => ?_; simp only [go_sem]; apply F; clear F K
   rw [← bad (by simp only [z1, z2, z3]; rfl)]
   exact Wc.ret (Pf.ret [.tmp 6] [.c (.p (.bool false))] rfl rfl (by simp only [resultsD, go_sem]) rfl)
  rcases Bool.eq_false_or_eq_true (decide (1099511627776 < b.lt)) with z4 | z4
  ·refine gR fun K F => ?_; simp only [go_sem, w1, z1, z2, z3, z4]; apply F; clear F K
   refine gT (by simp only [go_sem, w1, z1, z2, z3, z4]) ?_
   refine gS fun K F => ?_; simp only [go_sem]; apply F; clear F K
   rw [← bad (by simp only [z1, z2, z3, z4]; rfl)]
   exact Wc.ret (Pf.ret [.tmp 6] [.c (.p (.bool false))] rfl rfl (by simp only [resultsD, go_sem]) rfl)
  refine gR fun K F => ?_; simp only [go_sem, w1, z1, z2, z3, z4]; apply F; clear F K
  refine gF (by simp only [go_sem, w1, z1, z2, z3, z4]) ?_
  exact ⟨by simp only [z1, z2, z3, z4]; rfl, rfl, by simp only [Fs, nZ, go_sem], by (try simp only [St.nx_put, St.nx_adv]); repeat (first | exact OA.mono s00_oa (by omega) | refine OA.newB ?_ (by omega) rfl | refine OA.advB ?_)⟩
 clear hF
 rintro ⟨e, ds, s1⟩ ⟨c1, rfl, hF, ho⟩
 simp only [Fs] at hF ho
 have g0 := ho.at_ (0, .cells (b.pd.map .p) false) (by simp)
 simp only [List.map_cons, List.map_nil] at g0
 rw [c1] at hR
 refine Wc.seqR (fun y => (bkA2 b = false ∧ 1 ≤ b.c ∧ b.c ≤ 2000) ∧ y.ds = [] ∧ Fs y.e 174 [(1, P' (pI k)), (2, P' (pI w)), (3, .v (.c (.ref 0 0)))] ∧ OA y.s.nx y.s [] [(0, .cells (b.pd.map .p) false)]) ?_ ?_
 ·refine Wc.seq ?_
  have bad : bkA2 b = true → false = R := fun h => by rw [← hR, h]; rfl
  unfold bkA2 at bad ⊢
  rcases Bool.eq_false_or_eq_true (decide (b.c < 1)) with z1 | z1
  ·refine gR fun K F => ?_; simp only [go_sem, hF, g0, z1]; apply F; clear F K
   refine gT (by simp only [go_sem, hF, g0, z1]) ?_
   refine gS fun K F => ?_; simp only [go_sem, hF]; apply F; clear F K
   rw [← bad (by simp only [bne_false, z1]; rfl)]
   exact Wc.ret (Pf.ret [.tmp 6] [.c (.p (.bool false))] rfl rfl (by simp only [resultsD, go_sem, hF]) rfl)
  rcases Bool.eq_false_or_eq_true (decide (2000 < b.c)) with z2 | z2
  ·refine gR fun K F => ?_; simp only [go_sem, hF, g0, z1, z2]; apply F; clear F K
   refine gT (by simp only [go_sem, hF, g0, z1, z2]) ?_
   refine gS fun K F => ?_; simp only [go_sem, hF]; apply F; clear F K
   rw [← bad (by simp only [bne_false, z1, z2]; rfl)]
   exact Wc.ret (Pf.ret [.tmp 6] [.c (.p (.bool false))] rfl rfl (by simp only [resultsD, go_sem, hF]) rfl)
  rcases Bool.eq_false_or_eq_true (!((b.ft == b.lt) == (b.c == 1))) with z3 | z3
  ·refine gR fun K F => ?_; simp only [go_sem, hF, g0, z1, z2, z3]; apply F; clear F K
   refine gT (by simp only [go_sem, hF, g0, z1, z2, z3]) ?_
   refine gS fun K F => ?_; simp only [go_sem, hF]; apply F; clear F K
   rw [← bad (by simp only [bne_false, z1, z2, z3]; rfl)]
   exact Wc.ret (Pf.ret [.tmp 6] [.c (.p (.bool false))] rfl rfl (by simp only [resultsD, go_sem, hF]) rfl)
  refine gR fun K F => ?_; simp only [go_sem, hF, g0, z1, z2, z3]; apply F; clear F K
  refine gF (by simp only [go_sem, hF, g0, z1, z2, z3]) ?_
  exact ⟨⟨by simp only [bne_false, z1, z2, z3]; rfl, by have := of_decide_eq_false z1; omega, by have := of_decide_eq_false z2; omega⟩, rfl, by simp only [Fs, nZ, go_sem, hF], by (try simp only [St.nx_put, St.nx_adv]); repeat (first | exact OA.mono ho (by omega) | refine OA.newB ?_ (by omega) rfl | refine OA.advB ?_)⟩
 clear hF ho g0 e s1
 rintro ⟨e, ds, s1⟩ ⟨⟨c2, hc1, hc2⟩, rfl, hF, ho⟩
 simp only [Fs] at hF ho
 have g0 := ho.at_ (0, .cells (b.pd.map .p) false) (by simp)
 simp only [List.map_cons, List.map_nil] at g0
 rw [c2] at hR
 refine Wc.seqR (fun y => bkA3 k b = true ∧ y.ds = [] ∧ Fs y.e 174 [(1, P' (pI k)), (2, P' (pI w)), (3, .v (.c (.ref 0 0)))] ∧ OA y.s.nx y.s [] [(0, .cells (b.pd.map .p) false)]) ?_ ?_
 ·refine Wc.seq ?_
  have bad : ∀ v, (v = b.mn ∨ v = b.mx ∨ v = b.f ∨ v = b.l) → okV k v = false → false = R := fun v hv h => by
   rw [← hR]
   have : bkA3 k b = false := by
    unfold bkA3
    rcases hv with rfl | rfl | rfl | rfl <;> simp [h]
   rw [this]; rfl
  refine gR fun K F => ?_; simp only [go_sem, hF, g0]; apply F; clear F K
  refine Wc.block (Wc.loop (fun c y => ∃ i : Nat, c = 4 - i ∧ i ≤ 4 ∧ y.ds = [] ∧ Fs y.e 174 [(1, P' (pI k)), (2, P' (pI w)), (3, .v (.c (.ref 0 0))), (62, .v (.agg [.p (pI b.mn), .p (pI b.mx), .p (pI b.f), .p (pI b.l)])), (63, P' (pI i))] ∧ OA y.s.nx y.s [] [(0, .cells (b.pd.map .p) false)] ∧ ((1 ≤ i → okV k b.mn = true) ∧ (2 ≤ i → okV k b.mx = true) ∧ (3 ≤ i → okV k b.f = true) ∧ (4 ≤ i → okV k b.l = true))) ?_ (k := 4) ?_)
  ·clear hF ho g0 e s1
   rintro c ⟨e, ds, s1⟩ ⟨i, rfl, hi, rfl, hF, ho, hok⟩
   simp only [Fs] at hF ho
   refine gS fun K F => ?_; simp only [go_sem, hF]; apply F; clear F K
   refine Wc.seq (Wc.cond (t := decide ((i : Int) < 4)) (by simp only [go_sem, hF]) (fun hc => ?_) (fun hc => ?_))
   ·have hil : i < 4 := by have := of_decide_eq_true hc; omega
    obtain ⟨v, hvi, hvm, hnx⟩ : ∃ v, List.take 1 (List.drop i [C.p (pI b.mn), C.p (pI b.mx), C.p (pI b.f), C.p (pI b.l)]) = [C.p (pI v)] ∧ (v = b.mn ∨ v = b.mx ∨ v = b.f ∨ v = b.l) ∧ (okV k v = true → (1 ≤ i + 1 → okV k b.mn = true) ∧ (2 ≤ i + 1 → okV k b.mx = true) ∧ (3 ≤ i + 1 → okV k b.f = true) ∧ (4 ≤ i + 1 → okV k b.l = true)) := by
     obtain ⟨k1, k2, k3, k4⟩ := hok
     rcases (show i = 0 ∨ i = 1 ∨ i = 2 ∨ i = 3 by omega) with rfl | rfl | rfl | rfl
     ·exact ⟨b.mn, rfl, .inl rfl, fun h => ⟨fun _ => h, fun h => by omega, fun h => by omega, fun h => by omega⟩⟩
     ·exact ⟨b.mx, rfl, .inr (.inl rfl), fun h => ⟨fun _ => k1 (by omega), fun _ => h, fun h => by omega, fun h => by omega⟩⟩
     ·exact ⟨b.f, rfl, .inr (.inr (.inl rfl)), fun h => ⟨fun _ => k1 (by omega), fun _ => k2 (by omega), fun _ => h, fun h => by omega⟩⟩
     ·exact ⟨b.l, rfl, .inr (.inr (.inr rfl)), fun h => ⟨fun _ => k1 (by omega), fun _ => k2 (by omega), fun _ => k3 (by omega), fun _ => h⟩⟩
    have h4 : ((i : Int) < ((4 : Nat) : Int)) = True := by simp; omega
    have h5 : (i + 1 ≤ 4) = True := by simp; omega
    refine Wc.skip (Wc.seq (Wc.block (Wc.seq ?_)))
    refine gR fun K F => ?_; simp only [go_sem, hF, h4, h5, hvi]; apply F; clear F K
    refine Wc.seq ?_
    have hokv : okV k v = (isVl v && !((k == 2) && decide (v < 0))) := rfl
    have p := pf224 v
    have good : okV k v = true → (1 ≤ i + 1 → okV k b.mn = true) ∧ (2 ≤ i + 1 → okV k b.mx = true) ∧ (3 ≤ i + 1 → okV k b.f = true) ∧ (4 ≤ i + 1 → okV k b.l = true) := hnx
    cases hI : isVl v with
    | false =>
     rw [hI] at p
     refine gR fun K F => ?_; simp only [go_sem, hF]
     refine wpCall.pf p (by kernel_rfl) (by kernel_rfl) rfl rfl ?_
     simp only [go_sem, hF]; apply F; clear F K
     refine gT (by simp only [go_sem, hF]) ?_
     refine gS fun K F => ?_; simp only [go_sem, hF]; apply F; clear F K
     rw [← bad v hvm (by rw [hokv, hI]; rfl)]
     exact Wc.ret (Pf.ret [.tmp 6] [.c (.p (.bool false))] rfl rfl (by simp only [resultsD, go_sem, hF]) rfl)
    | true =>
     rw [hI] at p
     cases hk2 : (k == 2) with
     | false =>
      refine gR fun K F => ?_; simp only [go_sem, hF]
      refine wpCall.pf p (by kernel_rfl) (by kernel_rfl) rfl rfl ?_
      simp only [go_sem, hF, hk2]; apply F; clear F K
      refine gF (by simp only [go_sem, hF, hk2]) ?_
      refine gR fun K F => ?_; simp only [go_sem, hF, i64n i (by omega)]; apply F; clear F K
      exact ⟨4 - (i + 1), by omega, i + 1, rfl, by omega, rfl, by simp only [Fs, nZ, go_sem, hF], by (try simp only [St.nx_put, St.nx_adv]); repeat (first | exact OA.mono ho (by omega) | refine OA.newB ?_ (by omega) rfl | refine OA.advB ?_), good (by rw [hokv, hI, hk2]; rfl)⟩
     | true =>
      cases hv0 : decide (v < 0) with
      | true =>
       refine gR fun K F => ?_; simp only [go_sem, hF]
       refine wpCall.pf p (by kernel_rfl) (by kernel_rfl) rfl rfl ?_
       simp only [go_sem, hF, hk2, hv0]; apply F; clear F K
       refine gT (by simp only [go_sem, hF, hk2, hv0]) ?_
       refine gS fun K F => ?_; simp only [go_sem, hF]; apply F; clear F K
       rw [← bad v hvm (by rw [hokv, hI, hk2, hv0]; rfl)]
       exact Wc.ret (Pf.ret [.tmp 6] [.c (.p (.bool false))] rfl rfl (by simp only [resultsD, go_sem, hF]) rfl)
      | false =>
       refine gR fun K F => ?_; simp only [go_sem, hF]
       refine wpCall.pf p (by kernel_rfl) (by kernel_rfl) rfl rfl ?_
       simp only [go_sem, hF, hk2, hv0]; apply F; clear F K
       refine gF (by simp only [go_sem, hF, hk2, hv0]) ?_
       refine gR fun K F => ?_; simp only [go_sem, hF, i64n i (by omega)]; apply F; clear F K
       exact ⟨4 - (i + 1), by omega, i + 1, rfl, by omega, rfl, by simp only [Fs, nZ, go_sem, hF], by (try simp only [St.nx_put, St.nx_adv]); repeat (first | exact OA.mono ho (by omega) | refine OA.newB ?_ (by omega) rfl | refine OA.advB ?_), good (by rw [hokv, hI, hk2, hv0]; rfl)⟩
   ·have hil : i = 4 := by have := of_decide_eq_false hc; omega
    subst hil
    exact Wc.exit ⟨by unfold bkA3; rw [hok.1 (by omega), hok.2.1 (by omega), hok.2.2.1 (by omega), hok.2.2.2 (by omega)]; rfl, rfl, by simp only [Fs, nZ, go_sem, hF], by (try simp only [St.nx_put, St.nx_adv]); repeat (first | exact OA.mono ho (by omega) | refine OA.newB ?_ (by omega) rfl | refine OA.advB ?_)⟩
  ·exact ⟨0, rfl, by omega, rfl, by simp only [Fs, nZ, go_sem, hF], by (try simp only [St.nx_put, St.nx_adv]); repeat (first | exact OA.mono ho (by omega) | refine OA.newB ?_ (by omega) rfl | refine OA.advB ?_), fun h => by omega, fun h => by omega, fun h => by omega, fun h => by omega⟩
 clear hF ho g0 e s1
 rintro ⟨e, ds, s1⟩ ⟨c3, rfl, hF, ho⟩
 simp only [Fs] at hF ho
 have g0 := ho.at_ (0, .cells (b.pd.map .p) false) (by simp)
 simp only [List.map_cons, List.map_nil] at g0
 rw [c3] at hR
 have hv : (-1099511627776 ≤ b.mn ∧ b.mn ≤ 1099511627776) ∧ (-1099511627776 ≤ b.mx ∧ b.mx ≤ 1099511627776) := by
  simp only [bkA3, okV, isVl, Bool.and_eq_true, decide_eq_true_eq] at c3
  omega
 obtain ⟨m1, m2⟩ := mulB hc1 hc2 hv.1.1 hv.1.2
 obtain ⟨m3, m4⟩ := mulB hc1 hc2 hv.2.1 hv.2.2
 have w2 : IntKind.i64.wrap (b.c * b.mn) = b.c * b.mn := by rw [wi64]; omega
 have w3 : IntKind.i64.wrap (b.c * b.mx) = b.c * b.mx := by rw [wi64]; omega
 have w4 : IntKind.i64.wrap (IntKind.i64.wrap (b.c - 1) * 1099511627776) = (b.c - 1) * 1099511627776 := by rw [wi64, wi64]; omega
 refine Wc.seqR (fun y => bkA4 b = false ∧ y.ds = [] ∧ Fs y.e 174 [(1, P' (pI k)), (2, P' (pI w)), (3, .v (.c (.ref 0 0)))] ∧ OA y.s.nx y.s [] [(0, .cells (b.pd.map .p) false)]) ?_ ?_
 ·refine Wc.seq ?_
  have bad : bkA4 b = true → false = R := fun h => by rw [← hR, h]; rfl
  unfold bkA4 at bad ⊢
  rcases Bool.eq_false_or_eq_true (decide (b.f < b.mn)) with z1 | z1
  ·refine gR fun K F => ?_; simp only [go_sem, hF, g0, z1]; apply F; clear F K
   refine gT (by simp only [go_sem, hF, g0, z1]) ?_
   refine gS fun K F => ?_; simp only [go_sem, hF]; apply F; clear F K
   rw [← bad (by simp only [z1]; rfl)]
   exact Wc.ret (Pf.ret [.tmp 6] [.c (.p (.bool false))] rfl rfl (by simp only [resultsD, go_sem, hF]) rfl)
  rcases Bool.eq_false_or_eq_true (decide (b.mx < b.f)) with z2 | z2
  ·refine gR fun K F => ?_; simp only [go_sem, hF, g0, z1, z2]; apply F; clear F K
   refine gT (by simp only [go_sem, hF, g0, z1, z2]) ?_
   refine gS fun K F => ?_; simp only [go_sem, hF]; apply F; clear F K
   rw [← bad (by simp only [z1, z2]; rfl)]
   exact Wc.ret (Pf.ret [.tmp 6] [.c (.p (.bool false))] rfl rfl (by simp only [resultsD, go_sem, hF]) rfl)
  rcases Bool.eq_false_or_eq_true (decide (b.l < b.mn)) with z3 | z3
  ·refine gR fun K F => ?_; simp only [go_sem, hF, g0, z1, z2, z3]; apply F; clear F K
   refine gT (by simp only [go_sem, hF, g0, z1, z2, z3]) ?_
   refine gS fun K F => ?_; simp only [go_sem, hF]; apply F; clear F K
   rw [← bad (by simp only [z1, z2, z3]; rfl)]
   exact Wc.ret (Pf.ret [.tmp 6] [.c (.p (.bool false))] rfl rfl (by simp only [resultsD, go_sem, hF]) rfl)
  rcases Bool.eq_false_or_eq_true (decide (b.mx < b.l)) with z4 | z4
  ·refine gR fun K F => ?_; simp only [go_sem, hF, g0, z1, z2, z3, z4]; apply F; clear F K
   refine gT (by simp only [go_sem, hF, g0, z1, z2, z3, z4]) ?_
   refine gS fun K F => ?_; simp only [go_sem, hF]; apply F; clear F K
   rw [← bad (by simp only [z1, z2, z3, z4]; rfl)]
   exact Wc.ret (Pf.ret [.tmp 6] [.c (.p (.bool false))] rfl rfl (by simp only [resultsD, go_sem, hF]) rfl)
  refine gR fun K F => ?_; simp only [go_sem, hF, g0, z1, z2, z3, z4]; apply F; clear F K
  refine gF (by simp only [go_sem, hF, g0, z1, z2, z3, z4]) ?_
  exact ⟨by simp only [z1, z2, z3, z4]; rfl, rfl, by simp only [Fs, nZ, go_sem, hF], by (try simp only [St.nx_put, St.nx_adv]); repeat (first | exact OA.mono ho (by omega) | refine OA.newB ?_ (by omega) rfl | refine OA.advB ?_)⟩
 clear hF ho g0 e s1
 rintro ⟨e, ds, s1⟩ ⟨c4, rfl, hF, ho⟩
 simp only [Fs] at hF ho
 have g0 := ho.at_ (0, .cells (b.pd.map .p) false) (by simp)
 simp only [List.map_cons, List.map_nil] at g0
 rw [c4] at hR
 refine Wc.seqR (fun y => bkA5 b = false ∧ y.ds = [] ∧ Fs y.e 174 [(1, P' (pI k)), (2, P' (pI w)), (3, .v (.c (.ref 0 0)))] ∧ OA y.s.nx y.s [] [(0, .cells (b.pd.map .p) false)]) ?_ ?_
 ·refine Wc.seq ?_
  have bad : bkA5 b = true → false = R := fun h => by rw [← hR, h]; rfl
  unfold bkA5 at bad ⊢
  rcases Bool.eq_false_or_eq_true (decide (b.s < b.c * b.mn)) with z1 | z1
  ·refine gR fun K F => ?_; simp only [go_sem, hF, g0, w2, w3, z1]; apply F; clear F K
   refine gT (by simp only [go_sem, hF, g0, w2, w3, z1]) ?_
   refine gS fun K F => ?_; simp only [go_sem, hF]; apply F; clear F K
   rw [← bad (by simp only [z1]; rfl)]
   exact Wc.ret (Pf.ret [.tmp 6] [.c (.p (.bool false))] rfl rfl (by simp only [resultsD, go_sem, hF]) rfl)
  rcases Bool.eq_false_or_eq_true (decide (b.c * b.mx < b.s)) with z2 | z2
  ·refine gR fun K F => ?_; simp only [go_sem, hF, g0, w2, w3, z1, z2]; apply F; clear F K
   refine gT (by simp only [go_sem, hF, g0, w2, w3, z1, z2]) ?_
   refine gS fun K F => ?_; simp only [go_sem, hF]; apply F; clear F K
   rw [← bad (by simp only [z1, z2]; rfl)]
   exact Wc.ret (Pf.ret [.tmp 6] [.c (.p (.bool false))] rfl rfl (by simp only [resultsD, go_sem, hF]) rfl)
  refine gR fun K F => ?_; simp only [go_sem, hF, g0, w2, w3, z1, z2]; apply F; clear F K
  refine gF (by simp only [go_sem, hF, g0, w2, w3, z1, z2]) ?_
  exact ⟨by simp only [z1, z2]; rfl, rfl, by simp only [Fs, nZ, go_sem, hF], by (try simp only [St.nx_put, St.nx_adv]); repeat (first | exact OA.mono ho (by omega) | refine OA.newB ?_ (by omega) rfl | refine OA.advB ?_)⟩
 clear hF ho g0 e s1
 rintro ⟨e, ds, s1⟩ ⟨c5, rfl, hF, ho⟩
 simp only [Fs] at hF ho
 have g0 := ho.at_ (0, .cells (b.pd.map .p) false) (by simp)
 simp only [List.map_cons, List.map_nil] at g0
 rw [c5] at hR
 refine Wc.seqR (fun y => bkA6 k b = false ∧ y.ds = [] ∧ Fs y.e 174 [(1, P' (pI k)), (2, P' (pI w)), (3, .v (.c (.ref 0 0)))] ∧ OA y.s.nx y.s [] [(0, .cells (b.pd.map .p) false)]) ?_ ?_
 ·refine Wc.seq ?_
  have bad : bkA6 k b = true → false = R := fun h => by rw [← hR, h]; rfl
  unfold bkA6 at bad ⊢
  cases Bool.eq_false_or_eq_true (k == 1) with
  | inl k1 =>
   rcases Bool.eq_false_or_eq_true (b.inc != 0) with z1 | z1
   ·refine gR fun K F => ?_; simp only [go_sem, hF, g0, k1, w4, z1]; apply F; clear F K
    refine gT (by simp only [go_sem, hF, g0, k1, w4, z1]) ?_
    refine gS fun K F => ?_; simp only [go_sem, hF]; apply F; clear F K
    rw [← bad (by simp only [k1, z1]; rfl)]
    exact Wc.ret (Pf.ret [.tmp 6] [.c (.p (.bool false))] rfl rfl (by simp only [resultsD, go_sem, hF]) rfl)
   rcases Bool.eq_false_or_eq_true (decide (b.inc < 0)) with z2 | z2
   ·refine gR fun K F => ?_; simp only [go_sem, hF, g0, k1, w4, z1, z2]; apply F; clear F K
    refine gT (by simp only [go_sem, hF, g0, k1, w4, z1, z2]) ?_
    refine gS fun K F => ?_; simp only [go_sem, hF]; apply F; clear F K
    rw [← bad (by simp only [k1, z1, z2]; rfl)]
    exact Wc.ret (Pf.ret [.tmp 6] [.c (.p (.bool false))] rfl rfl (by simp only [resultsD, go_sem, hF]) rfl)
   rcases Bool.eq_false_or_eq_true (decide ((b.c - 1) * 1099511627776 < b.inc)) with z3 | z3
   ·refine gR fun K F => ?_; simp only [go_sem, hF, g0, k1, w4, z1, z2, z3]; apply F; clear F K
    refine gT (by simp only [go_sem, hF, g0, k1, w4, z1, z2, z3]) ?_
    refine gS fun K F => ?_; simp only [go_sem, hF]; apply F; clear F K
    rw [← bad (by simp only [k1, z1, z2, z3]; rfl)]
    exact Wc.ret (Pf.ret [.tmp 6] [.c (.p (.bool false))] rfl rfl (by simp only [resultsD, go_sem, hF]) rfl)
   refine gR fun K F => ?_; simp only [go_sem, hF, g0, k1, w4, z1, z2, z3]; apply F; clear F K
   refine gF (by simp only [go_sem, hF, g0, k1, w4, z1, z2, z3]) ?_
   exact ⟨by simp only [k1, z1, z2, z3]; rfl, rfl, by simp only [Fs, nZ, go_sem, hF], by (try simp only [St.nx_put, St.nx_adv]); repeat (first | exact OA.mono ho (by omega) | refine OA.newB ?_ (by omega) rfl | refine OA.advB ?_)⟩
  | inr k1 =>
   rcases Bool.eq_false_or_eq_true (decide (b.inc < 0)) with z1 | z1
   ·refine gR fun K F => ?_; simp only [go_sem, hF, g0, k1, w4, z1]; apply F; clear F K
    refine gT (by simp only [go_sem, hF, g0, k1, w4, z1]) ?_
    refine gS fun K F => ?_; simp only [go_sem, hF]; apply F; clear F K
    rw [← bad (by simp only [k1, z1]; rfl)]
    exact Wc.ret (Pf.ret [.tmp 6] [.c (.p (.bool false))] rfl rfl (by simp only [resultsD, go_sem, hF]) rfl)
   rcases Bool.eq_false_or_eq_true (decide ((b.c - 1) * 1099511627776 < b.inc)) with z2 | z2
   ·refine gR fun K F => ?_; simp only [go_sem, hF, g0, k1, w4, z1, z2]; apply F; clear F K
    refine gT (by simp only [go_sem, hF, g0, k1, w4, z1, z2]) ?_
    refine gS fun K F => ?_; simp only [go_sem, hF]; apply F; clear F K
    rw [← bad (by simp only [k1, z1, z2]; rfl)]
    exact Wc.ret (Pf.ret [.tmp 6] [.c (.p (.bool false))] rfl rfl (by simp only [resultsD, go_sem, hF]) rfl)
   refine gR fun K F => ?_; simp only [go_sem, hF, g0, k1, w4, z1, z2]; apply F; clear F K
   refine gF (by simp only [go_sem, hF, g0, k1, w4, z1, z2]) ?_
   exact ⟨by simp only [k1, z1, z2]; rfl, rfl, by simp only [Fs, nZ, go_sem, hF], by (try simp only [St.nx_put, St.nx_adv]); repeat (first | exact OA.mono ho (by omega) | refine OA.newB ?_ (by omega) rfl | refine OA.advB ?_)⟩
 clear hF ho g0 e s1
 rintro ⟨e, ds, s1⟩ ⟨c6, rfl, hF, ho⟩
 simp only [Fs] at hF ho
 have g0 := ho.at_ (0, .cells (b.pd.map .p) false) (by simp)
 simp only [List.map_cons, List.map_nil] at g0
 rw [c6] at hR
 subst hR
 refine Wc.seq ?_
 have fin : ∀ (e : List D) (s : St), e.getD 6 .junk = P' (.bool (bkA7 b)) → Wc E0 none .ret { e := e, ds := [], s := s } (bodyQ E0 Tryz.f155 fun d0 s2 => ∃ s3, purD s2 d0 = some (P' (.bool (bkA7 b)), s3)) := fun e s h =>
  Wc.ret (Pf.ret [.tmp 6] [.c (.p (.bool (bkA7 b)))] rfl rfl (by simp only [resultsD, go_sem, h]) rfl)
 cases z1 : decide (1 < b.c) with
 | true =>
  refine gR fun K F => ?_; simp only [go_sem, hF, g0, z1]; apply F; clear F K
  exact fin _ _ (by simp only [go_sem, hF, bkA7, z1, Bool.true_or])
 | false =>
  cases z2 : (b.s == b.mn) with
  | false =>
   refine gR fun K F => ?_; simp only [go_sem, hF, g0, z1, z2]; apply F; clear F K
   exact fin _ _ (by simp only [go_sem, hF, bkA7, z1, z2, Bool.false_or])
  | true =>
   cases z3 : (b.mn == b.mx) with
   | false =>
    refine gR fun K F => ?_; simp only [go_sem, hF, g0, z1, z2, z3]; apply F; clear F K
    exact fin _ _ (by simp only [go_sem, hF, bkA7, z1, z2, z3, Bool.false_or])
   | true =>
    cases z4 : (b.f == b.mn) with
    | false =>
     refine gR fun K F => ?_; simp only [go_sem, hF, g0, z1, z2, z3, z4]; apply F; clear F K
     exact fin _ _ (by simp only [go_sem, hF, bkA7, z1, z2, z3, z4, Bool.false_or])
    | true =>
     refine gR fun K F => ?_; simp only [go_sem, hF, g0, z1, z2, z3, z4]; apply F; clear F K
     exact fin _ _ (by simp only [go_sem, hF, bkA7, z1, z2, z3, z4, Bool.false_or])
end Go.Proofs.YtedcnhbblgmdnaaGreat.Ab
