/- A part of the proof: an evaluator of the code, its contracts, the law. No condition. -/
import Derived.Test.YtafaoldmemcigaaGreatT21
namespace Go.Proofs.YtafaoldmemcigaaGreat.Ab
set_option maxHeartbeats 8000000
set_option maxRecDepth 10000
set_option linter.unusedSimpArgs false
set_option linter.unusedVariables false
end Go.Proofs.YtafaoldmemcigaaGreat.Ab
namespace Go.Proofs.YtafaoldmemcigaaGreat.Ab
set_option maxHeartbeats 4000000
set_option linter.unusedSimpArgs false
set_option linter.unusedVariables false
theorem encT_len {l : List Int} (h : (encT l).2 = 0) : (encT l).1.length ≤ 40 + 20 * l.length := by
  unfold encT at *
  by_cases hc : chkT l = 0
  · rw [if_pos hc]
    obtain ⟨hl2, hV⟩ := chkT_ok hc
    have hR : ∀ x ∈ l, inR x = true := fun x hx => by have := hV x hx; simp [inR]; omega
    have hD := diffs_mem hV
    have hDR : ∀ x ∈ diffs l, inR x = true := fun x hx => by have := hD x hx; simp [inR]; omega
    have hDD := diffs_mem hD
    have hDDR : (diffs (diffs l)).all inR = true := List.all_eq_true.2 fun d hd => by have := hDD d hd; simp [inR]; omega
    have hdl := diffs_len l
    have hddl := diffs_len (diffs l)
    have hrl := runE_len _ (diffs (diffs l)) (Nat.le_refl _) hDDR (by omega)
    have f1 := first1_len hR
    have f2 := first1_len hDR
    have hvl := vb_len10 (n := l.length) (by omega)
    simp only [List.length_append]
    omega
  · rw [if_neg hc] at h
    exact absurd h hc
theorem encV_len2 {l : List Int} (h : (encV l).2 = 0) : (encV l).1.length ≤ 40 + 20 * l.length := by
  unfold encV at *
  by_cases h1 : 20000 < l.length
  · rw [if_pos h1] at h; cases h
  rw [if_neg h1] at h ⊢
  by_cases h2 : l.all inV = true
  · rw [if_pos h2]
    have hV := inV_all h2
    have hR : ∀ x ∈ l, inR x = true := fun x hx => inV_R (List.all_eq_true.1 h2 x hx)
    have hdR : (diffs l).all inR = true := List.all_eq_true.2 fun d hd => by have := diffs_mem hV d hd; simp [inR]; omega
    have hdl := diffs_len l
    have hrl := runE_len _ (diffs l) (Nat.le_refl _) hdR (by omega)
    have f1 := first1_len hR
    have hvl := vb_len10 (n := l.length) (by omega)
    simp only [List.length_append]
    omega
  · rw [if_neg h2] at h; cases h
theorem encI_len2 {l : List Int} (h : (encI l).2 = 0) : (encI l).1.length ≤ 40 + 20 * l.length := by
  unfold encI at *
  by_cases h1 : 20000 < l.length
  · rw [if_pos h1] at h; cases h
  rw [if_neg h1] at h ⊢
  by_cases h2 : l.all inR = true
  · rw [if_pos h2]
    have hvl := vb_len10 (n := l.length) (by omega)
    have := encL_len l h2
    simp only [List.length_append]
    omega
  · rw [if_neg h2] at h; cases h
/-- Encoded columns; none: one is too long. -/
def colsOK (cs : List (List UInt8 × Int)) : Option (List (List UInt8)) := if cs.all (fun c => c.2 == 0) then some (cs.map (·.1)) else none
theorem colsOK_cons (c : List UInt8 × Int) (r : List (List UInt8 × Int)) : colsOK (c :: r) = if c.2 = 0 then (match colsOK r with
    | some ss => some (c.1 :: ss)
    | none => none) else none := by
  unfold colsOK
  by_cases h : c.2 = 0
  · have hb : (c.2 == 0) = true := by simpa using h
    rw [if_pos h, List.all_cons, hb, Bool.true_and, List.map_cons]
    cases r.all (fun c => c.2 == 0) <;> rfl
  · have hb : (c.2 == 0) = false := by simpa using h
    rw [if_neg h, List.all_cons, hb, Bool.false_and]; rfl
theorem colsOK_app (a b : List (List UInt8 × Int)) : colsOK (a ++ b) = match colsOK a with
    | some ss => (match colsOK b with
      | some tt => some (ss ++ tt)
      | none => none)
    | none => none := by
  induction a with
  | nil => simp [colsOK]; split <;> simp_all
  | cons c r ih =>
    rw [List.cons_append, colsOK_cons, colsOK_cons, ih]
    split
    · cases colsOK r <;> simp only
      cases colsOK b <;> rfl
    · rfl
theorem packE_cols {A : Type} (l : List A) : ∀ cols : List (Col A), packE l cols = colsOK (cols.map fun c => encF c.f (l.map c.get))
  | [] => rfl
  | c :: r => by rw [List.map_cons, colsOK_cons, packE, packE_cols l r]; rfl
def smpCs (l : List I2) : List (List UInt8 × Int) := [encT (l.map (·.1)), encV (l.map (·.2))]
def hstCs (l : List HSm) : List (List UInt8 × Int) :=
  [encT (l.map (·.t)), encV (l.map (·.h.p)), encV (l.map (·.h.c)), encV (l.map (·.h.mn)), encV (l.map (·.h.mx)), encV (l.map fun x => (x.h.bs.length : Int)), encV ((l.flatMap (·.h.bs)).map (·.1)), encV ((l.flatMap (·.h.bs)).map (·.2)), encI (l.map (·.h.s))]
theorem packE_smp (l : List I2) : packE l smpCols = colsOK (smpCs l) := by rw [packE_cols]; rfl
theorem packH_cols (l : List HSm) : packH l = colsOK (hstCs l) := by
  have e : hstCs l = (hstCols.map fun c => encF c.f (l.map c.get)) ++ ([encV (l.map fun x => (x.h.bs.length : Int))] ++ ((bckCols.map fun c => encF c.f ((l.flatMap (·.h.bs)).map c.get)) ++ [encI (l.map (·.h.s))])) := rfl
  rw [e, colsOK_app, ← packE_cols, colsOK_app, colsOK_app, ← packE_cols]
  unfold packH
  have one : ∀ c : List UInt8 × Int, colsOK [c] = if c.2 = 0 then some [c.1] else none := fun c => by rw [colsOK_cons]; rfl
  rw [one, one]
  cases packE l hstCols with
  | none => rfl
  | some out =>
    simp only
    by_cases h1 : (encV (l.map fun x => (x.h.bs.length : Int))).2 = 0
    · rw [if_pos h1, if_pos h1]
      cases packE (l.flatMap (·.h.bs)) bckCols with
      | none => rfl
      | some more =>
        simp only
        by_cases h2 : (encI (l.map (·.h.s))).2 = 0
        · rw [if_pos h2, if_pos h2]
          simp only [List.append_assoc]
        · rw [if_neg h2, if_neg h2]
    · rw [if_neg h1, if_neg h1]
/-! ### the parts, one behind the other -/
def flatP (ss : List (List UInt8)) : List UInt8 := ss.flatMap fun s => vb s.length ++ s
theorem jn_eq : ∀ (ss : List (List UInt8)) (t : List UInt8), t.length ≤ 262144 → jn t ss = if 262144 < (t ++ flatP ss).length then none else some (t ++ flatP ss)
  | [], t, h => by
    have e : t ++ flatP [] = t := by simp [flatP]
    rw [e, if_neg (by omega)]; rfl
  | s :: r, t, h => by
    have e : t ++ flatP (s :: r) = (t ++ vb s.length ++ s) ++ flatP r := by simp [flatP]
    rw [e]
    simp only [jn]
    by_cases h1 : 262144 < (t ++ vb s.length ++ s).length
    · rw [if_pos h1, if_pos (by rw [List.length_append]; omega)]
    · rw [if_neg h1, jn_eq r _ (by omega)]
/-- What both encoders come to, out of the columns. -/
def encC (sig : Int) (lab : Pd) (z : List Pd) (t : List UInt8) (cs : List (List UInt8 × Int)) : D := match colsOK cs with
  | none => .tup [noCh, .c (.p (pI 4))]
  | some ss => finE sig lab z (jn t ss)
/-! ### zones -/
def zfold (l : List I2) : Zo := l.foldl (fun z p => z.add p.1 p.2) Zo.none
theorem zfold_snoc (l : List I2) (p : I2) : zfold (l ++ [p]) = (zfold l).add p.1 p.2 := by simp [zfold, List.foldl_append]
theorem zfold_ok : ∀ (n : Nat) (l : List I2), l.length = n → n < 2^40 → (∀ p ∈ l, isT p.1 = true ∧ isVl p.2 = true) → (zfold l).ok ∧ (zfold l).c = n
  | 0, l, h, _, _ => by
    have : l = [] := List.length_eq_zero_iff.1 h
    subst this
    exact ⟨.inl rfl, rfl⟩
  | n + 1, l, h, hn, hv => by
    have hne : l ≠ [] := fun e => by rw [e] at h; simp at h
    have e := List.dropLast_concat_getLast hne
    rw [← e, zfold_snoc]
    obtain ⟨h1, h2⟩ := zfold_ok n l.dropLast (by simp [h]) (by omega) fun p hp => hv p ((List.dropLast_sublist l).subset hp)
    obtain ⟨h3, h4⟩ := hv (l.getLast hne) (List.getLast_mem hne)
    obtain ⟨h5, h6⟩ := Zo.add_ok h1 (by rw [h2]; omega) h3 h4
    exact ⟨h5, by rw [h6, h2]; omega⟩
/-! ### what a valid series is -/
theorem sck_ok {k : Int} : ∀ {l : List I2} {p : Option Int}, sck k p l = 0 → ∀ x ∈ l, smpOK x = true
  | [], p, h, x, hx => by cases hx
  | y :: r, p, h, x, hx => by
    have h1 : ¬ (smpOK y = false ∨ (k = 2 ∧ y.2 < 0)) := fun hb => by
      cases p <;> simp only [sck] at h <;> rw [if_pos hb] at h <;> cases h
    have h2 : sck k (some y.1) r = 0 := by
      cases p with
      | none => simp only [sck] at h; rw [if_neg h1] at h; exact h
      | some z =>
        simp only [sck] at h
        rw [if_neg h1] at h
        split at h
        · cases h
        · exact h
    rcases List.mem_cons.1 hx with rfl | hx
    · cases hs : smpOK x with
      | true => rfl
      | false => exact absurd (.inl hs) h1
    · exact sck_ok h2 x hx
theorem sckA_ok {k : Int} {l : List I2} (h : sckA k l = 0) : (k = 1 ∨ k = 2) ∧ l.length ≤ 2000 ∧ ∀ x ∈ l, isT x.1 = true ∧ isVl x.2 = true := by
  unfold sckA at h
  split at h
  · cases h
  · split at h
    · cases h
    · refine ⟨by omega, by omega, fun x hx => ?_⟩
      have := sck_ok h x hx
      simpa [smpOK] using this
theorem hck_ok {h : Hst} (hh : hck h = 0) : h.bs.length ≤ 500 ∧ 0 ≤ h.c ∧ h.c ≤ 1048576 := by
  unfold hck at hh
  split at hh
  · cases hh
  rename_i hp
  split at hh
  · cases hh
  rename_i hl
  split at hh
  · rename_i hb; exact absurd hh hb
  rename_i hb
  split at hh
  · cases hh
  rename_i hc
  split at hh
  · cases hh
  rename_i ha
  have hz : bck (ix h.p.toNat 1099511627776) (-1) h.bs = 0 := by
    by_cases h1 : bck (ix h.p.toNat 1099511627776) (-1) h.bs = 0
    · exact h1
    · exact absurd h1 hb
  have hbs := bck_bs (q := h.p.toNat) (by omega) hz
  have h0 := (cnt_le hbs.cn h.bs.length).1
  rw [List.take_length] at h0
  have hcc : h.c = cnt h.bs := by
    by_cases h1 : h.c = cnt h.bs
    · exact h1
    · exfalso; apply ha; unfold agrB; rw [if_pos h1]
  omega
theorem vh_ok : ∀ {l : List HSm} {p : Int}, 0 ≤ p → vh p l = true → ∀ x ∈ l, 1 ≤ x.t ∧ x.t ≤ 1099511627776 ∧ hck x.h = 0
  | [], p, _, _, x, hx => by cases hx
  | y :: r, p, hp, h, x, hx => by
    simp only [vh] at h
    split at h
    · cases h
    rename_i hn
    rcases List.mem_cons.1 hx with rfl | hx
    · omega
    · exact vh_ok (p := y.t) (by omega) h x hx
theorem validH_ok {l : List HSm} (h : validH l = true) : l.length ≤ 2000 ∧ ∀ x ∈ l, isT x.t = true ∧ isVl x.h.c = true ∧ x.h.bs.length ≤ 500 := by
  simp only [validH, Bool.and_eq_true, decide_eq_true_eq] at h
  refine ⟨h.1.2, fun x hx => ?_⟩
  obtain ⟨h1, h2, h3⟩ := vh_ok (Int.le_refl _) h.2 x hx
  obtain ⟨h4, h5, h6⟩ := hck_ok h3
  refine ⟨by simp [isT]; omega, by simp [isVl]; omega, h4⟩
theorem serOK_s {x : Ser} (h : serOK x = true) (hk : ¬ x.k = 3) : (x.k = 1 ∨ x.k = 2) ∧ x.sm.length ≤ 2000 ∧ ∀ y ∈ x.sm, isT y.1 = true ∧ isVl y.2 = true := by
  unfold serOK at h
  split at h
  · cases h
  · simp only [Bool.and_eq_true] at h
    exact sckA_ok (by simpa using h.2.2)
theorem serOK_h {x : Ser} (h : serOK x = true) (hk : x.k = 3) : x.hs.length ≤ 2000 ∧ ∀ y ∈ x.hs, isT y.t = true ∧ isVl y.h.c = true ∧ y.h.bs.length ≤ 500 := by
  unfold serOK at h
  split at h
  · cases h
  · simp only [Bool.and_eq_true] at h
    exact validH_ok h.2
def serCs (x : Ser) : List (List UInt8 × Int) := if x.k = 3 then hstCs x.hs else smpCs x.sm
def serZ (x : Ser) : Zo := if x.k = 3 then zfold (x.hs.map fun y => (y.t, y.h.c)) else zfold x.sm
/-- The cells of a zone whose bits are clear. -/
abbrev Zo.pd (z : Zo) : List Pd := [pI z.c, pI z.t1, pI z.t2, pI z.v1, pI z.v2, .int .u32 0, .int .u32 0, .int .u32 0, .int .u32 0, .int .u32 0, .int .u32 0, .int .u32 0, .int .u32 0]
/-- What Encode comes to. -/
def encS (x : Ser) : D := if serOK x = false then .tup [noCh, .c (.p (pI 1))] else encC 1 (.lst x.lb.length (x.lb.flatMap lbP)) (serZ x).pd (appV [] x.k).1 (serCs x)
end Go.Proofs.YtafaoldmemcigaaGreat.Ab
namespace Go.Proofs.YtafaoldmemcigaaGreat.Ab
set_option maxHeartbeats 8000000
set_option maxRecDepth 10000
set_option linter.unusedSimpArgs false
set_option linter.unusedVariables false
theorem o24 : E0.opn 24 = true := by kernel_rfl
theorem x24 : E0.xt 24 = none := by kernel_rfl
theorem o25 : E0.opn 25 = false := by kernel_rfl
theorem x25 : E0.xt 25 = none := by kernel_rfl
theorem purVs_last {c : C} {y : V} (hc : ∀ s, purVs s [.c c] = some ([y], s)) : ∀ (vs : List V), (∀ v ∈ vs, ∀ s, purV s v = some (v, s)) → ∀ s, purVs s (vs ++ [.c c]) = some (vs ++ [y], s)
  | [], _, s => hc s
  | v :: r, h, s => by
    have ih := purVs_last hc r (fun u hu => h u (by simp [hu])) s
    rw [List.cons_append]
    simp only [purVs, h v (by simp) s]
    rw [ih]; rfl
theorem jn_pre {cs : List (List UInt8 × Int)} {ss : List (List UInt8)} {m : Nat} (h : colsOK cs = some ss) (hl : ∀ c ∈ cs, c.2 = 0 → c.1.length ≤ m) : ∀ s ∈ ss, s.length ≤ m := by
  unfold colsOK at h
  split at h
  · rename_i ha
    cases h
    intro s hs
    obtain ⟨c, hc, rfl⟩ := List.mem_map.1 hs
    exact hl c hc (by simpa using List.all_eq_true.1 ha c hc)
  · cases h
theorem serCs_len {x : Ser} (h : serOK x = true) : ∀ c ∈ serCs x, c.2 = 0 → c.1.length ≤ 35184372088832 := by
  intro c hc h2
  unfold serCs at hc
  split at hc
  · rename_i hk
    obtain ⟨h3, h4⟩ := serOK_h h hk
    have hf := flat_le (f := fun y : HSm => y.h.bs) (k := 500) x.hs fun y hy => (h4 y hy).2.2
    simp only [hstCs, List.mem_cons, List.not_mem_nil, or_false] at hc
    rcases hc with rfl | rfl | rfl | rfl | rfl | rfl | rfl | rfl | rfl
    · have := encT_len h2; simp only [List.length_map] at this; omega
    · have := encV_len2 h2; simp only [List.length_map] at this; omega
    · have := encV_len2 h2; simp only [List.length_map] at this; omega
    · have := encV_len2 h2; simp only [List.length_map] at this; omega
    · have := encV_len2 h2; simp only [List.length_map] at this; omega
    · have := encV_len2 h2; simp only [List.length_map] at this; omega
    · have := encV_len2 h2; simp only [List.length_map] at this; omega
    · have := encV_len2 h2; simp only [List.length_map] at this; omega
    · have := encI_len2 h2; simp only [List.length_map] at this; omega
  · rename_i hk
    obtain ⟨_, h3, h4⟩ := serOK_s h hk
    simp only [smpCs, List.mem_cons, List.not_mem_nil, or_false] at hc
    rcases hc with rfl | rfl
    · have := encT_len h2; simp only [List.length_map] at this; omega
    · have := encV_len2 h2; simp only [List.length_map] at this; omega
/-- 9: serieschunk.Encode -/
theorem pf9 (x : Ser) (z : x.Sz) : Pf E0 9 [.agg (x.pd.map .p)] (encS x) := by
  have hflh : (x.hs.flatMap HSm.pd).length = x.hs.length * 7 := flat_len (k := 7) (fun _ => rfl) x.hs
  have hfls : (x.sm.flatMap p2).length = x.sm.length * 2 := flat_len (k := 2) (fun _ => rfl) x.sm
  refine Pf.body (fn := Tryz.f9) (by kernel_rfl) rfl ?_; simp only [List.map_cons, List.map_nil, List.cons_append, List.nil_append, List.length_cons, List.length_nil, Tryz.ntmps9, List.replicate, Nat.reduceSub, Nat.reduceAdd]
  refine Wc.seq ?_
  refine Wc.reg fun K hK => ?_; simp only [go_sem, ti3, ti9, ti4, ti35, ti22, ti23, ti24, ti26, ti32, ti34, ti45, ti48, ti55, ti57, ti69]; refine hK _ _ ?_; clear hK K
  refine Wc.seqR (fun y => serOK x = true ∧ y.ds = [] ∧ y.e.length = 79 ∧ y.e.getD 1 .junk = .v (.c (.ref 0 0)) ∧ y.e.getD 2 .junk = .v (.c (.ref 1 0)) ∧ OA y.s.nx y.s [] [(1, .cells [.p (pI 0), .nils, .p (pI 0), .p (pI 0), .p (pI 0), .p (pI 0), .p (pI 0), .p (.int .u32 0), .p (.int .u32 0), .p (.int .u32 0), .p (.int .u32 0), .p (.int .u32 0), .p (.int .u32 0), .p (.int .u32 0), .p (.int .u32 0), .p (.str [])] false), (0, .cells (x.pd.map .p) false)]) ?_ ?_
  · refine Wc.seq ?_
    refine Wc.reg fun K hK => ?_; simp only [go_sem, ti3, ti9, ti4, ti35, ti22, ti23, ti24, ti26, ti32, ti34, ti45, ti48, ti55, ti57, ti69]
    refine wpCall.pf (pf21 x z) (by kernel_rfl) (by kernel_rfl) rfl rfl ?_
    simp only [go_sem, ti3, ti9, ti4, ti35, ti22, ti23, ti24, ti26, ti32, ti34, ti45, ti48, ti55, ti57, ti69]; refine hK _ _ ?_; clear hK K
    refine Wc.cond (t := !(serOK x)) (by simp only [go_sem, ti3, ti9, ti4, ti35, ti22, ti23, ti24, ti26, ti32, ti34, ti45, ti48, ti55, ti57, ti69]) (fun hc => ?_) (fun hc => ?_)
    · have hb : serOK x = false := by simpa using hc
      have e : encS x = .tup [noCh, .c (.p (pI 1))] := by unfold encS; rw [if_pos hb]
      rw [e]
      refine Wc.seq ?_
      refine Wc.reg fun K hK => ?_; simp only [go_sem, ti3, ti9, ti4, ti35, ti22, ti23, ti24, ti26, ti32, ti34, ti45, ti48, ti55, ti57, ti69]; refine hK _ _ ?_; clear hK K
      exact Wc.ret (Pf.ret [.cell 2 34, .tmp 3] [.agg ([.p (pI 0), .nils] ++ zz0.map .p ++ [.p (.str [])]), .c (.p (pI 1))] rfl rfl (by simp only [resultsD, go_sem, ti3, ti9, ti4, ti35, ti22, ti23, ti24, ti26, ti32, ti34, ti45, ti48, ti55, ti57, ti69]) rfl)
    · have hb : serOK x = true := by simpa using hc
      refine Wc.skip ⟨hb, rfl, rfl, rfl, rfl, ?_⟩
      have o0 := ((s00_oa.adv (n := 3)).new (k := 0) (o := .cells (x.pd.map .p) false) (Nat.le_refl _) rfl).new (k := 1) (o := .cells [.p (pI 0), .nils, .p (pI 0), .p (pI 0), .p (pI 0), .p (pI 0), .p (pI 0), .p (.int .u32 0), .p (.int .u32 0), .p (.int .u32 0), .p (.int .u32 0), .p (.int .u32 0), .p (.int .u32 0), .p (.int .u32 0), .p (.int .u32 0), .p (.str [])] false) (by decide) rfl
      refine OA.mono (b := 1 + 1) ?_ (by simp only [St.nx_adv, St.nx_put]; omega)
      repeat refine OA.adv ?_
      exact o0
  rintro ⟨e, ds, s1⟩ ⟨hok, rfl, hlen, h1, h2, ho⟩
  simp only at hlen h1 h2 ho
  have eS : encS x = encC 1 (.lst x.lb.length (x.lb.flatMap lbP)) (serZ x).pd (appV [] x.k).1 (serCs x) := by unfold encS; rw [if_neg (by rw [hok]; decide)]
  rw [eS]
  refine Wc.seq ?_
  refine Wc.reg fun K hK => ?_; simp only [go_sem, ti3, ti9, ti4, ti35, ti22, ti23, ti24, ti26, ti32, ti34, ti45, ti48, ti55, ti57, ti69, hlen, h1, h2]; refine hK _ _ ?_; clear hK K
  refine Wc.seq ?_
  refine Wc.reg fun K hK => ?_; simp only [go_sem, ti3, ti9, ti4, ti35, ti22, ti23, ti24, ti26, ti32, ti34, ti45, ti48, ti55, ti57, ti69, hlen, h1, h2]; refine hK _ _ ?_; clear hK K
  refine Wc.seqA (fun y => ∃ k6, y.ds = [] ∧ y.e.length = 79 ∧ y.e.getD 1 .junk = .v (.c (.ref 0 0)) ∧ y.e.getD 2 .junk = .v (.c (.ref 1 0)) ∧ y.e.getD 6 .junk = .v (.c (.ref k6 0)) ∧ OA y.s.nx y.s [] [(k6, .cells (Zo.none.pd.map .p) false), (1, .cells [.p (pI 0), .nils, .p (pI 0), .p (pI 0), .p (pI 0), .p (pI 0), .p (pI 0), .p (.int .u32 0), .p (.int .u32 0), .p (.int .u32 0), .p (.int .u32 0), .p (.int .u32 0), .p (.int .u32 0), .p (.int .u32 0), .p (.int .u32 0), .p (.str [])] false), (0, .cells (x.pd.map .p) false)]) ?_ ?_
  · refine Wc.reg fun K hK => ?_; simp only [go_sem, ti3, ti9, ti4, ti35, ti22, ti23, ti24, ti26, ti32, ti34, ti45, ti48, ti55, ti57, ti69, hlen, h1, h2]; refine hK _ _ ?_; clear hK K
    refine ⟨rfl, s1.nx + 2, rfl, by simp only [go_sem, ti3, ti9, ti4, ti35, ti22, ti23, ti24, ti26, ti32, ti34, ti45, ti48, ti55, ti57, ti69, hlen], by simp only [go_sem, ti3, ti9, ti4, ti35, ti22, ti23, ti24, ti26, ti32, ti34, ti45, ti48, ti55, ti57, ti69, hlen, h1], by simp only [go_sem, ti3, ti9, ti4, ti35, ti22, ti23, ti24, ti26, ti32, ti34, ti45, ti48, ti55, ti57, ti69, hlen, h2], by simp only [go_sem, ti3, ti9, ti4, ti35, ti22, ti23, ti24, ti26, ti32, ti34, ti45, ti48, ti55, ti57, ti69, hlen], ?_⟩
    exact ((((ho.adv (n := 1)).adv (n := 1)).adv (n := 1)).new (k := s1.nx + 2) (o := .cells (Zo.none.pd.map .p) false) (by omega) rfl).mono (by simp only [St.nx_put, St.nx_adv]; omega)
  clear hlen h1 h2 ho e s1
  rintro ⟨e, ds, s1⟩ ⟨k6, rfl, hlen, h1, h2, h6, ho⟩
  simp only at hlen h1 h2 h6 ho
  refine Wc.seqA (fun y => ∃ c4 L k6, y.ds = [] ∧ y.e.length = 79 ∧ y.e.getD 1 .junk = .v (.c (.ref 0 0)) ∧ y.e.getD 2 .junk = .v (.c (.ref 1 0)) ∧ y.e.getD 4 .junk = .v (.c c4) ∧ y.e.getD 5 .junk = P' (.bool (colsOK (serCs x)).isSome) ∧ y.e.getD 6 .junk = .v (.c (.ref k6 0)) ∧
    OA y.s.nx y.s L [(k6, .cells ((serZ x).pd.map .p) false), (1, .cells [.p (pI 0), .nils, .p (pI 0), .p (pI 0), .p (pI 0), .p (pI 0), .p (pI 0), .p (.int .u32 0), .p (.int .u32 0), .p (.int .u32 0), .p (.int .u32 0), .p (.int .u32 0), .p (.int .u32 0), .p (.int .u32 0), .p (.int .u32 0), .p (.str [])] false), (0, .cells (x.pd.map .p) false)] ∧ ∀ ss, colsOK (serCs x) = some ss → ∀ s', purVs s' [.c c4] = some ([.c (.p (.lst ss.length (ss.map .str)))], s')) ?_ ?_
  · have g0 := ho.at_ (0, .cells (x.pd.map .p) false) (by simp)
    simp only [List.map_cons, List.map_nil] at g0
    refine Wc.seq ?_
    refine Wc.reg fun K hK => ?_; simp only [go_sem, ti3, ti9, ti4, ti35, ti22, ti23, ti24, ti26, ti32, ti34, ti45, ti48, ti55, ti57, ti69, hlen, h1, h2, h6, g0]; refine hK _ _ ?_; clear hK K
    refine Wc.cond (t := (x.k == 3)) (by simp only [go_sem, ti3, ti9, ti4, ti35, ti22, ti23, ti24, ti26, ti32, ti34, ti45, ti48, ti55, ti57, ti69, hlen]) (fun hc => ?_) (fun hc => ?_)
    · have hk : x.k = 3 := by simpa using hc
      obtain ⟨vl, vy⟩ := serOK_h hok hk
      have okp : ∀ p ∈ (x.hs.map fun y => (y.t, y.h.c)), isT p.1 = true ∧ isVl p.2 = true := fun p hp => by
        obtain ⟨y, hy, rfl⟩ := List.mem_map.1 hp
        exact ⟨(vy y hy).1, (vy y hy).2.1⟩
      refine Wc.seqA (fun y => ∃ c4 LL, y.ds = [] ∧ y.e.length = 79 ∧ y.e.getD 1 .junk = .v (.c (.ref 0 0)) ∧ y.e.getD 2 .junk = .v (.c (.ref 1 0)) ∧ y.e.getD 4 .junk = .v (.c c4) ∧ y.e.getD 5 .junk = P' (.bool (colsOK (serCs x)).isSome) ∧ y.e.getD 6 .junk = .v (.c (.ref k6 0)) ∧ OA y.s.nx y.s LL [(k6, .cells (Zo.none.pd.map .p) false), (1, .cells [.p (pI 0), .nils, .p (pI 0), .p (pI 0), .p (pI 0), .p (pI 0), .p (pI 0), .p (.int .u32 0), .p (.int .u32 0), .p (.int .u32 0), .p (.int .u32 0), .p (.int .u32 0), .p (.int .u32 0), .p (.int .u32 0), .p (.int .u32 0), .p (.str [])] false), (0, .cells (x.pd.map .p) false)] ∧ (∀ ss, colsOK (serCs x) = some ss → ∀ s', purVs s' [.c c4] = some ([.c (.p (.lst ss.length (ss.map .str)))], s'))) ?_ ?_
      · have hP : ∃ p4, packR (packH x.hs) = .tup [.c (.p p4), .c (.p (.bool (colsOK (serCs x)).isSome))] ∧ ∀ ss, colsOK (serCs x) = some ss → p4 = .lst ss.length (ss.map .str) := by
          have e7 : serCs x = hstCs x.hs := by unfold serCs; rw [if_pos hk]
          rw [packH_cols, e7]
          cases colsOK (hstCs x.hs) with
          | none => exact ⟨.lst 0 [], rfl, fun ss h => by cases h⟩
          | some ss => exact ⟨_, rfl, fun tt h => by cases h; rfl⟩
        obtain ⟨p4, hP, hp4⟩ := hP
        have p22 := pf22 x.hs (by omega) fun y hy => by have := (vy y hy).2.2; omega
        rw [hP] at p22
        refine Wc.reg fun K hK => ?_; simp only [go_sem, ti3, ti9, ti4, ti35, ti22, ti23, ti24, ti26, ti32, ti34, ti45, ti48, ti55, ti57, ti69, hlen, h1, h2, h6, g0]
        refine wpCall.pf p22 (by kernel_rfl) (by kernel_rfl) rfl rfl ?_
        simp only [go_sem, ti3, ti9, ti4, ti35, ti22, ti23, ti24, ti26, ti32, ti34, ti45, ti48, ti55, ti57, ti69, hlen, h1, h2, h6, g0]; refine hK _ _ ?_; clear hK K
        refine ⟨rfl, .p p4, [], rfl, by simp only [go_sem, ti3, ti9, ti4, ti35, ti22, ti23, ti24, ti26, ti32, ti34, ti45, ti48, ti55, ti57, ti69, hlen], by simp only [go_sem, ti3, ti9, ti4, ti35, ti22, ti23, ti24, ti26, ti32, ti34, ti45, ti48, ti55, ti57, ti69, hlen, h1], by simp only [go_sem, ti3, ti9, ti4, ti35, ti22, ti23, ti24, ti26, ti32, ti34, ti45, ti48, ti55, ti57, ti69, hlen, h2], by simp only [go_sem, ti3, ti9, ti4, ti35, ti22, ti23, ti24, ti26, ti32, ti34, ti45, ti48, ti55, ti57, ti69, hlen], by simp only [go_sem, ti3, ti9, ti4, ti35, ti22, ti23, ti24, ti26, ti32, ti34, ti45, ti48, ti55, ti57, ti69, hlen], by simp only [go_sem, ti3, ti9, ti4, ti35, ti22, ti23, ti24, ti26, ti32, ti34, ti45, ti48, ti55, ti57, ti69, hlen, h6], ?_, fun ss hss s' => ?_⟩
        · exact ((ho.adv (n := 3)).adv (n := 8)).mono (by simp only [St.nx_adv]; omega)
        · rw [hp4 ss hss]; rfl
      clear hlen h1 h2 h6 ho g0 e s1
      rintro ⟨e, ds, s1⟩ ⟨c4, LL, rfl, hlen, h1, h2, h4, h5, h6, ho, hpu⟩
      simp only at hlen h1 h2 h4 h5 h6 ho
      have g0 := ho.at_ (0, .cells (x.pd.map .p) false) (by simp)
      simp only [List.map_cons, List.map_nil] at g0
      refine Wc.seq ?_
      refine Wc.reg fun K hK => ?_; simp only [go_sem, ti3, ti9, ti4, ti35, ti22, ti23, ti24, ti26, ti32, ti34, ti45, ti48, ti55, ti57, ti69, hlen, h1, h2, h4, h5, h6, g0, Int.natCast_zero]; refine hK _ _ ?_; clear hK K
      refine Wc.block (Wc.loop (fun k y => ∃ i : Nat, k = x.hs.length - i ∧ i ≤ x.hs.length ∧ y.ds = [] ∧ y.e.length = 79 ∧ y.e.getD 1 .junk = .v (.c (.ref 0 0)) ∧ y.e.getD 2 .junk = .v (.c (.ref 1 0)) ∧ y.e.getD 4 .junk = .v (.c c4) ∧ y.e.getD 5 .junk = P' (.bool (colsOK (serCs x)).isSome) ∧ y.e.getD 6 .junk = .v (.c (.ref k6 0)) ∧ y.e.getD 27 .junk = P' (.lst x.hs.length (x.hs.flatMap HSm.pd)) ∧ y.e.getD 28 .junk = P' (pI x.hs.length) ∧ y.e.getD 29 .junk = P' (pI i) ∧ OA y.s.nx y.s LL [(k6, .cells ((zfold ((x.hs.map fun y => (y.t, y.h.c)).take i)).pd.map .p) false), (1, .cells [.p (pI 0), .nils, .p (pI 0), .p (pI 0), .p (pI 0), .p (pI 0), .p (pI 0), .p (.int .u32 0), .p (.int .u32 0), .p (.int .u32 0), .p (.int .u32 0), .p (.int .u32 0), .p (.int .u32 0), .p (.int .u32 0), .p (.int .u32 0), .p (.str [])] false), (0, .cells (x.pd.map .p) false)]) ?_ (k := x.hs.length) ?_)
      · clear hlen h1 h2 h4 h5 h6 ho g0 e s1
        rintro k ⟨e, ds, s1⟩ ⟨i, rfl, hi, rfl, hlen, h1, h2, h4, h5, h6, hL, hN, hI, ho⟩
        simp only at hlen h1 h2 h4 h5 h6 hL hN hI ho
        refine Wc.seq ?_
        refine Wc.reg fun K hK => ?_; simp only [go_sem, ti3, ti9, ti4, ti35, ti22, ti23, ti24, ti26, ti32, ti34, ti45, ti48, ti55, ti57, ti69, hlen, h1, h2, h4, h5, h6, hL, hN, hI]; refine hK _ _ ?_; clear hK K
        refine Wc.seq (Wc.cond (t := decide ((i : Int) < x.hs.length)) (by simp only [go_sem, ti3, ti9, ti4, ti35, ti22, ti23, ti24, ti26, ti32, ti34, ti45, ti48, ti55, ti57, ti69, hlen]) (fun hc => ?_) (fun hc => ?_))
        · have hil : i < x.hs.length := by have : (i : Int) < x.hs.length := (by simpa using hc); omega
          obtain ⟨u, hu⟩ : ∃ u, x.hs[i]? = some u := ⟨x.hs[i], List.getElem?_eq_getElem hil⟩
          have hum := List.mem_of_getElem? hu
          have hix := ixA ti24 rfl ti57 (j := i) (m := x.hs.length) (cs := x.hs.flatMap HSm.pd) hil hflh (by decide)
          have hca := rpA (off := i * 7) (drop_flat (f := HSm.pd) (k := 7) (fun _ => rfl) hu) (by rw [hflh]; omega)
          have hpu2 : (x.hs.map fun y => (y.t, y.h.c))[i]? = some (u.t, u.h.c) := by simp [hu]
          have hzs : zfold ((x.hs.map fun y => (y.t, y.h.c)).take (i + 1)) = (zfold ((x.hs.map fun y => (y.t, y.h.c)).take i)).add u.t u.h.c := by rw [take_snoc hpu2, zfold_snoc]
          have hzok := zfold_ok i ((x.hs.map fun y => (y.t, y.h.c)).take i) (by simp; omega) (by omega) fun p hp => okp p (List.mem_of_mem_take hp)
          have htv := okp (u.t, u.h.c) (List.mem_of_getElem? hpu2)
          have padd := (pfAdd (z := zfold ((x.hs.map fun y => (y.t, y.h.c)).take i)) hzok.1 (by rw [hzok.2]; omega) htv.1 htv.2).1
          rw [← hzs] at padd
          refine Wc.skip (Wc.seq (Wc.block (Wc.seqA (fun y => ∃ kx, y.ds = [] ∧ y.e.length = 79 ∧ y.e.getD 1 .junk = .v (.c (.ref 0 0)) ∧ y.e.getD 2 .junk = .v (.c (.ref 1 0)) ∧ y.e.getD 4 .junk = .v (.c c4) ∧ y.e.getD 5 .junk = P' (.bool (colsOK (serCs x)).isSome) ∧ y.e.getD 6 .junk = .v (.c (.ref k6 0)) ∧ y.e.getD 27 .junk = P' (.lst x.hs.length (x.hs.flatMap HSm.pd)) ∧ y.e.getD 28 .junk = P' (pI x.hs.length) ∧ y.e.getD 29 .junk = P' (pI i) ∧ y.e.getD 8 .junk = .v (.c (.ref kx 0)) ∧ OA y.s.nx y.s LL [(kx, .cells ((HSm.pd u).map .p) false), (k6, .cells ((zfold ((x.hs.map fun y => (y.t, y.h.c)).take i)).pd.map .p) false), (1, .cells [.p (pI 0), .nils, .p (pI 0), .p (pI 0), .p (pI 0), .p (pI 0), .p (pI 0), .p (.int .u32 0), .p (.int .u32 0), .p (.int .u32 0), .p (.int .u32 0), .p (.int .u32 0), .p (.int .u32 0), .p (.int .u32 0), .p (.int .u32 0), .p (.str [])] false), (0, .cells (x.pd.map .p) false)]) ?_ ?_)))
          · refine Wc.reg fun K hK => ?_; simp only [go_sem, ti3, ti9, ti4, ti35, ti22, ti23, ti24, ti26, ti32, ti34, ti45, ti48, ti55, ti57, ti69, hlen, h1, h2, h4, h5, h6, hL, hN, hI, hix, hca]; refine hK _ _ ?_; clear hK K
            refine ⟨rfl, s1.nx + 3, rfl, by simp only [go_sem, ti3, ti9, ti4, ti35, ti22, ti23, ti24, ti26, ti32, ti34, ti45, ti48, ti55, ti57, ti69, hlen], by simp only [go_sem, ti3, ti9, ti4, ti35, ti22, ti23, ti24, ti26, ti32, ti34, ti45, ti48, ti55, ti57, ti69, hlen, h1], by simp only [go_sem, ti3, ti9, ti4, ti35, ti22, ti23, ti24, ti26, ti32, ti34, ti45, ti48, ti55, ti57, ti69, hlen, h2], by simp only [go_sem, ti3, ti9, ti4, ti35, ti22, ti23, ti24, ti26, ti32, ti34, ti45, ti48, ti55, ti57, ti69, hlen, h4], by simp only [go_sem, ti3, ti9, ti4, ti35, ti22, ti23, ti24, ti26, ti32, ti34, ti45, ti48, ti55, ti57, ti69, hlen, h5], by simp only [go_sem, ti3, ti9, ti4, ti35, ti22, ti23, ti24, ti26, ti32, ti34, ti45, ti48, ti55, ti57, ti69, hlen, h6], by simp only [go_sem, ti3, ti9, ti4, ti35, ti22, ti23, ti24, ti26, ti32, ti34, ti45, ti48, ti55, ti57, ti69, hlen, hL], by simp only [go_sem, ti3, ti9, ti4, ti35, ti22, ti23, ti24, ti26, ti32, ti34, ti45, ti48, ti55, ti57, ti69, hlen, hN], by simp only [go_sem, ti3, ti9, ti4, ti35, ti22, ti23, ti24, ti26, ti32, ti34, ti45, ti48, ti55, ti57, ti69, hlen, hI], by simp only [go_sem, ti3, ti9, ti4, ti35, ti22, ti23, ti24, ti26, ti32, ti34, ti45, ti48, ti55, ti57, ti69, hlen], ?_⟩
            have q1 := OA.set (M1 := []) (o' := .cells ((HSm.pd u).map .p) false) (((ho.adv (n := 1)).adv (n := 4)).new (k := s1.nx + 3) (o := .cells [.p (.int .i64 0), .p (.int .i64 0), .p (.int .i64 0), .p (.int .i64 0), .p (.int .i64 0), .p (.int .i64 0), .nils] false) (by omega) rfl) rfl
            exact q1.mono (by simp only [St.nx_put, St.nx_adv]; omega)
          clear hlen h1 h2 h4 h5 h6 hL hN hI ho e s1 hc
          rintro ⟨e, ds, s1⟩ ⟨kx, rfl, hlen, h1, h2, h4, h5, h6, hL, hN, hI, hO, ho⟩
          simp only at hlen h1 h2 h4 h5 h6 hL hN hI hO ho
          generalize hZ : zfold ((x.hs.map fun y => (y.t, y.h.c)).take i) = Z at *
          generalize hZ1 : zfold ((x.hs.map fun y => (y.t, y.h.c)).take (i + 1)) = Z1 at *
          have gx := ho.at_ (kx, .cells ((HSm.pd u).map .p) false) (by simp)
          have g6 := ho.at_ (k6, .cells (Z.pd.map .p) false) (by simp)
          simp only [List.map_cons, List.map_nil] at gx g6
          refine Wc.reg fun K hK => ?_; simp only [go_sem, ti3, ti9, ti4, ti35, ti22, ti23, ti24, ti26, ti32, ti34, ti45, ti48, ti55, ti57, ti69, hlen, h1, h2, h4, h5, h6, hL, hN, hI, hO, gx, g6]
          refine wpCall.pf padd (by kernel_rfl) (by kernel_rfl) rfl rfl ?_
          simp only [go_sem, ti3, ti9, ti4, ti35, ti22, ti23, ti24, ti26, ti32, ti34, ti45, ti48, ti55, ti57, ti69, hlen, h1, h2, h4, h5, h6, hL, hN, hI, hO, gx, g6]; refine hK _ _ ?_; clear hK K
          refine Wc.reg fun K hK => ?_; simp only [go_sem, ti3, ti9, ti4, ti35, ti22, ti23, ti24, ti26, ti32, ti34, ti45, ti48, ti55, ti57, ti69, hlen, h1, h2, h4, h5, h6, hL, hN, hI, hO, i64n i (by omega)]; refine hK _ _ ?_; clear hK K
          refine ⟨x.hs.length - (i + 1), by omega, i + 1, rfl, by omega, rfl, by simp only [go_sem, ti3, ti9, ti4, ti35, ti22, ti23, ti24, ti26, ti32, ti34, ti45, ti48, ti55, ti57, ti69, hlen], by simp only [go_sem, ti3, ti9, ti4, ti35, ti22, ti23, ti24, ti26, ti32, ti34, ti45, ti48, ti55, ti57, ti69, hlen, h1], by simp only [go_sem, ti3, ti9, ti4, ti35, ti22, ti23, ti24, ti26, ti32, ti34, ti45, ti48, ti55, ti57, ti69, hlen, h2], by simp only [go_sem, ti3, ti9, ti4, ti35, ti22, ti23, ti24, ti26, ti32, ti34, ti45, ti48, ti55, ti57, ti69, hlen, h4], by simp only [go_sem, ti3, ti9, ti4, ti35, ti22, ti23, ti24, ti26, ti32, ti34, ti45, ti48, ti55, ti57, ti69, hlen, h5], by simp only [go_sem, ti3, ti9, ti4, ti35, ti22, ti23, ti24, ti26, ti32, ti34, ti45, ti48, ti55, ti57, ti69, hlen, h6], by simp only [go_sem, ti3, ti9, ti4, ti35, ti22, ti23, ti24, ti26, ti32, ti34, ti45, ti48, ti55, ti57, ti69, hlen, hL], by simp only [go_sem, ti3, ti9, ti4, ti35, ti22, ti23, ti24, ti26, ti32, ti34, ti45, ti48, ti55, ti57, ti69, hlen, hN], by simp only [go_sem, ti3, ti9, ti4, ti35, ti22, ti23, ti24, ti26, ti32, ti34, ti45, ti48, ti55, ti57, ti69, hlen], ?_⟩
          rw [hZ1]
          have q1 := OA.set (M1 := [(kx, .cells ((HSm.pd u).map .p) false)]) (o' := .cells (Z1.pd.map .p) false) (ho.adv (n := 8)) rfl
          exact ((q1.sub (List.Sublist.refl _) (List.sublist_cons_self _ _)).adv (n := 2)).mono (by simp only [St.nx_put, St.nx_adv]; omega)
        · have hil : i = x.hs.length := by have : ¬ (i : Int) < x.hs.length := (by simpa using hc); omega
          subst hil
          have e8 : zfold ((x.hs.map fun y => (y.t, y.h.c)).take x.hs.length) = serZ x := by
            rw [List.take_of_length_le (by simp)]; unfold serZ; rw [if_pos hk]
          rw [e8] at ho
          exact Wc.exit ⟨rfl, c4, LL, k6, rfl, by simp only [go_sem, ti3, ti9, ti4, ti35, ti22, ti23, ti24, ti26, ti32, ti34, ti45, ti48, ti55, ti57, ti69, hlen], by simp only [go_sem, ti3, ti9, ti4, ti35, ti22, ti23, ti24, ti26, ti32, ti34, ti45, ti48, ti55, ti57, ti69, hlen, h1], by simp only [go_sem, ti3, ti9, ti4, ti35, ti22, ti23, ti24, ti26, ti32, ti34, ti45, ti48, ti55, ti57, ti69, hlen, h2], by simp only [go_sem, ti3, ti9, ti4, ti35, ti22, ti23, ti24, ti26, ti32, ti34, ti45, ti48, ti55, ti57, ti69, hlen, h4], by simp only [go_sem, ti3, ti9, ti4, ti35, ti22, ti23, ti24, ti26, ti32, ti34, ti45, ti48, ti55, ti57, ti69, hlen, h5], by simp only [go_sem, ti3, ti9, ti4, ti35, ti22, ti23, ti24, ti26, ti32, ti34, ti45, ti48, ti55, ti57, ti69, hlen, h6], (ho.mono (Nat.le_add_right _ 1)).adv, hpu⟩
      · refine ⟨0, rfl, by omega, rfl, by simp only [go_sem, ti3, ti9, ti4, ti35, ti22, ti23, ti24, ti26, ti32, ti34, ti45, ti48, ti55, ti57, ti69, hlen], by simp only [go_sem, ti3, ti9, ti4, ti35, ti22, ti23, ti24, ti26, ti32, ti34, ti45, ti48, ti55, ti57, ti69, hlen, h1], by simp only [go_sem, ti3, ti9, ti4, ti35, ti22, ti23, ti24, ti26, ti32, ti34, ti45, ti48, ti55, ti57, ti69, hlen, h2], by simp only [go_sem, ti3, ti9, ti4, ti35, ti22, ti23, ti24, ti26, ti32, ti34, ti45, ti48, ti55, ti57, ti69, hlen, h4], by simp only [go_sem, ti3, ti9, ti4, ti35, ti22, ti23, ti24, ti26, ti32, ti34, ti45, ti48, ti55, ti57, ti69, hlen, h5], by simp only [go_sem, ti3, ti9, ti4, ti35, ti22, ti23, ti24, ti26, ti32, ti34, ti45, ti48, ti55, ti57, ti69, hlen, h6], by simp only [go_sem, ti3, ti9, ti4, ti35, ti22, ti23, ti24, ti26, ti32, ti34, ti45, ti48, ti55, ti57, ti69, hlen], by simp only [go_sem, ti3, ti9, ti4, ti35, ti22, ti23, ti24, ti26, ti32, ti34, ti45, ti48, ti55, ti57, ti69, hlen], by simp only [go_sem, ti3, ti9, ti4, ti35, ti22, ti23, ti24, ti26, ti32, ti34, ti45, ti48, ti55, ti57, ti69, hlen]; rfl, ?_⟩
        exact (ho.mono (Nat.le_add_right _ 4)).adv
    · have hk : ¬ x.k = 3 := by simpa using hc
      obtain ⟨_, vl, vy⟩ := serOK_s hok hk
      have okp : ∀ p ∈ x.sm, isT p.1 = true ∧ isVl p.2 = true := vy
      refine Wc.seqA (fun y => ∃ c4 LL, y.ds = [] ∧ y.e.length = 79 ∧ y.e.getD 1 .junk = .v (.c (.ref 0 0)) ∧ y.e.getD 2 .junk = .v (.c (.ref 1 0)) ∧ y.e.getD 4 .junk = .v (.c c4) ∧ y.e.getD 5 .junk = P' (.bool (colsOK (serCs x)).isSome) ∧ y.e.getD 6 .junk = .v (.c (.ref k6 0)) ∧ OA y.s.nx y.s LL [(k6, .cells (Zo.none.pd.map .p) false), (1, .cells [.p (pI 0), .nils, .p (pI 0), .p (pI 0), .p (pI 0), .p (pI 0), .p (pI 0), .p (.int .u32 0), .p (.int .u32 0), .p (.int .u32 0), .p (.int .u32 0), .p (.int .u32 0), .p (.int .u32 0), .p (.int .u32 0), .p (.int .u32 0), .p (.str [])] false), (0, .cells (x.pd.map .p) false)] ∧ (∀ ss, colsOK (serCs x) = some ss → ∀ s', purVs s' [.c c4] = some ([.c (.p (.lst ss.length (ss.map .str)))], s'))) ?_ ?_
      · have e7 : serCs x = smpCs x.sm := by unfold serCs; rw [if_neg hk]
        refine Wc.regT fun K hK => ?_
        simp only [go_sem, ti3, ti9, ti4, ti35, ti22, ti23, ti24, ti26, ti32, ti34, ti45, ti48, ti55, ti57, ti69, hlen, h1, h2, h6, g0, o24, x24, o25, x25]
        refine wpCall.pf pf25 (by kernel_rfl) (by kernel_rfl) rfl rfl ?_
        simp only [go_sem, ti3, ti9, ti4, ti35, ti22, ti23, ti24, ti26, ti32, ti34, ti45, ti48, ti55, ti57, ti69, hlen, h1, h2, h6, g0, o24, x24, o25, x25]
        refine call24 (L := []) (M := [(k6, .cells (Zo.none.pd.map .p) false), (1, .cells [.p (pI 0), .nils, .p (pI 0), .p (pI 0), .p (pI 0), .p (pI 0), .p (pI 0), .p (.int .u32 0), .p (.int .u32 0), .p (.int .u32 0), .p (.int .u32 0), .p (.int .u32 0), .p (.int .u32 0), .p (.int .u32 0), .p (.int .u32 0), .p (.str [])] false), (0, .cells (x.pd.map .p) false)]) (l := x.sm) (cols := smpCols) ?_ (by omega) ⟨_, rfl⟩ (by simp only [go_sem, ti3, ti9, ti4, ti35, ti22, ti23, ti24, ti26, ti32, ti34, ti45, ti48, ti55, ti57, ti69]) (fun j hj => ixA ti23 rfl ti45 hj hfls (by decide)) smpCols_ok (by decide) ?_ ?_
        · exact ((ho.adv (n := 3)).adv (n := 9)).mono (by simp only [St.nx_adv]; omega)
        · intro hp s2 ho2 hnx
          rw [packE_smp, ← e7] at hp
          simp only [go_sem, ti3, ti9, ti4, ti35, ti22, ti23, ti24, ti26, ti32, ti34, ti45, ti48, ti55, ti57, ti69, hlen, h1, h2, h6, g0, o24, x24, o25, x25]
          refine ⟨by rfl, hK _ _ ?_⟩
          exact ⟨rfl, .nils, [], rfl, by simp only [go_sem, ti3, ti9, ti4, ti35, ti22, ti23, ti24, ti26, ti32, ti34, ti45, ti48, ti55, ti57, ti69, hlen], by simp only [go_sem, ti3, ti9, ti4, ti35, ti22, ti23, ti24, ti26, ti32, ti34, ti45, ti48, ti55, ti57, ti69, hlen, h1], by simp only [go_sem, ti3, ti9, ti4, ti35, ti22, ti23, ti24, ti26, ti32, ti34, ti45, ti48, ti55, ti57, ti69, hlen, h2], by simp only [go_sem, ti3, ti9, ti4, ti35, ti22, ti23, ti24, ti26, ti32, ti34, ti45, ti48, ti55, ti57, ti69, hlen], by simp only [go_sem, ti3, ti9, ti4, ti35, ti22, ti23, ti24, ti26, ti32, ti34, ti45, ti48, ti55, ti57, ti69, hlen, hp]; rfl, by simp only [go_sem, ti3, ti9, ti4, ti35, ti22, ti23, ti24, ti26, ti32, ti34, ti45, ti48, ti55, ti57, ti69, hlen, h6], ho2, fun ss hss s' => by rw [hp] at hss; cases hss⟩
        · intro ss hp c4 s2 ho2 hnx
          rw [packE_smp, ← e7] at hp
          simp only [go_sem, ti3, ti9, ti4, ti35, ti22, ti23, ti24, ti26, ti32, ti34, ti45, ti48, ti55, ti57, ti69, hlen, h1, h2, h6, g0, o24, x24, o25, x25]
          refine ⟨by rfl, hK _ _ ?_⟩
          exact ⟨rfl, c4, _, rfl, by simp only [go_sem, ti3, ti9, ti4, ti35, ti22, ti23, ti24, ti26, ti32, ti34, ti45, ti48, ti55, ti57, ti69, hlen], by simp only [go_sem, ti3, ti9, ti4, ti35, ti22, ti23, ti24, ti26, ti32, ti34, ti45, ti48, ti55, ti57, ti69, hlen, h1], by simp only [go_sem, ti3, ti9, ti4, ti35, ti22, ti23, ti24, ti26, ti32, ti34, ti45, ti48, ti55, ti57, ti69, hlen, h2], by simp only [go_sem, ti3, ti9, ti4, ti35, ti22, ti23, ti24, ti26, ti32, ti34, ti45, ti48, ti55, ti57, ti69, hlen], by simp only [go_sem, ti3, ti9, ti4, ti35, ti22, ti23, ti24, ti26, ti32, ti34, ti45, ti48, ti55, ti57, ti69, hlen, hp]; rfl, by simp only [go_sem, ti3, ti9, ti4, ti35, ti22, ti23, ti24, ti26, ti32, ti34, ti45, ti48, ti55, ti57, ti69, hlen, h6], ho2, fun tt hss s' => by rw [hp] at hss; cases hss; exact (ho2.own (1, .v (.c c4), ss.length, ss.map .str) (List.mem_cons_self ..)).vs1 s'⟩
      clear hlen h1 h2 h6 ho g0 e s1
      rintro ⟨e, ds, s1⟩ ⟨c4, LL, rfl, hlen, h1, h2, h4, h5, h6, ho, hpu⟩
      simp only at hlen h1 h2 h4 h5 h6 ho
      have g0 := ho.at_ (0, .cells (x.pd.map .p) false) (by simp)
      simp only [List.map_cons, List.map_nil] at g0
      refine Wc.seq ?_
      refine Wc.reg fun K hK => ?_; simp only [go_sem, ti3, ti9, ti4, ti35, ti22, ti23, ti24, ti26, ti32, ti34, ti45, ti48, ti55, ti57, ti69, hlen, h1, h2, h4, h5, h6, g0, Int.natCast_zero]; refine hK _ _ ?_; clear hK K
      refine Wc.block (Wc.loop (fun k y => ∃ i : Nat, k = x.sm.length - i ∧ i ≤ x.sm.length ∧ y.ds = [] ∧ y.e.length = 79 ∧ y.e.getD 1 .junk = .v (.c (.ref 0 0)) ∧ y.e.getD 2 .junk = .v (.c (.ref 1 0)) ∧ y.e.getD 4 .junk = .v (.c c4) ∧ y.e.getD 5 .junk = P' (.bool (colsOK (serCs x)).isSome) ∧ y.e.getD 6 .junk = .v (.c (.ref k6 0)) ∧ y.e.getD 49 .junk = P' (.lst x.sm.length (x.sm.flatMap p2)) ∧ y.e.getD 50 .junk = P' (pI x.sm.length) ∧ y.e.getD 51 .junk = P' (pI i) ∧ OA y.s.nx y.s LL [(k6, .cells ((zfold (x.sm.take i)).pd.map .p) false), (1, .cells [.p (pI 0), .nils, .p (pI 0), .p (pI 0), .p (pI 0), .p (pI 0), .p (pI 0), .p (.int .u32 0), .p (.int .u32 0), .p (.int .u32 0), .p (.int .u32 0), .p (.int .u32 0), .p (.int .u32 0), .p (.int .u32 0), .p (.int .u32 0), .p (.str [])] false), (0, .cells (x.pd.map .p) false)]) ?_ (k := x.sm.length) ?_)
      · clear hlen h1 h2 h4 h5 h6 ho g0 e s1
        rintro k ⟨e, ds, s1⟩ ⟨i, rfl, hi, rfl, hlen, h1, h2, h4, h5, h6, hL, hN, hI, ho⟩
        simp only at hlen h1 h2 h4 h5 h6 hL hN hI ho
        refine Wc.seq ?_
        refine Wc.reg fun K hK => ?_; simp only [go_sem, ti3, ti9, ti4, ti35, ti22, ti23, ti24, ti26, ti32, ti34, ti45, ti48, ti55, ti57, ti69, hlen, h1, h2, h4, h5, h6, hL, hN, hI]; refine hK _ _ ?_; clear hK K
        refine Wc.seq (Wc.cond (t := decide ((i : Int) < x.sm.length)) (by simp only [go_sem, ti3, ti9, ti4, ti35, ti22, ti23, ti24, ti26, ti32, ti34, ti45, ti48, ti55, ti57, ti69, hlen]) (fun hc => ?_) (fun hc => ?_))
        · have hil : i < x.sm.length := by have : (i : Int) < x.sm.length := (by simpa using hc); omega
          obtain ⟨u, hu⟩ : ∃ u, x.sm[i]? = some u := ⟨x.sm[i], List.getElem?_eq_getElem hil⟩
          have hum := List.mem_of_getElem? hu
          have hix := ixA ti23 rfl ti45 (j := i) (m := x.sm.length) (cs := x.sm.flatMap p2) hil hfls (by decide)
          have hca := rpA (off := i * 2) (drop_flat (f := p2) (k := 2) (fun _ => rfl) hu) (by rw [hfls]; omega)
          have hpu2 : x.sm[i]? = some (u.1, u.2) := by simp [hu]
          have hzs : zfold (x.sm.take (i + 1)) = (zfold (x.sm.take i)).add u.1 u.2 := by rw [take_snoc hpu2, zfold_snoc]
          have hzok := zfold_ok i (x.sm.take i) (by simp; omega) (by omega) fun p hp => okp p (List.mem_of_mem_take hp)
          have htv := okp (u.1, u.2) (List.mem_of_getElem? hpu2)
          have padd := (pfAdd (z := zfold (x.sm.take i)) hzok.1 (by rw [hzok.2]; omega) htv.1 htv.2).1
          rw [← hzs] at padd
          refine Wc.skip (Wc.seq (Wc.block (Wc.seqA (fun y => ∃ kx, y.ds = [] ∧ y.e.length = 79 ∧ y.e.getD 1 .junk = .v (.c (.ref 0 0)) ∧ y.e.getD 2 .junk = .v (.c (.ref 1 0)) ∧ y.e.getD 4 .junk = .v (.c c4) ∧ y.e.getD 5 .junk = P' (.bool (colsOK (serCs x)).isSome) ∧ y.e.getD 6 .junk = .v (.c (.ref k6 0)) ∧ y.e.getD 49 .junk = P' (.lst x.sm.length (x.sm.flatMap p2)) ∧ y.e.getD 50 .junk = P' (pI x.sm.length) ∧ y.e.getD 51 .junk = P' (pI i) ∧ y.e.getD 10 .junk = .v (.c (.ref kx 0)) ∧ OA y.s.nx y.s LL [(kx, .cells ((p2 u).map .p) false), (k6, .cells ((zfold (x.sm.take i)).pd.map .p) false), (1, .cells [.p (pI 0), .nils, .p (pI 0), .p (pI 0), .p (pI 0), .p (pI 0), .p (pI 0), .p (.int .u32 0), .p (.int .u32 0), .p (.int .u32 0), .p (.int .u32 0), .p (.int .u32 0), .p (.int .u32 0), .p (.int .u32 0), .p (.int .u32 0), .p (.str [])] false), (0, .cells (x.pd.map .p) false)]) ?_ ?_)))
          · refine Wc.reg fun K hK => ?_; simp only [go_sem, ti3, ti9, ti4, ti35, ti22, ti23, ti24, ti26, ti32, ti34, ti45, ti48, ti55, ti57, ti69, hlen, h1, h2, h4, h5, h6, hL, hN, hI, hix, hca]; refine hK _ _ ?_; clear hK K
            refine ⟨rfl, s1.nx + 3, rfl, by simp only [go_sem, ti3, ti9, ti4, ti35, ti22, ti23, ti24, ti26, ti32, ti34, ti45, ti48, ti55, ti57, ti69, hlen], by simp only [go_sem, ti3, ti9, ti4, ti35, ti22, ti23, ti24, ti26, ti32, ti34, ti45, ti48, ti55, ti57, ti69, hlen, h1], by simp only [go_sem, ti3, ti9, ti4, ti35, ti22, ti23, ti24, ti26, ti32, ti34, ti45, ti48, ti55, ti57, ti69, hlen, h2], by simp only [go_sem, ti3, ti9, ti4, ti35, ti22, ti23, ti24, ti26, ti32, ti34, ti45, ti48, ti55, ti57, ti69, hlen, h4], by simp only [go_sem, ti3, ti9, ti4, ti35, ti22, ti23, ti24, ti26, ti32, ti34, ti45, ti48, ti55, ti57, ti69, hlen, h5], by simp only [go_sem, ti3, ti9, ti4, ti35, ti22, ti23, ti24, ti26, ti32, ti34, ti45, ti48, ti55, ti57, ti69, hlen, h6], by simp only [go_sem, ti3, ti9, ti4, ti35, ti22, ti23, ti24, ti26, ti32, ti34, ti45, ti48, ti55, ti57, ti69, hlen, hL], by simp only [go_sem, ti3, ti9, ti4, ti35, ti22, ti23, ti24, ti26, ti32, ti34, ti45, ti48, ti55, ti57, ti69, hlen, hN], by simp only [go_sem, ti3, ti9, ti4, ti35, ti22, ti23, ti24, ti26, ti32, ti34, ti45, ti48, ti55, ti57, ti69, hlen, hI], by simp only [go_sem, ti3, ti9, ti4, ti35, ti22, ti23, ti24, ti26, ti32, ti34, ti45, ti48, ti55, ti57, ti69, hlen], ?_⟩
            have q1 := OA.set (M1 := []) (o' := .cells ((p2 u).map .p) false) (((ho.adv (n := 1)).adv (n := 4)).new (k := s1.nx + 3) (o := .cells [.p (.int .i64 0), .p (.int .i64 0)] false) (by omega) rfl) rfl
            exact q1.mono (by simp only [St.nx_put, St.nx_adv]; omega)
          clear hlen h1 h2 h4 h5 h6 hL hN hI ho e s1 hc
          rintro ⟨e, ds, s1⟩ ⟨kx, rfl, hlen, h1, h2, h4, h5, h6, hL, hN, hI, hO, ho⟩
          simp only at hlen h1 h2 h4 h5 h6 hL hN hI hO ho
          generalize hZ : zfold (x.sm.take i) = Z at *
          generalize hZ1 : zfold (x.sm.take (i + 1)) = Z1 at *
          have gx := ho.at_ (kx, .cells ((p2 u).map .p) false) (by simp)
          have g6 := ho.at_ (k6, .cells (Z.pd.map .p) false) (by simp)
          simp only [List.map_cons, List.map_nil] at gx g6
          refine Wc.reg fun K hK => ?_; simp only [go_sem, ti3, ti9, ti4, ti35, ti22, ti23, ti24, ti26, ti32, ti34, ti45, ti48, ti55, ti57, ti69, hlen, h1, h2, h4, h5, h6, hL, hN, hI, hO, gx, g6]
          refine wpCall.pf padd (by kernel_rfl) (by kernel_rfl) rfl rfl ?_
          simp only [go_sem, ti3, ti9, ti4, ti35, ti22, ti23, ti24, ti26, ti32, ti34, ti45, ti48, ti55, ti57, ti69, hlen, h1, h2, h4, h5, h6, hL, hN, hI, hO, gx, g6]; refine hK _ _ ?_; clear hK K
          refine Wc.reg fun K hK => ?_; simp only [go_sem, ti3, ti9, ti4, ti35, ti22, ti23, ti24, ti26, ti32, ti34, ti45, ti48, ti55, ti57, ti69, hlen, h1, h2, h4, h5, h6, hL, hN, hI, hO, i64n i (by omega)]; refine hK _ _ ?_; clear hK K
          refine ⟨x.sm.length - (i + 1), by omega, i + 1, rfl, by omega, rfl, by simp only [go_sem, ti3, ti9, ti4, ti35, ti22, ti23, ti24, ti26, ti32, ti34, ti45, ti48, ti55, ti57, ti69, hlen], by simp only [go_sem, ti3, ti9, ti4, ti35, ti22, ti23, ti24, ti26, ti32, ti34, ti45, ti48, ti55, ti57, ti69, hlen, h1], by simp only [go_sem, ti3, ti9, ti4, ti35, ti22, ti23, ti24, ti26, ti32, ti34, ti45, ti48, ti55, ti57, ti69, hlen, h2], by simp only [go_sem, ti3, ti9, ti4, ti35, ti22, ti23, ti24, ti26, ti32, ti34, ti45, ti48, ti55, ti57, ti69, hlen, h4], by simp only [go_sem, ti3, ti9, ti4, ti35, ti22, ti23, ti24, ti26, ti32, ti34, ti45, ti48, ti55, ti57, ti69, hlen, h5], by simp only [go_sem, ti3, ti9, ti4, ti35, ti22, ti23, ti24, ti26, ti32, ti34, ti45, ti48, ti55, ti57, ti69, hlen, h6], by simp only [go_sem, ti3, ti9, ti4, ti35, ti22, ti23, ti24, ti26, ti32, ti34, ti45, ti48, ti55, ti57, ti69, hlen, hL], by simp only [go_sem, ti3, ti9, ti4, ti35, ti22, ti23, ti24, ti26, ti32, ti34, ti45, ti48, ti55, ti57, ti69, hlen, hN], by simp only [go_sem, ti3, ti9, ti4, ti35, ti22, ti23, ti24, ti26, ti32, ti34, ti45, ti48, ti55, ti57, ti69, hlen], ?_⟩
          rw [hZ1]
          have q1 := OA.set (M1 := [(kx, .cells ((p2 u).map .p) false)]) (o' := .cells (Z1.pd.map .p) false) (ho.adv (n := 7)) rfl
          exact ((q1.sub (List.Sublist.refl _) (List.sublist_cons_self _ _)).adv (n := 2)).mono (by simp only [St.nx_put, St.nx_adv]; omega)
        · have hil : i = x.sm.length := by have : ¬ (i : Int) < x.sm.length := (by simpa using hc); omega
          subst hil
          have e8 : zfold (x.sm.take x.sm.length) = serZ x := by
            rw [List.take_of_length_le (by simp)]; unfold serZ; rw [if_neg hk]
          rw [e8] at ho
          exact Wc.exit ⟨rfl, c4, LL, k6, rfl, by simp only [go_sem, ti3, ti9, ti4, ti35, ti22, ti23, ti24, ti26, ti32, ti34, ti45, ti48, ti55, ti57, ti69, hlen], by simp only [go_sem, ti3, ti9, ti4, ti35, ti22, ti23, ti24, ti26, ti32, ti34, ti45, ti48, ti55, ti57, ti69, hlen, h1], by simp only [go_sem, ti3, ti9, ti4, ti35, ti22, ti23, ti24, ti26, ti32, ti34, ti45, ti48, ti55, ti57, ti69, hlen, h2], by simp only [go_sem, ti3, ti9, ti4, ti35, ti22, ti23, ti24, ti26, ti32, ti34, ti45, ti48, ti55, ti57, ti69, hlen, h4], by simp only [go_sem, ti3, ti9, ti4, ti35, ti22, ti23, ti24, ti26, ti32, ti34, ti45, ti48, ti55, ti57, ti69, hlen, h5], by simp only [go_sem, ti3, ti9, ti4, ti35, ti22, ti23, ti24, ti26, ti32, ti34, ti45, ti48, ti55, ti57, ti69, hlen, h6], (ho.mono (Nat.le_add_right _ 1)).adv, hpu⟩
      · refine ⟨0, rfl, by omega, rfl, by simp only [go_sem, ti3, ti9, ti4, ti35, ti22, ti23, ti24, ti26, ti32, ti34, ti45, ti48, ti55, ti57, ti69, hlen], by simp only [go_sem, ti3, ti9, ti4, ti35, ti22, ti23, ti24, ti26, ti32, ti34, ti45, ti48, ti55, ti57, ti69, hlen, h1], by simp only [go_sem, ti3, ti9, ti4, ti35, ti22, ti23, ti24, ti26, ti32, ti34, ti45, ti48, ti55, ti57, ti69, hlen, h2], by simp only [go_sem, ti3, ti9, ti4, ti35, ti22, ti23, ti24, ti26, ti32, ti34, ti45, ti48, ti55, ti57, ti69, hlen, h4], by simp only [go_sem, ti3, ti9, ti4, ti35, ti22, ti23, ti24, ti26, ti32, ti34, ti45, ti48, ti55, ti57, ti69, hlen, h5], by simp only [go_sem, ti3, ti9, ti4, ti35, ti22, ti23, ti24, ti26, ti32, ti34, ti45, ti48, ti55, ti57, ti69, hlen, h6], by simp only [go_sem, ti3, ti9, ti4, ti35, ti22, ti23, ti24, ti26, ti32, ti34, ti45, ti48, ti55, ti57, ti69, hlen], by simp only [go_sem, ti3, ti9, ti4, ti35, ti22, ti23, ti24, ti26, ti32, ti34, ti45, ti48, ti55, ti57, ti69, hlen], by simp only [go_sem, ti3, ti9, ti4, ti35, ti22, ti23, ti24, ti26, ti32, ti34, ti45, ti48, ti55, ti57, ti69, hlen]; rfl, ?_⟩
        exact (ho.mono (Nat.le_add_right _ 4)).adv
  rintro ⟨e, ds, s1⟩ ⟨c4, L, k6, rfl, hlen, h1, h2, h4, h5, h6, ho, hpu⟩
  simp only at hlen h1 h2 h4 h5 h6 ho
  have g0 := ho.at_ (0, .cells (x.pd.map .p) false) (by simp)
  have g1 := ho.at_ (1, .cells [.p (pI 0), .nils, .p (pI 0), .p (pI 0), .p (pI 0), .p (pI 0), .p (pI 0), .p (.int .u32 0), .p (.int .u32 0), .p (.int .u32 0), .p (.int .u32 0), .p (.int .u32 0), .p (.int .u32 0), .p (.int .u32 0), .p (.int .u32 0), .p (.str [])] false) (by simp)
  have g6 := ho.at_ (k6, .cells ((serZ x).pd.map .p) false) (by simp)
  simp only [List.map_cons, List.map_nil] at g0 g1 g6
  refine Wc.seq (Wc.seq ?_)
  refine Wc.reg fun K hK => ?_; simp only [go_sem, ti3, ti9, ti4, ti35, ti22, ti23, ti24, ti26, ti32, ti34, ti45, ti48, ti55, ti57, ti69, hlen, h1, h2, h4, h5, h6]; refine hK _ _ ?_; clear hK K
  cases hco : colsOK (serCs x) with
  | none =>
    rw [hco] at h5
    have e9 : encC 1 (.lst x.lb.length (x.lb.flatMap lbP)) (serZ x).pd (appV [] x.k).1 (serCs x) = .tup [noCh, .c (.p (pI 4))] := by unfold encC; rw [hco]
    rw [e9]
    refine Wc.cond (t := true) (by simp only [go_sem, ti3, ti9, ti4, ti35, ti22, ti23, ti24, ti26, ti32, ti34, ti45, ti48, ti55, ti57, ti69, hlen, h5, Option.isSome]) (fun _ => ?_) (fun hc => by cases hc)
    refine Wc.seq ?_
    refine Wc.reg fun K hK => ?_; simp only [go_sem, ti3, ti9, ti4, ti35, ti22, ti23, ti24, ti26, ti32, ti34, ti45, ti48, ti55, ti57, ti69, hlen, h1, h2, g1]; refine hK _ _ ?_; clear hK K
    exact Wc.ret (Pf.ret [.cell 2 34, .tmp 3] [.agg ([.p (pI 0), .nils] ++ zz0.map .p ++ [.p (.str [])]), .c (.p (pI 4))] rfl rfl (by simp only [resultsD, go_sem, ti3, ti9, ti4, ti35, ti22, ti23, ti24, ti26, ti32, ti34, ti45, ti48, ti55, ti57, ti69, hlen, h2]) rfl)
  | some ss =>
    rw [hco] at h5
    have e9 : encC 1 (.lst x.lb.length (x.lb.flatMap lbP)) (serZ x).pd (appV [] x.k).1 (serCs x) = finE 1 (.lst x.lb.length (x.lb.flatMap lbP)) (serZ x).pd (jn (appV [] x.k).1 ss) := by unfold encC; rw [hco]
    rw [e9]
    have hsl : ss.length < 2^40 := by
      unfold colsOK at hco
      split at hco
      · cases hco
        simp only [List.length_map]
        unfold serCs
        split <;> simp [hstCs, smpCs]
      · cases hco
    have a10 : (appV [] x.k).1.length ≤ 262144 := by
      unfold appV
      split
      · simp
      · have := vb_len10 (n := x.k.toNat) (by omega)
        show ([] ++ vb x.k.toNat).length ≤ 262144
        rw [List.nil_append]; omega
    refine Wc.cond (t := false) (by simp only [go_sem, ti3, ti9, ti4, ti35, ti22, ti23, ti24, ti26, ti32, ti34, ti45, ti48, ti55, ti57, ti69, hlen, h5, Option.isSome]) (fun hc => by cases hc) (fun _ => Wc.skip ?_)
    refine Wc.seq ?_
    refine Wc.reg fun K hK => ?_; simp only [go_sem, ti3, ti9, ti4, ti35, ti22, ti23, ti24, ti26, ti32, ti34, ti45, ti48, ti55, ti57, ti69, hlen, h1, h2, h4, h6, g0]
    refine wpCall.pf (pf26 [] x.k (by simp)) (by kernel_rfl) (by kernel_rfl) rfl rfl ?_
    simp only [go_sem, ti3, ti9, ti4, ti35, ti22, ti23, ti24, ti26, ti32, ti34, ti45, ti48, ti55, ti57, ti69, hlen, h1, h2, h4, h6, g0]; refine hK _ _ ?_; clear hK K
    refine Wc.seq ?_
    refine Wc.reg fun K hK => ?_; simp only [go_sem, ti3, ti9, ti4, ti35, ti22, ti23, ti24, ti26, ti32, ti34, ti45, ti48, ti55, ti57, ti69, hlen, h1, h2, h4, h6, g0, g6]
    refine wpCall.pf (pf27 1 _ _ _ _ _ _ _ _ _ _ _ _ _ _ _ _ ss a10 (jn_pre hco (serCs_len hok)) hsl) (by kernel_rfl) (by kernel_rfl) rfl (purVs_last (hpu ss hco) [.c (.p (pI 1)), .c (.p (.lst x.lb.length (x.lb.flatMap lbP))), .agg ((serZ x).pd.map .p), .c (.p (.str (appV [] x.k).1))] (by
      intro v hv s
      simp only [List.mem_cons, List.not_mem_nil, or_false] at hv
      rcases hv with rfl | rfl | rfl | rfl <;> rfl) _) ?_
    cases hj : jn (appV [] x.k).1 ss with
    | none =>
      simp only [go_sem, ti3, ti9, ti4, ti35, ti22, ti23, ti24, ti26, ti32, ti34, ti45, ti48, ti55, ti57, ti69, hlen, h1, h2, h4, h6, g0, g1, finE]; refine hK _ _ ?_; clear hK K
      rw [hj]
      exact Wc.ret (Pf.ret [.cell 2 34, .tmp 3] [noCh, .c (.p (pI 4))] rfl rfl (by simp only [resultsD, go_sem, ti3, ti9, ti4, ti35, ti22, ti23, ti24, ti26, ti32, ti34, ti45, ti48, ti55, ti57, ti69, hlen, h2]; rfl) rfl)
    | some d =>
      simp only [go_sem, ti3, ti9, ti4, ti35, ti22, ti23, ti24, ti26, ti32, ti34, ti45, ti48, ti55, ti57, ti69, hlen, h1, h2, h4, h6, g0, g1, finE]; refine hK _ _ ?_; clear hK K
      rw [hj]
      exact Wc.ret (Pf.ret [.cell 2 34, .tmp 3] [chV 1 (.lst x.lb.length (x.lb.flatMap lbP)) (serZ x).pd d, .c (.p (pI 0))] rfl rfl (by simp only [resultsD, go_sem, ti3, ti9, ti4, ti35, ti22, ti23, ti24, ti26, ti32, ti34, ti45, ti48, ti55, ti57, ti69, hlen, h2]; rfl) rfl)
end Go.Proofs.YtafaoldmemcigaaGreat.Ab
