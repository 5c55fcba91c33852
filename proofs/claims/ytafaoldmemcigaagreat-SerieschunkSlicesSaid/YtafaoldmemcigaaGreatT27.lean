/- A part of the proof: an evaluator of the code, its contracts, the law. No condition. -/
import Derived.Test.YtafaoldmemcigaaGreatT24
import Derived.Test.YtafaoldmemcigaaGreatT26
namespace Go.Proofs.YtafaoldmemcigaaGreat.Ab
set_option maxHeartbeats 4000000
set_option linter.unusedSimpArgs false
set_option linter.unusedVariables false
/-- A column that is read: its form, its setter. -/
abbrev ColR (A : Type) := Int × (A → Int → A)
def unpkG {A : Type} : List (ColR A) → List (List UInt8) → List A → Option (List A)
  | c :: cs, s :: ss, l => if (decF c.1 s).2 ≠ 0 ∨ (decF c.1 s).1.length ≠ l.length then none else unpkG cs ss (List.zipWith c.2 l (decF c.1 s).1)
  | _, _, l => some l
def unpk {A : Type} (z : A) : List (ColR A) → List (List UInt8) → Option (List A)
  | c :: cs, s :: ss => if (decF c.1 s).2 ≠ 0 then none else unpkG cs ss ((decF c.1 s).1.map (c.2 z))
  | _, _ => some []
def smpR : List (ColR I2) := [(0, fun x n => (n, x.2)), (1, fun x n => (x.1, n))]
def bckR : List (ColR I2) := [(1, fun x n => (n, x.2)), (1, fun x n => (x.1, n))]
def hstR : List (ColR HSm) := [(0, fun x n => { x with t := n }), (1, fun x n => { x with h := { x.h with p := n } }), (1, fun x n => { x with h := { x.h with c := n } }), (1, fun x n => { x with h := { x.h with mn := n } }), (1, fun x n => { x with h := { x.h with mx := n } })]
def zHS : HSm := ⟨0, ⟨0, 0, 0, 0, 0, []⟩⟩
/-- Each histogram gets its sum and its buckets. -/
def distH : List HSm → List Int → List Int → List I2 → Option (List HSm)
  | x :: l, n :: ns, s :: ss, bs => if n < 0 ∨ (bs.length : Int) < n then none else (distH l ns ss (bs.drop n.toNat)).map ({ x with h := { x.h with s := s, bs := bs.take n.toNat } } :: ·)
  | _, _, _, bs => if bs = [] then some [] else none
def unpH : List (List UInt8) → Option (List HSm)
  | [c0, c1, c2, c3, c4, c5, c6, c7, c8] => match unpk zHS hstR [c0, c1, c2, c3, c4] with
    | none => none
    | some l => if (decV c5).2 ≠ 0 ∨ (decV c5).1.length ≠ l.length then none else match unpk (0, 0) bckR [c6, c7] with
      | none => none
      | some bs => if (decI c8).2 ≠ 0 ∨ (decI c8).1.length ≠ l.length then none else distH l (decV c5).1 (decI c8).1 bs
  | _ => none
/-- The series in data, valid or not. -/
def parseS (lb : List Lb) (d : List UInt8) : Option Ser :=
  if (rdV d).2.2 ≠ 0 ∨ 262144 < d.length then none else
  if (rdV d).1 = 3 then (match splitN 9 (d.drop (rdV d).2.1) with
    | none => none
    | some ss => (unpH ss).map fun l => ⟨lb, (rdV d).1, [], l⟩)
  else match splitN 2 (d.drop (rdV d).2.1) with
    | none => none
    | some ss => (unpk (0, 0) smpR ss).map fun l => ⟨lb, (rdV d).1, l, []⟩
/-- The data of Encode. -/
def encO (x : Ser) : Option (List UInt8) := if serOK x = false then none else match colsOK (serCs x) with
  | none => none
  | some ss => jn (appV [] x.k).1 ss
theorem encS_some {x : Ser} {d : List UInt8} (h : encO x = some d) : encS x = .tup [chV 1 (.lst x.lb.length (x.lb.flatMap lbP)) (serZ x).pd d, .c (.p (pI 0))] := by
  unfold encO at h
  unfold encS encC
  split at h
  · cases h
  · rename_i hs
    rw [if_neg hs]
    split at h
    · cases h
    · rename_i ss hss
      rw [hss]
      simp only [h, finE]
theorem encS_none {x : Ser} (h : encO x = none) : ∃ e, e ≠ 0 ∧ encS x = .tup [noCh, .c (.p (pI e))] := by
  unfold encO at h
  unfold encS encC
  split at h
  · rename_i hs; rw [if_pos hs]; exact ⟨1, by decide, rfl⟩
  · rename_i hs
    rw [if_neg hs]
    split at h
    · rename_i hss; rw [hss]; exact ⟨4, by decide, rfl⟩
    · rename_i ss hss
      rw [hss]
      simp only [h, finE]
      exact ⟨4, by decide, rfl⟩
instance : DecidableEq Zo := fun ⟨a, b, c, d, e⟩ ⟨a', b', c', d', e'⟩ => decidable_of_iff (a = a' ∧ b = b' ∧ c = c' ∧ d = d' ∧ e = e') (by simp)
/-- The series of a chunk. -/
def decR (lb : List Lb) (z : Zo) (d : List UInt8) : Option Ser := match parseS lb d with
  | none => none
  | some x => if encO x = some d ∧ serZ x = z then some x else none
theorem zipWith_mm {A B : Type} (f : B → Int → B) (g : A → B) (h : A → Int) : ∀ l : List A, List.zipWith f (l.map g) (l.map h) = l.map fun a => f (g a) (h a)
  | [] => rfl
  | a :: r => by simp [zipWith_mm f g h r]
theorem unpkG_enc {A : Type} (l : List A) : ∀ (cs : List (ColR A × (A → Int))) (g : A → A), (∀ c ∈ cs, (encF c.1.1 (l.map c.2)).2 = 0) →
    unpkG (cs.map (·.1)) (cs.map fun c => (encF c.1.1 (l.map c.2)).1) (l.map g) = some (l.map (cs.foldl (fun g c => fun a => c.1.2 (g a) (c.2 a)) g))
  | [], g, _ => rfl
  | c :: r, g, h => by
    simp only [List.map_cons, unpkG, decF_enc (h c (by simp)), List.length_map]
    rw [if_neg (by simp), zipWith_mm, unpkG_enc l r _ fun x hx => h x (by simp [hx])]
    rfl
theorem unpk_enc {A : Type} (z : A) (l : List A) (c : ColR A × (A → Int)) (cs : List (ColR A × (A → Int))) (h : ∀ x ∈ c :: cs, (encF x.1.1 (l.map x.2)).2 = 0) :
    unpk z ((c :: cs).map (·.1)) ((c :: cs).map fun c => (encF c.1.1 (l.map c.2)).1) = some (l.map ((c :: cs).foldl (fun g c => fun a => c.1.2 (g a) (c.2 a)) fun _ => z)) := by
  simp only [List.map_cons, unpk, decF_enc (h c (by simp)), List.map_map]
  rw [if_neg (by simp)]
  exact unpkG_enc l cs _ fun x hx => h x (by simp [hx])
theorem colsOK_some {cs : List (List UInt8 × Int)} {ss : List (List UInt8)} (h : colsOK cs = some ss) : ss = cs.map (·.1) ∧ ∀ c ∈ cs, c.2 = 0 := by
  unfold colsOK at h
  split at h
  · rename_i hc
    cases h
    refine ⟨rfl, fun c hm => ?_⟩
    have := List.all_eq_true.1 hc c hm
    simpa using this
  · cases h
theorem encF0 (l : List Int) : encF 0 l = encT l := rfl
theorem encF1 (l : List Int) : encF 1 l = encV l := by unfold encF; rw [if_neg (by decide), if_pos rfl]
theorem unpk_smp {l : List I2} {ss : List (List UInt8)} (h : colsOK (smpCs l) = some ss) : unpk (0, 0) smpR ss = some l := by
  obtain ⟨rfl, hz⟩ := colsOK_some h
  have := unpk_enc ((0, 0) : I2) l ((0, fun x n => (n, x.2)), (·.1)) [((1, fun x n => (x.1, n)), (·.2))] (by
    intro c hc
    simp only [List.mem_cons, List.not_mem_nil, or_false] at hc
    rcases hc with rfl | rfl
    · rw [encF0]; exact hz _ (by simp [smpCs])
    · rw [encF1]; exact hz _ (by simp [smpCs]))
  simp only [List.map_cons, List.map_nil, encF0, encF1, List.foldl_cons, List.foldl_nil, List.map_id'] at this
  exact this
theorem unpk_bck {l : List I2} (h1 : (encV (l.map (·.1))).2 = 0) (h2 : (encV (l.map (·.2))).2 = 0) : unpk (0, 0) bckR [(encV (l.map (·.1))).1, (encV (l.map (·.2))).1] = some l := by
  have := unpk_enc ((0, 0) : I2) l ((1, fun x n => (n, x.2)), (·.1)) [((1, fun x n => (x.1, n)), (·.2))] (by
    intro c hc
    simp only [List.mem_cons, List.not_mem_nil, or_false] at hc
    rcases hc with rfl | rfl
    · rw [encF1]; exact h1
    · rw [encF1]; exact h2)
  simp only [List.map_cons, List.map_nil, encF1, List.foldl_cons, List.foldl_nil, List.map_id'] at this
  exact this
/-- A histogram without its sum and its buckets. -/
def bareH (x : HSm) : HSm := ⟨x.t, ⟨x.h.p, x.h.c, 0, x.h.mn, x.h.mx, []⟩⟩
theorem unpk_hst {l : List HSm} (h1 : (encT (l.map (·.t))).2 = 0) (h2 : (encV (l.map (·.h.p))).2 = 0) (h3 : (encV (l.map (·.h.c))).2 = 0) (h4 : (encV (l.map (·.h.mn))).2 = 0) (h5 : (encV (l.map (·.h.mx))).2 = 0) :
    unpk zHS hstR [(encT (l.map (·.t))).1, (encV (l.map (·.h.p))).1, (encV (l.map (·.h.c))).1, (encV (l.map (·.h.mn))).1, (encV (l.map (·.h.mx))).1] = some (l.map bareH) := by
  have := unpk_enc zHS l ((0, fun x n => { x with t := n }), (·.t)) [((1, fun x n => { x with h := { x.h with p := n } }), (·.h.p)), ((1, fun x n => { x with h := { x.h with c := n } }), (·.h.c)), ((1, fun x n => { x with h := { x.h with mn := n } }), (·.h.mn)), ((1, fun x n => { x with h := { x.h with mx := n } }), (·.h.mx))] (by
    intro c hc
    simp only [List.mem_cons, List.not_mem_nil, or_false] at hc
    rcases hc with rfl | rfl | rfl | rfl | rfl
    · rw [encF0]; exact h1
    · rw [encF1]; exact h2
    · rw [encF1]; exact h3
    · rw [encF1]; exact h4
    · rw [encF1]; exact h5)
  simp only [List.map_cons, List.map_nil, encF0, encF1, List.foldl_cons, List.foldl_nil] at this
  exact this
theorem distH_flat : ∀ l : List HSm, distH (l.map bareH) (l.map fun x => (x.h.bs.length : Int)) (l.map (·.h.s)) (l.flatMap (·.h.bs)) = some l
  | [] => rfl
  | x :: r => by
    simp only [List.map_cons, List.flatMap_cons, distH]
    rw [if_neg (by simp; omega), Int.toNat_natCast]
    have d1 : (x.h.bs ++ r.flatMap (·.h.bs)).drop x.h.bs.length = r.flatMap (·.h.bs) := by simp
    have d2 : (x.h.bs ++ r.flatMap (·.h.bs)).take x.h.bs.length = x.h.bs := by simp
    rw [d1, d2, distH_flat r]
    rfl
theorem unpH_enc {l : List HSm} {ss : List (List UInt8)} (h : colsOK (hstCs l) = some ss) : unpH ss = some l := by
  obtain ⟨rfl, hz⟩ := colsOK_some h
  simp only [hstCs, List.forall_mem_cons] at hz
  obtain ⟨z0, z1, z2, z3, z4, z5, z6, z7, z8, _⟩ := hz
  simp only [hstCs, List.map_cons, List.map_nil, unpH, unpk_hst z0 z1 z2 z3 z4, decV_enc z5, unpk_bck z6 z7, decI_enc z8, List.length_map]
  rw [if_neg (by simp), if_neg (by simp)]
  exact distH_flat l
/-- What encO tells. -/
theorem encO_some {x : Ser} {d : List UInt8} (h : encO x = some d) : serOK x = true ∧ (x.k = 1 ∨ x.k = 2 ∨ x.k = 3) ∧ ∃ ss, colsOK (serCs x) = some ss ∧ d = vb x.k.toNat ++ flatP ss ∧ d.length ≤ 262144 := by
  unfold encO at h
  split at h
  · cases h
  · rename_i hs
    have hs' : serOK x = true := by simpa using hs
    have hk : x.k = 1 ∨ x.k = 2 ∨ x.k = 3 := by
      by_cases h3 : x.k = 3
      · exact .inr (.inr h3)
      · rcases (serOK_s hs' h3).1 with h | h
        · exact .inl h
        · exact .inr (.inl h)
    refine ⟨hs', hk, ?_⟩
    split at h
    · cases h
    · rename_i ss hss
      have e : (appV [] x.k).1 = vb x.k.toNat := by unfold appV; rw [if_neg (by omega)]; rfl
      have hv := vb_len10 (n := x.k.toNat) (by omega)
      rw [e, jn_eq _ _ (by omega)] at h
      split at h
      · cases h
      · rename_i hl
        cases h
        exact ⟨ss, hss, rfl, by omega⟩
theorem serCs_n (x : Ser) {ss : List (List UInt8)} (h : colsOK (serCs x) = some ss) : ss.length = if x.k = 3 then 9 else 2 := by
  obtain ⟨rfl, _⟩ := colsOK_some h
  unfold serCs
  split <;> simp [hstCs, smpCs]
theorem encO_parts {x : Ser} {d : List UInt8} {ss : List (List UInt8)} (hd : d = vb x.k.toNat ++ flatP ss) (hl : d.length ≤ 262144) : ∀ s ∈ ss, s.length ≤ 1152921504606846976 := by
  intro s hs
  have : s.length ≤ (flatP ss).length := by
    obtain ⟨a, b, rfl⟩ := List.append_of_mem hs
    simp only [flatP, List.flatMap_append, List.flatMap_cons, List.length_append]
    omega
  rw [hd, List.length_append] at hl
  omega
/-- Reading what was encoded. -/
theorem parse_enc {x : Ser} {d : List UInt8} (h : encO x = some d) : parseS x.lb d = some x := by
  obtain ⟨hs, hk, ss, hss, hd, hl⟩ := encO_some h
  have hp := encO_parts hd hl
  have hn := serCs_n x hss
  have hv := rdV_vb (n := x.k.toNat) (by omega) (flatP ss)
  rw [← hd] at hv
  have hdr : d.drop (vb x.k.toNat).length = flatP ss := by rw [hd]; simp
  have hkk : ((x.k.toNat : Nat) : Int) = x.k := by omega
  unfold parseS
  rw [hv]
  simp only [hdr, hkk]
  rw [if_neg (by simp; omega)]
  have hsp := splitN_flat ss hp
  by_cases h3 : x.k = 3
  · rw [if_pos h3]
    rw [hn, if_pos h3] at hsp
    rw [hsp]
    have hcs : serCs x = hstCs x.hs := by unfold serCs; rw [if_pos h3]
    rw [hcs] at hss
    simp only [unpH_enc hss, Option.map_some]
    have hsm : x.sm = [] := by
      unfold serOK at hs
      split at hs
      · cases hs
      · simp only [Bool.and_eq_true, beq_iff_eq] at hs
        exact List.length_eq_zero_iff.1 hs.1
    obtain ⟨lb, k, sm, hs'⟩ := x
    simp only at hsm
    subst hsm
    rfl
  · rw [if_neg h3]
    rw [hn, if_neg h3] at hsp
    rw [hsp]
    have hcs : serCs x = smpCs x.sm := by unfold serCs; rw [if_neg h3]
    rw [hcs] at hss
    simp only [unpk_smp hss, Option.map_some]
    have hsm : x.hs = [] := by
      unfold serOK at hs
      split at hs
      · cases hs
      · simp only [Bool.and_eq_true, beq_iff_eq] at hs
        exact List.length_eq_zero_iff.1 hs.1
    obtain ⟨lb, k, sm, hs'⟩ := x
    simp only at hsm
    subst hsm
    rfl
theorem dec_enc {x : Ser} {d : List UInt8} (h : encO x = some d) : decR x.lb (serZ x) d = some x := by
  unfold decR
  rw [parse_enc h]
  simp only [h]
  rw [if_pos ⟨trivial, trivial⟩]
end Go.Proofs.YtafaoldmemcigaaGreat.Ab
namespace Go.Proofs.YtafaoldmemcigaaGreat.Ab
set_option maxHeartbeats 8000000
set_option maxRecDepth 10000
set_option linter.unusedSimpArgs false
set_option linter.unusedVariables false
/-- A column that is read: its form, its getter, its setter, and what that does. -/
structure ColU (A : Type) where
  f : Int
  g : Nat
  w : Nat
  set : A → Int → A
abbrev ColU.pd {A : Type} (c : ColU A) : List Pd := [pI c.f, .fnc c.g, .fnc c.w]
abbrev ColU.r {A : Type} (c : ColU A) : ColR A := (c.f, c.set)
/-- A setter. -/
def SetOK {A : Type} (enc : A → List C) (c : ColU A) : Prop := E0.xt c.w = none ∧ E0.opn c.w = true ∧ ∀ {s : St} {L : List (Nat × D × Nat × List Pd)} {M1 M2 : List (Nat × Ob)} {k o : Nat} {pre post : List C} {a : A} {n : Int} {K : D → St → Prop},
    OA s.nx s L (M1 ++ (k, .cells (pre ++ enc a ++ post) false) :: M2) → o = pre.length → (∀ s', OA s'.nx s' L (M1 ++ (k, .cells (pre ++ enc (c.set a n) ++ post) false) :: M2) → K (.tup []) s') → wpCall E0 (.v (.c (.p (.fnc c.w)))) [.v (.c (.ref k o)), .v (.c (.p (pI n)))] s K
/-- A slice that is being filled, and objects. -/
def SlS {A : Type} (enc : A → List C) (es : Nat) (l : List A) (L : List (Nat × D × Nat × List Pd)) (M : List (Nat × Ob)) (c6 : C) (s : St) : Prop :=
  (l = [] ∧ (c6 = .nils ∨ ∃ k, c6 = .own 0 [] k) ∧ OA s.nx s L M) ∨ ∃ k, c6 = .mt k 0 l.length es ∧ OA s.nx s L ((k, .cells (l.flatMap enc) false) :: M) ∧ l ≠ []
section
variable {A : Type} {enc : A → List C} {es : Nat} {l : List A} {L : List (Nat × D × Nat × List Pd)} {M : List (Nat × Ob)} {c6 : C} {s : St}
theorem SlS.adv (h : SlS enc es l L M c6 s) {n : Nat} : SlS enc es l L M c6 (s.adv n) := by
  rcases h with ⟨h1, h2, h3⟩ | ⟨k, h1, h2, h3⟩
  · exact .inl ⟨h1, h2, (h3.mono (Nat.le_add_right _ n)).adv⟩
  · exact .inr ⟨k, h1, (h2.mono (Nat.le_add_right _ n)).adv, h3⟩
theorem OA.swap {b : Nat} {x y : Nat × Ob} (h : OA b s L (x :: y :: M)) : OA b s L (y :: x :: M) := by
  refine ⟨h.free, h.own, h.dis, fun z hz => h.at_ z ?_, fun z hz => h.nof z ?_, ?_⟩
  · simp only [List.mem_cons] at hz ⊢; rcases hz with h | h | h <;> simp [h]
  · simp only [List.mem_cons] at hz ⊢; rcases hz with h | h | h <;> simp [h]
  · have hd := h.dism
    simp only [List.pairwise_cons, List.mem_cons] at hd ⊢
    obtain ⟨a1, a2, a3⟩ := hd
    refine ⟨fun z hz => ?_, fun z hz => a1 z (.inr hz), a3⟩
    rcases hz with rfl | hz
    · exact fun e => a1 y (.inl rfl) e.symm
    · exact a2 z hz
theorem SlS.newB (h : SlS enc es l L M c6 s) {n k : Nat} {o : Ob} (h1 : s.nx ≤ k) (h2 : k < s.nx + n) (hf : o.isFront = false) : SlS enc es l L ((k, o) :: M) c6 ((s.adv n).put k o) := by
  rcases h with ⟨h3, h4, h5⟩ | ⟨k6, h3, h4, h5⟩
  · exact .inl ⟨h3, h4, ((h5.adv.new h1 hf).mono (by simp only [St.nx_put, St.nx_adv]; omega))⟩
  · exact .inr ⟨k6, h3, ((h4.adv.new h1 hf).mono (by simp only [St.nx_put, St.nx_adv]; omega)).swap, h5⟩
theorem SlS.at8 (h : SlS enc es l L M c6 s) (y : Nat × Ob) (hy : y ∈ M) : s.get y.1 = some y.2 := by
  rcases h with ⟨_, _, h3⟩ | ⟨k, _, h2, _⟩
  · exact h3.at_ y hy
  · exact h2.at_ y (List.mem_cons_of_mem _ hy)
theorem SlS.oa (h : SlS enc es l L M c6 s) : OA s.nx s L M := by
  rcases h with ⟨_, _, h3⟩ | ⟨k, _, h2, _⟩
  · exact h3
  · exact h2.sub (List.Sublist.refl _) (List.sublist_cons_self _ _)
theorem SlS.drop {x : Nat × Ob} (h : SlS enc es l L (x :: M) c6 s) : SlS enc es l L M c6 s := by
  rcases h with ⟨h3, h4, h5⟩ | ⟨k6, h3, h4, h5⟩
  · exact .inl ⟨h3, h4, h5.sub (List.Sublist.refl _) (List.sublist_cons_self _ _)⟩
  · exact .inr ⟨k6, h3, h4.sub (List.Sublist.refl _) ((List.sublist_cons_self x M).cons_cons _), h5⟩
theorem SlS.len {t e : Nat} {i : TI} (h : SlS enc es l L M c6 s) (ht : E0.ti t = some i) (hk : i.kn = .slice e) : lenD E0 t (.v (.c c6)) = some (.v (.c (.p (.int .i64 (l.length : Int))))) := by
  rcases h with ⟨rfl, h4 | ⟨k, h4⟩, h5⟩ | ⟨k6, h3, h4, h5⟩
  · subst h4; unfold lenD; rw [ht]; simp only [hk]; rfl
  · subst h4; unfold lenD; rw [ht]; simp only [hk]; rfl
  · subst h3; unfold lenD; rw [ht]; simp only [hk]; rfl
theorem SlS.mt (h : SlS enc es l L M c6 s) (hl : l ≠ []) : ∃ k, c6 = .mt k 0 l.length es ∧ OA s.nx s L ((k, .cells (l.flatMap enc) false) :: M) := by
  rcases h with ⟨h3, _⟩ | ⟨k6, h3, h4, h5⟩
  · exact absurd h3 hl
  · exact ⟨k6, h3, h4⟩
end
/-- The list, j of its elements set. -/
def prog {A : Type} (f : A → Int → A) (l : List A) (d : List Int) (j : Nat) : List A := List.zipWith f (l.take j) (d.take j) ++ l.drop j
theorem prog_0 {A : Type} (f : A → Int → A) (l : List A) (d : List Int) : prog f l d 0 = l := by simp [prog]
theorem prog_all {A : Type} (f : A → Int → A) {l : List A} {d : List Int} (h : d.length = l.length) : prog f l d d.length = List.zipWith f l d := by
  unfold prog
  rw [List.take_of_length_le (by omega), List.take_of_length_le (by omega), List.drop_of_length_le (by omega), List.append_nil]
theorem prog_len {A : Type} (f : A → Int → A) (l : List A) (d : List Int) (j : Nat) (h : d.length = l.length := by omega) : (prog f l d j).length = l.length := by
  unfold prog
  simp only [List.length_append, List.length_zipWith, List.length_take, List.length_drop]
  omega
theorem zip_snoc {A : Type} (f : A → Int → A) : ∀ {l : List A} {d : List Int} {j : Nat} {a : A} {n : Int}, l[j]? = some a → d[j]? = some n → List.zipWith f (l.take (j + 1)) (d.take (j + 1)) = List.zipWith f (l.take j) (d.take j) ++ [f a n]
  | [], d, j, a, n, h, _ => by simp at h
  | _ :: _, [], j, a, n, _, h => by simp at h
  | x :: l, y :: d, 0, a, n, h1, h2 => by
    simp at h1 h2
    subst h1 h2
    simp
  | x :: l, y :: d, j + 1, a, n, h1, h2 => by
    simp only [List.take_succ_cons, List.zipWith_cons_cons, List.cons_append]
    rw [zip_snoc f (by simpa using h1) (by simpa using h2)]
theorem prog_step {A : Type} (f : A → Int → A) {l : List A} {d : List Int} {j : Nat} {a : A} {n : Int} (h1 : l[j]? = some a) (h2 : d[j]? = some n) :
    prog f l d j = List.zipWith f (l.take j) (d.take j) ++ a :: l.drop (j + 1) ∧ prog f l d (j + 1) = List.zipWith f (l.take j) (d.take j) ++ f a n :: l.drop (j + 1) := by
  have hj := (List.getElem?_eq_some_iff.1 h1).1
  refine ⟨?_, ?_⟩
  · unfold prog
    rw [List.drop_eq_getElem_cons hj, (List.getElem?_eq_some_iff.1 h1).2]
  · unfold prog
    rw [zip_snoc f h1 h2]; simp
theorem flat_mid {A B : Type} (f : A → List B) (p q : List A) (a : A) : (p ++ a :: q).flatMap f = p.flatMap f ++ f a ++ q.flatMap f := by simp
theorem flatC_len {A B : Type} {f : A → List B} {k : Nat} (h : ∀ a, (f a).length = k) : ∀ l : List A, (l.flatMap f).length = l.length * k
  | [] => by simp
  | a :: r => by rw [List.flatMap_cons, List.length_append, h, flatC_len h r, List.length_cons, Nat.add_mul]; omega
theorem repl_flat {A : Type} (f : A → List C) (z : A) : ∀ n : Nat, repl n (f z) = (List.replicate n z).flatMap f
  | 0 => rfl
  | n + 1 => by rw [repl, repl_flat f z n, List.replicate_succ, List.flatMap_cons]
theorem zipWith_rep {A : Type} (f : A → Int → A) (z : A) : ∀ d : List Int, List.zipWith f (List.replicate d.length z) d = d.map (f z)
  | [] => rfl
  | x :: r => by rw [List.length_cons, List.replicate_succ, List.zipWith_cons_cons, zipWith_rep f z r, List.map_cons]
theorem unpk_first {A : Type} (z : A) (c : ColR A) (cs : List (ColR A)) (x : List UInt8) (ss : List (List UInt8)) : unpk z (c :: cs) (x :: ss) = unpkG (c :: cs) (x :: ss) (List.replicate (decF c.1 x).1.length z) := by
  simp only [unpk, unpkG, zipWith_rep, List.length_replicate]
  by_cases h : (decF c.1 x).2 ≠ 0
  · rw [if_pos h, if_pos (.inl h)]
  · rw [if_neg h, if_neg (by rintro (h' | h'); exact h h'; exact h' rfl)]
theorem decF_len (f : Int) (s : List UInt8) : (decF f s).1.length ≤ 20001 := by
  have col : ∀ rd enc, (∀ m st, (rd m st : List Int × RdT).1.length ≤ m) → (colR rd enc s).1.length ≤ 20000 := fun rd enc h => by
    unfold colR
    simp only
    split
    · simp
    · split
      · simp
      · split
        · simp
        · split
          · have := h (numR rdV s (0, 0)).1.toNat (numR rdV s (0, 0)).2
            simp only
            omega
          · simp
  have rn : ∀ k s, (rdN k s).1.length ≤ k := fun k => by
    induction k with
    | zero => intro s; simp [rdN]
    | succ k ih =>
      intro s
      rw [rdN]
      split
      · simp
      · split
        · simp
        · have := ih (s.drop (rdS s).2.1)
          simp only [List.length_cons]; omega
  unfold decF
  split
  · have := col (timesR s) encT (timesR_len s); unfold decT; omega
  · split
    · have := col (valuesR s) encV (valuesR_len s); unfold decV; omega
    · unfold decI
      split
      · simp
      · split
        · simp
        · split
          · simp
          · split
            · simp
            · have := rn (rdV s).1.toNat (s.drop (rdV s).2.1)
              simp only
              omega
theorem o122 : E0.opn 122 = false := by kernel_rfl
theorem x122 : E0.xt 122 = none := by kernel_rfl
theorem setR_mid {pre E post : List C} {o : Nat} {c : C} (h : o < E.length) : setR (pre ++ E ++ post) (pre.length + o) [c] = pre ++ E.set o c ++ post := by
  have h1 : setR (pre ++ E ++ post) (pre.length + o) [c] = (pre ++ E ++ post).set (pre.length + o) c := by
    rw [List.set_eq_take_append_cons_drop, if_pos (by simp; omega)]
    simp only [setR, List.length_cons, List.length_nil, Nat.zero_add, List.append_assoc, List.cons_append, List.nil_append]
  rw [h1, List.append_assoc, List.set_append, if_neg (by omega), Nat.add_sub_cancel_left, List.set_append, if_pos h, List.append_assoc]
theorem setOK_of {A : Type} {enc : A → List C} {c : ColU A} {fn : Func} {code : Code} (hx : E0.xt c.w = none) (ho : E0.opn c.w = true) (hf : E0.fn c.w = some fn) (hb : fn.body = some code) (j : Nat) (hj : ∀ a, j < (enc a).length) (hse : ∀ a n, (enc a).set j (.p (pI n)) = enc (c.set a n))
    (h : ∀ (s : St) (k o : Nat) (n : Int) (cs : List C) (K : D → St → Prop), s.get k = some (.cells cs false) → o + j + 1 ≤ cs.length → (∀ m, K (.tup []) ((s.adv m).put k (.cells (setR cs (o + j) [.p (pI n)]) false))) → Wc E0 none code { e := [.v (.c (.ref k o)), .v (.c (.p (pI n)))] ++ List.replicate (fn.ntmps - 2) (.tup []), ds := [], s := s } (bodyQ E0 fn K)) : SetOK enc c := by
  refine ⟨hx, ho, fun {s L M1 M2 k o pre post a n K} hoa hop hK => ?_⟩
  subst hop
  refine wpCall.opn hx ho rfl hf hb ?_
  have hg := hoa.at_ (k, .cells (pre ++ enc a ++ post) false) (by simp)
  refine h s k pre.length n _ K hg (by have := hj a; simp only [List.length_append]; omega) fun m => hK _ ?_
  rw [setR_mid (hj a), hse]
  exact (OA.set hoa.adv rfl).mono (by simp only [St.nx_put, St.nx_adv]; omega)
end Go.Proofs.YtafaoldmemcigaaGreat.Ab
namespace Go.Proofs.YtafaoldmemcigaaGreat.Ab
set_option maxHeartbeats 8000000
set_option maxRecDepth 10000
set_option linter.unusedSimpArgs false
set_option linter.unusedVariables false
abbrev encP (a : I2) : List C := (p2 a).map .p
/-- A histogram's cells, its buckets not yet laid. -/
abbrev encZ (x : HSm) : List C := [.p (pI x.t), .p (pI x.h.p), .p (pI x.h.c), .p (pI x.h.s), .p (pI x.h.mn), .p (pI x.h.mx), .nils]
/-- 58: a setter -/
theorem set58 : SetOK encP (⟨0, 57, 58, fun x n => (n, x.2)⟩ : ColU I2) := setOK_of (fn := Tryz.f58) (by kernel_rfl) (by kernel_rfl) (by kernel_rfl) rfl 0 (fun a => by simp) (fun a n => rfl) fun s k o n cs K hg hl hK => by
  have hl' : (o + 1 ≤ cs.length) = True := eq_true hl
  simp only [List.map_cons, List.map_nil, List.cons_append, List.nil_append, List.length_cons, List.length_nil, Tryz.ntmps58, List.replicate, Nat.reduceSub, Nat.reduceAdd]
  refine Wc.reg fun K hK => ?_; simp only [go_sem, ti3, ti45, ti57, ti55, ti83, hg, hl']; refine hK _ _ ?_; clear hK K
  exact bodyQ.normal (vs := []) rfl rfl (hK _)
/-- 60: a setter -/
theorem set60 : SetOK encP (⟨1, 59, 60, fun x n => (x.1, n)⟩ : ColU I2) := setOK_of (fn := Tryz.f60) (by kernel_rfl) (by kernel_rfl) (by kernel_rfl) rfl 1 (fun a => by simp) (fun a n => rfl) fun s k o n cs K hg hl hK => by
  have hl' : (o + 2 ≤ cs.length) = True := eq_true hl
  simp only [List.map_cons, List.map_nil, List.cons_append, List.nil_append, List.length_cons, List.length_nil, Tryz.ntmps60, List.replicate, Nat.reduceSub, Nat.reduceAdd]
  refine Wc.reg fun K hK => ?_; simp only [go_sem, ti3, ti45, ti57, ti55, ti83, hg, hl']; refine hK _ _ ?_; clear hK K
  exact bodyQ.normal (vs := []) rfl rfl (hK _)
/-- 99: a setter -/
theorem set99 : SetOK encP (⟨1, 98, 99, fun x n => (n, x.2)⟩ : ColU I2) := setOK_of (fn := Tryz.f99) (by kernel_rfl) (by kernel_rfl) (by kernel_rfl) rfl 0 (fun a => by simp) (fun a n => rfl) fun s k o n cs K hg hl hK => by
  have hl' : (o + 1 ≤ cs.length) = True := eq_true hl
  simp only [List.map_cons, List.map_nil, List.cons_append, List.nil_append, List.length_cons, List.length_nil, Tryz.ntmps99, List.replicate, Nat.reduceSub, Nat.reduceAdd]
  refine Wc.reg fun K hK => ?_; simp only [go_sem, ti3, ti45, ti57, ti55, ti83, hg, hl']; refine hK _ _ ?_; clear hK K
  exact bodyQ.normal (vs := []) rfl rfl (hK _)
/-- 101: a setter -/
theorem set101 : SetOK encP (⟨1, 100, 101, fun x n => (x.1, n)⟩ : ColU I2) := setOK_of (fn := Tryz.f101) (by kernel_rfl) (by kernel_rfl) (by kernel_rfl) rfl 1 (fun a => by simp) (fun a n => rfl) fun s k o n cs K hg hl hK => by
  have hl' : (o + 2 ≤ cs.length) = True := eq_true hl
  simp only [List.map_cons, List.map_nil, List.cons_append, List.nil_append, List.length_cons, List.length_nil, Tryz.ntmps101, List.replicate, Nat.reduceSub, Nat.reduceAdd]
  refine Wc.reg fun K hK => ?_; simp only [go_sem, ti3, ti45, ti57, ti55, ti83, hg, hl']; refine hK _ _ ?_; clear hK K
  exact bodyQ.normal (vs := []) rfl rfl (hK _)
/-- 87: a setter -/
theorem set87 : SetOK encZ (⟨0, 86, 87, fun x n => { x with t := n }⟩ : ColU HSm) := setOK_of (fn := Tryz.f87) (by kernel_rfl) (by kernel_rfl) (by kernel_rfl) rfl 0 (fun a => by simp) (fun a n => rfl) fun s k o n cs K hg hl hK => by
  have hl' : (o + 1 ≤ cs.length) = True := eq_true hl
  simp only [List.map_cons, List.map_nil, List.cons_append, List.nil_append, List.length_cons, List.length_nil, Tryz.ntmps87, List.replicate, Nat.reduceSub, Nat.reduceAdd]
  refine Wc.reg fun K hK => ?_; simp only [go_sem, ti3, ti45, ti57, ti55, ti83, hg, hl']; refine hK _ _ ?_; clear hK K
  exact bodyQ.normal (vs := []) rfl rfl (hK _)
/-- 89: a setter -/
theorem set89 : SetOK encZ (⟨1, 88, 89, fun x n => { x with h := { x.h with p := n } }⟩ : ColU HSm) := setOK_of (fn := Tryz.f89) (by kernel_rfl) (by kernel_rfl) (by kernel_rfl) rfl 1 (fun a => by simp) (fun a n => rfl) fun s k o n cs K hg hl hK => by
  have hl' : (o + 2 ≤ cs.length) = True := eq_true hl
  simp only [List.map_cons, List.map_nil, List.cons_append, List.nil_append, List.length_cons, List.length_nil, Tryz.ntmps89, List.replicate, Nat.reduceSub, Nat.reduceAdd]
  refine Wc.reg fun K hK => ?_; simp only [go_sem, ti3, ti45, ti57, ti55, ti83, hg, hl']; refine hK _ _ ?_; clear hK K
  exact bodyQ.normal (vs := []) rfl rfl (hK _)
/-- 91: a setter -/
theorem set91 : SetOK encZ (⟨1, 90, 91, fun x n => { x with h := { x.h with c := n } }⟩ : ColU HSm) := setOK_of (fn := Tryz.f91) (by kernel_rfl) (by kernel_rfl) (by kernel_rfl) rfl 2 (fun a => by simp) (fun a n => rfl) fun s k o n cs K hg hl hK => by
  have hl' : (o + 3 ≤ cs.length) = True := eq_true hl
  simp only [List.map_cons, List.map_nil, List.cons_append, List.nil_append, List.length_cons, List.length_nil, Tryz.ntmps91, List.replicate, Nat.reduceSub, Nat.reduceAdd]
  refine Wc.reg fun K hK => ?_; simp only [go_sem, ti3, ti45, ti57, ti55, ti83, hg, hl']; refine hK _ _ ?_; clear hK K
  exact bodyQ.normal (vs := []) rfl rfl (hK _)
/-- 93: a setter -/
theorem set93 : SetOK encZ (⟨1, 92, 93, fun x n => { x with h := { x.h with mn := n } }⟩ : ColU HSm) := setOK_of (fn := Tryz.f93) (by kernel_rfl) (by kernel_rfl) (by kernel_rfl) rfl 4 (fun a => by simp) (fun a n => rfl) fun s k o n cs K hg hl hK => by
  have hl' : (o + 5 ≤ cs.length) = True := eq_true hl
  simp only [List.map_cons, List.map_nil, List.cons_append, List.nil_append, List.length_cons, List.length_nil, Tryz.ntmps93, List.replicate, Nat.reduceSub, Nat.reduceAdd]
  refine Wc.reg fun K hK => ?_; simp only [go_sem, ti3, ti45, ti57, ti55, ti83, hg, hl']; refine hK _ _ ?_; clear hK K
  exact bodyQ.normal (vs := []) rfl rfl (hK _)
/-- 95: a setter -/
theorem set95 : SetOK encZ (⟨1, 94, 95, fun x n => { x with h := { x.h with mx := n } }⟩ : ColU HSm) := setOK_of (fn := Tryz.f95) (by kernel_rfl) (by kernel_rfl) (by kernel_rfl) rfl 5 (fun a => by simp) (fun a n => rfl) fun s k o n cs K hg hl hK => by
  have hl' : (o + 6 ≤ cs.length) = True := eq_true hl
  simp only [List.map_cons, List.map_nil, List.cons_append, List.nil_append, List.length_cons, List.length_nil, Tryz.ntmps95, List.replicate, Nat.reduceSub, Nat.reduceAdd]
  refine Wc.reg fun K hK => ?_; simp only [go_sem, ti3, ti45, ti57, ti55, ti83, hg, hl']; refine hK _ _ ?_; clear hK K
  exact bodyQ.normal (vs := []) rfl rfl (hK _)
def smpU : List (ColU I2) := [⟨0, 57, 58, fun x n => (n, x.2)⟩, ⟨1, 59, 60, fun x n => (x.1, n)⟩]
def bckU : List (ColU I2) := [⟨1, 98, 99, fun x n => (n, x.2)⟩, ⟨1, 100, 101, fun x n => (x.1, n)⟩]
def hstU : List (ColU HSm) := [⟨0, 86, 87, fun x n => { x with t := n }⟩, ⟨1, 88, 89, fun x n => { x with h := { x.h with p := n } }⟩, ⟨1, 90, 91, fun x n => { x with h := { x.h with c := n } }⟩, ⟨1, 92, 93, fun x n => { x with h := { x.h with mn := n } }⟩, ⟨1, 94, 95, fun x n => { x with h := { x.h with mx := n } }⟩]
theorem smpU_ok : ∀ c ∈ smpU, SetOK encP c := by
  intro c hc
  simp only [smpU, List.mem_cons, List.mem_nil_iff, or_false] at hc
  rcases hc with rfl | rfl
  · exact set58
  · exact set60
theorem bckU_ok : ∀ c ∈ bckU, SetOK encP c := by
  intro c hc
  simp only [bckU, List.mem_cons, List.mem_nil_iff, or_false] at hc
  rcases hc with rfl | rfl
  · exact set99
  · exact set101
theorem hstU_ok : ∀ c ∈ hstU, SetOK encZ c := by
  intro c hc
  simp only [hstU, List.mem_cons, List.mem_nil_iff, or_false] at hc
  rcases hc with rfl | rfl | rfl | rfl | rfl
  · exact set87
  · exact set89
  · exact set91
  · exact set93
  · exact set95
end Go.Proofs.YtafaoldmemcigaaGreat.Ab
namespace Go.Proofs.YtafaoldmemcigaaGreat.Ab
set_option maxHeartbeats 8000000
set_option maxRecDepth 10000
set_option linter.unusedSimpArgs false
set_option linter.unusedVariables false
/-- 81: unpack, a walk -/
theorem uw81 {s : St} {L : List (Nat × D × Nat × List Pd)} {M : List (Nat × Ob)} {z : I2} {cols : List (ColU I2)} {ss : List (List UInt8)} {K : D → St → Prop} (h : OA s.nx s L M) (hz : ∃ zz, E0.ti 45 = some zz ∧ zz.zero = some (encP z)) (hcl : cols.length < 2^20) (hsl : ss.length = cols.length)
    (hss : ∀ x ∈ ss, x.length < 2^40) (hcol : ∀ c ∈ cols, SetOK encP c) (hel : ∀ a : I2, (encP a).length = 2)
    (hK0 : unpk z (cols.map ColU.r) ss = none → ∀ s', OA s'.nx s' L M → K (.tup [.c .nils, .c (.p (.bool false))]) s')
    (hK1 : ∀ l, unpk z (cols.map ColU.r) ss = some l → ∀ s' c6, SlS encP 2 l L M c6 s' → K (.tup [.c c6, .c (.p (.bool true))]) s') :
    Wc E0 none (Tryz.f81.body.get rfl) { e := [V.c (.p (.lst ss.length (ss.map .str))), V.c (.p (.lst cols.length (cols.flatMap ColU.pd)))].map .v ++ List.replicate (Tryz.f81.ntmps - 2) (.tup []), ds := [], s := s } (bodyQ E0 Tryz.f81 K) := by
  show Wc E0 none _ _ _
  simp only [List.map_cons, List.map_nil, List.cons_append, List.nil_append, List.length_cons, List.length_nil, Tryz.ntmps81, List.replicate, Nat.reduceSub, Nat.reduceAdd]
  generalize hU : unpk z (cols.map ColU.r) ss = U at hK0 hK1
  refine Wc.seq ?_
  refine Wc.reg fun K hK => ?_; simp only [go_sem, ti3, ti9, ti77, ti4, ti35, ti105, ti48, ti23, ti45, ti69, ti109, ti107]; refine hK _ _ ?_; clear hK K
  refine Wc.seq ?_
  refine Wc.reg fun K hK => ?_; simp only [go_sem, ti3, ti9, ti77, ti4, ti35, ti105, ti48, ti23, ti45, ti69, ti109, ti107]; refine hK _ _ ?_; clear hK K
  refine Wc.seqR (fun y => ∃ (l : List I2) (c6 : C), U = some l ∧ y.ds = [] ∧ Fs y.e 59 [(6, .v (.c c6))] ∧ SlS encP 2 l L M c6 y.s) ?_ ?_
  · refine Wc.seq ?_
    refine Wc.reg fun K hK => ?_; simp only [go_sem, ti3, ti9, ti77, ti4, ti35, ti105, ti48, ti23, ti45, ti69, ti109, ti107, Int.natCast_zero]; refine hK _ _ ?_; clear hK K
    refine Wc.block (Wc.loop (fun k y => ∃ (i : Nat) (l : List I2) (c6 : C), k = cols.length - i ∧ i ≤ cols.length ∧ y.ds = [] ∧ Fs y.e 59 [(0, P' (.lst ss.length (ss.map .str))), (13, P' (.lst cols.length (cols.flatMap ColU.pd))), (14, P' (pI cols.length)), (15, P' (pI i)), (6, .v (.c c6))] ∧ SlS encP 2 l L M c6 y.s ∧ (i = 0 → l = []) ∧ (0 < i → U = unpkG ((cols.map ColU.r).drop i) (ss.drop i) l)) ?_ (k := cols.length) ?_)
    · rintro k ⟨e, ds, s1⟩ ⟨i, l, c6, rfl, hi, rfl, hF, ho, hi0, hUi⟩
      simp only [Fs] at hF ho
      refine Wc.seq ?_
      refine Wc.reg fun K hK => ?_; simp only [go_sem, ti3, ti9, ti77, ti4, ti35, ti105, ti48, ti23, ti45, ti69, ti109, ti107, hF]; refine hK _ _ ?_; clear hK K
      refine Wc.seq (Wc.cond (t := decide ((i : Int) < cols.length)) (by simp only [go_sem, ti3, ti9, ti77, ti4, ti35, ti105, ti48, ti23, ti45, ti69, ti109, ti107, hF]) (fun hc => ?_) (fun hc => ?_))
      · have hil : i < cols.length := by have : (i : Int) < cols.length := by simpa using hc
                                         omega
        obtain ⟨c, hc1⟩ : ∃ c, cols[i]? = some c := ⟨cols[i], List.getElem?_eq_getElem hil⟩
        obtain ⟨x, hx1⟩ : ∃ x, ss[i]? = some x := ⟨ss[i], List.getElem?_eq_getElem (by omega)⟩
        have hxl := hss x (List.mem_of_getElem? hx1)
        obtain ⟨hxt, hopn, hset⟩ := hcol c (List.mem_of_getElem? hc1)
        have hcr : (cols.map ColU.r).drop i = c.r :: (cols.map ColU.r).drop (i + 1) := by
          rw [← List.map_drop, List.drop_eq_getElem_cons hil, (List.getElem?_eq_some_iff.1 hc1).2, List.map_cons, List.map_drop]
        have hxr : ss.drop i = x :: ss.drop (i + 1) := by rw [List.drop_eq_getElem_cons (by omega), (List.getElem?_eq_some_iff.1 hx1).2]
        have hU1 : U = if (decF c.f x).2 ≠ 0 ∨ (decF c.f x).1.length ≠ (if i = 0 then List.replicate (decF c.f x).1.length z else l).length then none else unpkG ((cols.map ColU.r).drop (i + 1)) (ss.drop (i + 1)) (List.zipWith c.set (if i = 0 then List.replicate (decF c.f x).1.length z else l) (decF c.f x).1) := by
          by_cases h0 : i = 0
          · subst h0
            rw [List.drop_zero] at hcr hxr
            rw [← hU, hcr, hxr, if_pos rfl, unpk_first]
            rfl
          · rw [hUi (by omega), hcr, hxr, if_neg h0]
            rfl
        clear hUi hcr hxr
        have hic := ixA ti69 rfl ti109 (j := i) (m := cols.length) (cs := cols.flatMap ColU.pd) hil (by rw [flat_len (k := 3) (fun _ => rfl)]) (by decide)
        have hca := rpA (off := i * 3) (drop_flat (f := ColU.pd) (k := 3) (fun _ => rfl) hc1) (by rw [flat_len (k := 3) (fun _ => rfl)]; omega)
        have his := ixA ti48 rfl ti9 (j := i) (m := ss.length) (cs := ss.map .str) (by omega) (by simp) (by decide)
        have hcs := rpA (off := i) (drop_map Pd.str hx1) (by simp; omega)
        refine Wc.skip (Wc.seq (Wc.block ?_))
        refine Wc.seqA (fun y => ∃ k8, y.ds = [] ∧ Fs y.e 59 [(0, P' (.lst ss.length (ss.map .str))), (13, P' (.lst cols.length (cols.flatMap ColU.pd))), (14, P' (pI cols.length)), (15, P' (pI i)), (6, .v (.c c6)), (7, P' (pI i)), (8, .v (.c (.ref k8 0)))] ∧ SlS encP 2 l L ((k8, .cells [.p (pI c.f), .p (.fnc c.g), .p (.fnc c.w)] false) :: M) c6 y.s) ?_ ?_
        · refine Wc.reg fun K hK => ?_; simp only [go_sem, ti3, ti9, ti77, ti4, ti35, ti105, ti48, ti23, ti45, ti69, ti109, ti107, hF, hic, hca]; refine hK _ _ ?_; clear hK K
          exact ⟨rfl, s1.nx + 1 + 3, rfl, by simp only [Fs, Int.natCast_zero, go_sem, ti3, ti9, ti77, ti4, ti35, ti105, ti48, ti23, ti45, ti69, ti109, ti107, hF], (ho.adv (n := 1)).newB (n := 6) (k := s1.nx + 1 + 3) (by simp only [St.nx_adv]; omega) (by simp only [St.nx_adv]; omega) rfl⟩
        clear hF ho e s1
        rintro ⟨e, ds, s1⟩ ⟨k8, rfl, hF, ho⟩
        simp only [Fs] at hF ho
        have g8 := ho.at8 (k8, .cells [.p (pI c.f), .p (.fnc c.g), .p (.fnc c.w)] false) (by simp)
        simp only at g8
        refine Wc.seq ?_
        refine Wc.regD fun K hK => ?_; simp only [go_sem, ti3, ti9, ti77, ti4, ti35, ti105, ti48, ti23, ti45, ti69, ti109, ti107, hF, g8, his, hcs]
        refine ⟨by simp [o122, x122, plainD, plainV, plainC], ?_⟩
        refine wpCall.pf (pf122 c.f x hxl) x122 o122 rfl rfl ?_
        simp only [go_sem, ti3, ti9, ti77, ti4, ti35, ti105, ti48, ti23, ti45, ti69, ti109, ti107, hF]; refine hK _ _ ?_; clear hK K
        have hoM : OA s1.nx s1 L M := ho.oa.sub (List.Sublist.refl _) (List.sublist_cons_self _ _)
        have hdl : (decF c.f x).1.length ≤ 20001 := decF_len _ _
        generalize hd : decF c.f x = d at *
        obtain ⟨d, er⟩ := d
        simp only at hU1 hdl
        refine Wc.seq (Wc.seq ?_)
        refine Wc.reg fun K hK => ?_; simp only [go_sem, ti3, ti9, ti77, ti4, ti35, ti105, ti48, ti23, ti45, ti69, ti109, ti107, hF]; refine hK _ _ ?_; clear hK K
        refine Wc.cond (t := (er != 0)) (by simp only [go_sem, ti3, ti9, ti77, ti4, ti35, ti105, ti48, ti23, ti45, ti69, ti109, ti107, hF]) (fun hc => ?_) (fun hc => ?_)
        · have h0 : er ≠ 0 := by simpa using hc
          rw [if_pos (.inl h0)] at hU1
          refine Wc.seq ?_
          refine Wc.reg fun K hK => ?_; simp only [go_sem, ti3, ti9, ti77, ti4, ti35, ti105, ti48, ti23, ti45, ti69, ti109, ti107, hF]; refine hK _ _ ?_; clear hK K
          exact Wc.ret (show bodyQ E0 Tryz.f81 K .ret _ from Op.ret [.tmp 4, .tmp 5] [.c .nils, .c (.p (.bool false))] rfl rfl (by simp only [resultsD, go_sem, ti3, ti9, ti77, ti4, ti35, ti105, ti48, ti23, ti45, ti69, ti109, ti107, hF]) (hK0 hU1 _ (by simp only [St.nx_put, St.nx_adv]; repeat (first | exact OA.mono hoM (by omega) | refine OA.newB ?_ (by omega) rfl | refine OA.advB ?_))))
        have h0 : er = 0 := by simpa using hc
        generalize hl0 : (if i = 0 then List.replicate d.length z else l) = l0 at hU1
        refine Wc.skip ?_
        refine Wc.seqA (fun y => ∃ c6, y.ds = [] ∧ Fs y.e 59 [(0, P' (.lst ss.length (ss.map .str))), (13, P' (.lst cols.length (cols.flatMap ColU.pd))), (14, P' (pI cols.length)), (15, P' (pI i)), (6, .v (.c c6)), (7, P' (pI i)), (8, .v (.c (.ref k8 0))), (9, P' (.lst d.length (d.map pI)))] ∧ SlS encP 2 l0 L ((k8, .cells [.p (pI c.f), .p (.fnc c.g), .p (.fnc c.w)] false) :: M) c6 y.s) ?_ ?_
        · refine Wc.seq ?_
          refine Wc.reg fun K hK => ?_; simp only [go_sem, ti3, ti9, ti77, ti4, ti35, ti105, ti48, ti23, ti45, ti69, ti109, ti107, hF]; refine hK _ _ ?_; clear hK K
          refine Wc.cond (t := ((i : Int) == 0)) (by simp only [go_sem, ti3, ti9, ti77, ti4, ti35, ti105, ti48, ti23, ti45, ti69, ti109, ti107, hF]) (fun hc => ?_) (fun hc => ?_)
          · have hi00 : i = 0 := by have : (i : Int) = 0 := by simpa using hc
                                    omega
            rw [if_pos hi00] at hl0
            have hll := hi0 hi00
            subst hll
            have ho0 := ho.oa
            by_cases hd0 : d.length = 0
            · have hsz : (((16 : Nat) : Int) * 0 ≤ 140737488355328) = True := by simp
              have hdi : ((d.length : Nat) : Int) = 0 := by omega
              refine Wc.reg fun K hK => ?_; simp only [go_sem, ti3, ti9, ti77, ti4, ti35, ti105, ti48, ti23, ti45, ti69, ti109, ti107, hF, hdi, hsz]; refine hK _ _ ?_; clear hK K
              refine ⟨rfl, .own 0 [] (s1.nx + 16 + 2), rfl, by simp only [Fs, Int.natCast_zero, go_sem, ti3, ti9, ti77, ti4, ti35, ti105, ti48, ti23, ti45, ti69, ti109, ti107, hF, hdi], ?_⟩
              subst hl0
              rw [hd0]
              refine .inl ⟨rfl, .inr ⟨_, rfl⟩, (OA.put (k := s1.nx + 16 + 2) ho0.adv.adv.adv.adv (by omega)).mono (by simp only [St.nx_put, St.nx_adv]; omega)⟩
            · have hm1 : (((16 : Nat) : Int) * (d.length : Int) ≤ 140737488355328) = True := by simp only [eq_iff_iff, iff_true]; omega
              have hm2 : ((d.length : Int) ≤ 9223372036854775807) = True := by simp only [eq_iff_iff, iff_true]; omega
              have hm3 : ((d.length : Int) = 0) = False := by simp only [eq_iff_iff, iff_false]; omega
              refine Wc.reg fun K hK => ?_; simp only [go_sem, ti3, ti9, ti77, ti4, ti35, ti105, ti48, ti23, ti45, ti69, ti109, ti107, hF, hm1, hm2, hm3, Int.le_refl]; refine hK _ _ ?_; clear hK K
              refine ⟨rfl, .mt (s1.nx + 16 + 2) 0 d.length 2, rfl, by simp only [Fs, Int.natCast_zero, go_sem, ti3, ti9, ti77, ti4, ti35, ti105, ti48, ti23, ti45, ti69, ti109, ti107, hF], ?_⟩
              subst hl0
              obtain ⟨zz, hz1, hz2⟩ := hz
              rw [ti45] at hz1
              cases hz1
              simp only [Option.some.injEq] at hz2
              rw [hz2]
              refine .inr ⟨_, by rw [List.length_replicate], ?_, by intro e; have := congrArg List.length e; rw [List.length_replicate, List.length_nil] at this; exact hd0 this⟩
              rw [← repl_flat]
              exact by simp only [St.nx_put, St.nx_adv]; repeat (first | exact OA.mono ho0 (by omega) | refine OA.newB ?_ (by omega) rfl | refine OA.advB ?_)
          · have hi00 : ¬ i = 0 := by have : ¬ (i : Int) = 0 := by simpa using hc
                                      omega
            rw [if_neg hi00] at hl0
            subst hl0
            exact Wc.skip ⟨rfl, c6, rfl, by simp only [Fs, Int.natCast_zero, go_sem, ti3, ti9, ti77, ti4, ti35, ti105, ti48, ti23, ti45, ti69, ti109, ti107, hF], (by repeat (first | exact ho | refine SlS.adv ?_))⟩
        clear hF ho g8 hoM e s1 hi0
        rintro ⟨e, ds, s1⟩ ⟨c6, rfl, hF, ho⟩
        simp only [Fs] at hF ho
        have hoM : OA s1.nx s1 L M := ho.oa.sub (List.Sublist.refl _) (List.sublist_cons_self _ _)
        have hlen6 : lenD E0 23 (.v (.c c6)) = some (.v (.c (.p (.int .i64 (l0.length : Int))))) := ho.len ti23 rfl
        refine Wc.seq (Wc.seq ?_)
        refine Wc.reg fun K hK => ?_; simp only [go_sem, ti3, ti9, ti77, ti4, ti35, ti105, ti48, ti23, ti45, ti69, ti109, ti107, hF, hlen6]; refine hK _ _ ?_; clear hK K
        refine Wc.cond (t := ((d.length : Int) != (l0.length : Int))) (by simp only [go_sem, ti3, ti9, ti77, ti4, ti35, ti105, ti48, ti23, ti45, ti69, ti109, ti107, hF]) (fun hc => ?_) (fun hc => ?_)
        · have h1 : d.length ≠ l0.length := by have : ¬ (d.length : Int) = (l0.length : Int) := by simpa using hc
                                               omega
          rw [if_pos (.inr h1)] at hU1
          refine Wc.seq ?_
          refine Wc.reg fun K hK => ?_; simp only [go_sem, ti3, ti9, ti77, ti4, ti35, ti105, ti48, ti23, ti45, ti69, ti109, ti107, hF]; refine hK _ _ ?_; clear hK K
          exact Wc.ret (show bodyQ E0 Tryz.f81 K .ret _ from Op.ret [.tmp 4, .tmp 5] [.c .nils, .c (.p (.bool false))] rfl rfl (by simp only [resultsD, go_sem, ti3, ti9, ti77, ti4, ti35, ti105, ti48, ti23, ti45, ti69, ti109, ti107, hF]) (hK0 hU1 _ (by simp only [St.nx_put, St.nx_adv]; repeat (first | exact OA.mono hoM (by omega) | refine OA.newB ?_ (by omega) rfl | refine OA.advB ?_))))
        have h1 : d.length = l0.length := by have : (d.length : Int) = (l0.length : Int) := by simpa using hc
                                             omega
        rw [if_neg (by rintro (h | h) <;> contradiction)] at hU1
        refine Wc.skip ?_
        refine Wc.seq ?_
        refine Wc.reg fun K hK => ?_; simp only [go_sem, ti3, ti9, ti77, ti4, ti35, ti105, ti48, ti23, ti45, ti69, ti109, ti107, hF, Int.natCast_zero]; refine hK _ _ ?_; clear hK K
        refine Wc.block (Wc.loop (fun q y => ∃ j : Nat, q = d.length - j ∧ j ≤ d.length ∧ y.ds = [] ∧ Fs y.e 59 [(0, P' (.lst ss.length (ss.map .str))), (13, P' (.lst cols.length (cols.flatMap ColU.pd))), (14, P' (pI cols.length)), (15, P' (pI i)), (6, .v (.c c6)), (7, P' (pI i)), (8, .v (.c (.ref k8 0))), (42, P' (.lst d.length (d.map pI))), (43, P' (pI d.length)), (44, P' (pI j))] ∧ SlS encP 2 (prog c.set l0 d j) L ((k8, .cells [.p (pI c.f), .p (.fnc c.g), .p (.fnc c.w)] false) :: M) c6 y.s) ?_ (k := d.length) ?_)
        · clear hF ho hoM hlen6 e s1
          rintro q ⟨e, ds, s1⟩ ⟨j, rfl, hj, rfl, hF, ho⟩
          simp only [Fs] at hF ho
          refine Wc.seq ?_
          refine Wc.reg fun K hK => ?_; simp only [go_sem, ti3, ti9, ti77, ti4, ti35, ti105, ti48, ti23, ti45, ti69, ti109, ti107, hF]; refine hK _ _ ?_; clear hK K
          refine Wc.seq (Wc.cond (t := decide ((j : Int) < d.length)) (by simp only [go_sem, ti3, ti9, ti77, ti4, ti35, ti105, ti48, ti23, ti45, ti69, ti109, ti107, hF]) (fun hc => ?_) (fun hc => ?_))
          · have hjl : j < d.length := by have : (j : Int) < d.length := by simpa using hc
                                          omega
            obtain ⟨n, hn⟩ : ∃ n, d[j]? = some n := ⟨d[j], List.getElem?_eq_getElem hjl⟩
            obtain ⟨a, ha⟩ : ∃ a, l0[j]? = some a := ⟨l0[j], List.getElem?_eq_getElem (by omega)⟩
            have hin := ixA ti77 rfl ti3 (j := j) (m := d.length) (cs := d.map pI) hjl (by simp) (by decide)
            have hcn := rpA (off := j) (drop_map pI hn) (by simp; omega)
            obtain ⟨p1, p2⟩ := prog_step c.set ha hn
            have hpl := prog_len c.set l0 d j h1
            have hpl2 := prog_len c.set l0 d (j + 1) h1
            obtain ⟨k6, rfl, ho6⟩ := ho.mt (by rw [p1]; simp)
            rw [p1, flat_mid] at ho6
            have g8 := ho6.at_ ((k8, .cells [.p (pI c.f), .p (.fnc c.g), .p (.fnc c.w)] false)) (by simp)
            simp only at g8
            have hi6 := ixM ti23 rfl ti45 (r := k6) (off := 0) (j := j) (m := (prog c.set l0 d j).length) (es := 2) (by omega) rfl
            have hpre : ((List.zipWith c.set (l0.take j) (d.take j)).flatMap encP).length = j * 2 := by
              rw [flatC_len hel, List.length_zipWith, List.length_take, List.length_take]
              congr 1
              omega
            refine Wc.skip (Wc.seq (Wc.block (Wc.seq ?_)))
            refine Wc.reg fun K hK => ?_; simp only [go_sem, ti3, ti9, ti77, ti4, ti35, ti105, ti48, ti23, ti45, ti69, ti109, ti107, hF, hin, hcn]; refine hK _ _ ?_; clear hK K
            refine Wc.regT fun K hK => ?_; simp only [go_sem, ti3, ti9, ti77, ti4, ti35, ti105, ti48, ti23, ti45, ti69, ti109, ti107, hF, g8, hi6, hxt, hopn]
            refine hset (M1 := []) (OA.mono (ho6.adv.adv.adv) (by simp only [St.nx_adv]; omega)) hpre.symm fun s2 ho2 => ?_
            simp only [go_sem, ti3, ti9, ti77, ti4, ti35, ti105, ti48, ti23, ti45, ti69, ti109, ti107, hF, g8, hi6, hxt, hopn]
            refine ⟨by rfl, hK _ _ ?_⟩
            clear hK K
            refine Wc.reg fun K hK => ?_; simp only [go_sem, ti3, ti9, ti77, ti4, ti35, ti105, ti48, ti23, ti45, ti69, ti109, ti107, hF, i64n j (by omega)]; refine hK _ _ ?_; clear hK K
            refine ⟨d.length - (j + 1), by omega, j + 1, rfl, by omega, rfl, by simp only [Fs, Int.natCast_zero, go_sem, ti3, ti9, ti77, ti4, ti35, ti105, ti48, ti23, ti45, ti69, ti109, ti107, hF], .inr ⟨k6, ?_, ?_, ?_⟩⟩
            · rw [hpl, hpl2]
            · rw [p2, flat_mid]
              exact by simp only [St.nx_put, St.nx_adv]; repeat (first | exact OA.mono ho2 (by omega) | refine OA.newB ?_ (by omega) rfl | refine OA.advB ?_)
            · rw [p2]; simp
          · have hjl : j = d.length := by have : ¬ (j : Int) < d.length := by simpa using hc
                                          omega
            subst hjl
            rw [prog_all _ h1] at ho
            refine Wc.exit ?_
            refine Wc.reg fun K hK => ?_; simp only [go_sem, ti3, ti9, ti77, ti4, ti35, ti105, ti48, ti23, ti45, ti69, ti109, ti107, hF, i64n i (by omega)]; refine hK _ _ ?_; clear hK K
            exact ⟨cols.length - (i + 1), by omega, i + 1, _, c6, rfl, by omega, rfl, by simp only [Fs, Int.natCast_zero, go_sem, ti3, ti9, ti77, ti4, ti35, ti105, ti48, ti23, ti45, ti69, ti109, ti107, hF], (SlS.drop (x := (k8, .cells [.p (pI c.f), .p (.fnc c.g), .p (.fnc c.w)] false)) (by repeat (first | exact ho | refine SlS.adv ?_))), fun h => by omega, fun _ => hU1⟩
        · exact ⟨0, rfl, by omega, rfl, by simp only [Fs, Int.natCast_zero, go_sem, ti3, ti9, ti77, ti4, ti35, ti105, ti48, ti23, ti45, ti69, ti109, ti107, hF], by rw [prog_0]; exact (by repeat (first | exact ho | refine SlS.adv ?_))⟩
      · have hil : i = cols.length := by have : ¬ (i : Int) < cols.length := by simpa using hc
                                         omega
        subst hil
        refine Wc.exit ⟨l, c6, ?_, rfl, by simp only [Fs, Int.natCast_zero, go_sem, ti3, ti9, ti77, ti4, ti35, ti105, ti48, ti23, ti45, ti69, ti109, ti107, hF], ho.adv (n := 1)⟩
        by_cases h0 : cols.length = 0
        · rw [hi0 h0, ← hU]
          have : cols = [] := List.length_eq_zero_iff.1 h0
          subst this; rfl
        · rw [hUi (by omega), List.drop_of_length_le (by simp)]
          unfold unpkG; rfl
    · exact ⟨0, [], .nils, rfl, by omega, rfl, by simp only [Fs, Int.natCast_zero, go_sem, ti3, ti9, ti77, ti4, ti35, ti105, ti48, ti23, ti45, ti69, ti109, ti107], .inl ⟨rfl, .inl rfl, by simp only [St.nx_put, St.nx_adv]; repeat (first | exact OA.mono h (by omega) | refine OA.newB ?_ (by omega) rfl | refine OA.advB ?_)⟩, fun _ => rfl, fun h => by omega⟩
  rintro ⟨e, ds, s1⟩ ⟨l, c6, hUl, rfl, hF, ho⟩
  simp only [Fs] at hF ho
  refine Wc.seq ?_
  refine Wc.reg fun K hK => ?_; simp only [go_sem, ti3, ti9, ti77, ti4, ti35, ti105, ti48, ti23, ti45, ti69, ti109, ti107, hF]; refine hK _ _ ?_; clear hK K
  exact Wc.ret (show bodyQ E0 Tryz.f81 K .ret _ from Op.ret [.tmp 4, .tmp 5] [.c c6, .c (.p (.bool true))] rfl rfl (by simp only [resultsD, go_sem, ti3, ti9, ti77, ti4, ti35, ti105, ti48, ti23, ti45, ti69, ti109, ti107, hF]) (hK1 l hUl _ c6 (ho.adv (n := 3))))
end Go.Proofs.YtafaoldmemcigaaGreat.Ab
