/- A part of the proof: an evaluator of the code, its contracts, the law. No condition. -/
import Derived.Test.YtedcnhbblgmdnaaGreatT19
import Derived.Test.YtedcnhbblgmdnaaGreatT22
namespace Go.Proofs.YtedcnhbblgmdnaaGreat.Ab
set_option maxHeartbeats 4000000
set_option linter.unusedSimpArgs false
set_option linter.unusedVariables false
/-! ### coarser buckets -/
def grpB (k : Int) (l : List Bkt) : List Bkt := l.foldl (appB k) []
def reB (g : Int → Int) (b : Bkt) : Bkt := { b with st := g b.st }
def coarB (k w : Int) (l : List Bkt) : List Bkt := grpB k (l.map (reB fun s => s.tdiv w * w))
theorem minI_assoc (a b c : Int) : minI (minI a b) c = minI a (minI b c) := by
  unfold minI
  (repeat' split) <;> omega
theorem maxI_assoc (a b c : Int) : maxI (maxI a b) c = maxI a (maxI b c) := by
  unfold maxI
  (repeat' split) <;> omega
theorem joinB_assoc (k : Int) (a b c : Bkt) : joinB k (joinB k a b) c = joinB k a (joinB k b c) := by
  unfold joinB
  simp only [Bkt.mk.injEq, true_and]
  refine ⟨by omega, by omega, minI_assoc .., maxI_assoc .., ?_⟩
  by_cases hk : k = 2
  · simp only [if_pos hk]; omega
  · simp only [if_neg hk]
theorem joinB_re (k : Int) (g : Int → Int) (a b : Bkt) : reB g (joinB k a b) = joinB k (reB g a) (reB g b) := rfl
theorem appB_app {k : Int} (X : List Bkt) {a b : Bkt} (h : a.st = b.st) : appB k (appB k X a) b = appB k X (joinB k a b) := by
  rcases List.eq_nil_or_concat X with rfl | ⟨Y, c, rfl⟩
  · have e1 : appB k [] a = [] ++ [a] := rfl
    rw [e1, appB_same h]; rfl
  · rw [List.concat_eq_append]
    by_cases hc : c.st = a.st
    · rw [appB_same hc, appB_same (by show c.st = b.st; omega), appB_same (by show c.st = a.st; exact hc), joinB_assoc]
    · have hl : ∀ x : Bkt, ∀ q : Bkt, q.st = a.st → (Y ++ [c]).getLast? = some x → x.st ≠ q.st := fun x q hq hx => by
        simp only [List.getLast?_append, List.getLast?_singleton, Option.some_or, Option.some.injEq] at hx
        subst hx; rw [hq]; exact hc
      rw [appB_new (fun x hx => hl x a rfl hx), appB_new (fun x hx => hl x (joinB k a b) rfl hx), appB_same h]
theorem grpB_snoc (k : Int) (l : List Bkt) (b : Bkt) : grpB k (l ++ [b]) = appB k (grpB k l) b := by
  unfold grpB
  rw [List.foldl_append]; rfl
/-- To group what is grouped already. -/
theorem grpB_re (k : Int) (g : Int → Int) : ∀ (n : Nat) (l : List Bkt), l.length = n → ∀ X, ((grpB k l).map (reB g)).foldl (appB k) X = (l.map (reB g)).foldl (appB k) X
  | 0, l, hn, X => by
    have : l = [] := List.length_eq_zero_iff.1 hn
    subst this; rfl
  | n + 1, l, hn, X => by
    have hne : l ≠ [] := fun e => by rw [e] at hn; simp at hn
    obtain ⟨q, b, rfl⟩ : ∃ q y, l = q ++ [y] := ⟨l.dropLast, l.getLast hne, (List.dropLast_concat_getLast hne).symm⟩
    have ih := grpB_re k g n q (by simpa using hn) X
    rw [grpB_snoc, List.map_append, List.foldl_append, ← ih]
    rcases List.eq_nil_or_concat (grpB k q) with h0 | ⟨D, a, h0⟩
    · rw [h0]; rfl
    · rw [h0, List.concat_eq_append]
      by_cases hc : a.st = b.st
      · rw [appB_same hc, List.map_append, List.foldl_append, List.map_append, List.foldl_append]
        simp only [List.map_cons, List.map_nil, List.foldl_cons, List.foldl_nil]
        rw [appB_app _ (by show g a.st = g b.st; rw [hc]), joinB_re]
      · rw [appB_new (fun x hx => by
          simp only [List.getLast?_append, List.getLast?_singleton, Option.some_or, Option.some.injEq] at hx
          subst hx; exact hc), List.map_append (l₂ := [b]), List.foldl_append]
theorem ofB_grp (k w : Int) (l : List I2) : ofB k w l = grpB k (l.map (single w)) := by
  unfold ofB grpB
  rw [List.foldl_map]
/-- Buckets behind others are put there one by one. -/
theorem app_of (k w : Int) (a b : List I2) : ofB k w (a ++ b) = (ofB k w b).foldl (appB k) (ofB k w a) := by
  have h := grpB_re k (fun s => s) _ (b.map (single w)) rfl (ofB k w a)
  have hid : ∀ l : List Bkt, l.map (reB fun s => s) = l := fun l => List.map_id l
  rw [hid, hid, ← ofB_grp] at h
  rw [h, List.foldl_map]
  unfold ofB
  rw [List.foldl_append]
end Go.Proofs.YtedcnhbblgmdnaaGreat.Ab
namespace Go.Proofs.YtedcnhbblgmdnaaGreat.Ab
set_option maxHeartbeats 4000000
set_option linter.unusedSimpArgs false
set_option linter.unusedVariables false
/-! ### merged buckets -/
/-- Two buckets of the same start. -/
def meetB (k : Int) (a b : Bkt) : Option Bkt := if b.lt < a.ft then some (joinB k b a) else if a.lt < b.ft then some (joinB k a b) else none
def mergeB (k : Int) : List Bkt → List Bkt → Option (List Bkt)
  | [], y => some y
  | a :: x, [] => some (a :: x)
  | a :: x, b :: y => if a.st < b.st then (mergeB k x (b :: y)).map (a :: ·) else if b.st < a.st then (mergeB k (a :: x) y).map (b :: ·) else match meetB k a b with
    | none => none
    | some c => (mergeB k x y).map (c :: ·)
termination_by x y => x.length + y.length
def putB (k : Int) : List Bkt → Bkt → Option (List Bkt)
  | [], b => some [b]
  | c :: l, b => if c.st < b.st then (putB k l b).map (c :: ·) else if c.st ≠ b.st then some (b :: c :: l) else if c.lt < b.ft then some (joinB k c b :: l) else if b.lt < c.ft then some (joinB k b c :: l) else none
def putsB (k : Int) : List Bkt → List Bkt → Option (List Bkt)
  | x, [] => some x
  | x, b :: y => match putB k x b with
    | none => none
    | some z => putsB k z y
def AscB (l : List Bkt) : Prop := l.Pairwise (fun a b => a.st < b.st)
def OrdB (l : List Bkt) : Prop := ∀ b ∈ l, b.ft ≤ b.lt
theorem putsB_cons (k : Int) (a : Bkt) : ∀ (y x : List Bkt), (∀ z ∈ y, a.st < z.st) → putsB k (a :: x) y = (putsB k x y).map (a :: ·)
  | [], x, _ => rfl
  | b :: y, x, h => by
    have h1 := h b (by simp)
    rw [putsB, putsB, putB, if_pos h1]
    cases putB k x b with
    | none => rfl
    | some z => simp only [Option.map_some]; exact putsB_cons k a y z fun z hz => h z (by simp [hz])
theorem putsB_nil (k : Int) : ∀ (y : List Bkt), AscB y → putsB k [] y = some y
  | [], _ => rfl
  | b :: y, h => by
    obtain ⟨h1, h2⟩ := List.pairwise_cons.1 h
    rw [putsB, putB]
    simp only
    rw [putsB_cons k b y [] h1, putsB_nil k y h2]
    rfl
theorem meetB_st {k : Int} {a b c : Bkt} (h : meetB k a b = some c) (e : a.st = b.st) : c.st = b.st := by
  unfold meetB at h
  split at h
  · simp only [Option.some.injEq] at h; subst h; rfl
  · split at h
    · simp only [Option.some.injEq] at h; subst h; exact e
    · cases h
/-- Two lists merged from their heads: the one's buckets put into the other. -/
theorem mergeB_puts (k : Int) : ∀ (n : Nat) (x y : List Bkt), x.length + y.length ≤ n → AscB x → AscB y → OrdB x → OrdB y → mergeB k x y = putsB k x y
  | n, [], y, _, _, hy, _, _ => by rw [mergeB, putsB_nil k y hy]
  | n, a :: x, [], _, _, _, _, _ => by rw [mergeB, putsB]
  | 0, a :: x, b :: y, hn, _, _, _, _ => by simp only [List.length_cons] at hn; omega
  | n + 1, a :: x, b :: y, hn, hx, hy, ox, oy => by
    obtain ⟨x1, x2⟩ := List.pairwise_cons.1 hx
    obtain ⟨y1, y2⟩ := List.pairwise_cons.1 hy
    have ox' : OrdB x := fun q hq => ox q (by simp [hq])
    have oy' : OrdB y := fun q hq => oy q (by simp [hq])
    simp only [List.length_cons] at hn
    rw [mergeB]
    by_cases h1 : a.st < b.st
    · rw [if_pos h1, mergeB_puts k n x (b :: y) (by simp only [List.length_cons]; omega) x2 hy ox' oy]
      exact (putsB_cons k a (b :: y) x fun z hz => by
        rcases List.mem_cons.1 hz with rfl | hz
        · exact h1
        · have := y1 z hz; omega).symm
    · rw [if_neg h1, putsB, putB, if_neg h1]
      by_cases h2 : b.st < a.st
      · rw [if_pos h2, if_pos (by omega : a.st ≠ b.st), mergeB_puts k n (a :: x) y (by simp only [List.length_cons]; omega) hx y2 ox oy']
        exact (putsB_cons k b y (a :: x) y1).symm
      · have he : a.st = b.st := by omega
        rw [if_neg h2, if_neg (fun h => h he)]
        have hm : (if a.lt < b.ft then some (joinB k a b :: x) else if b.lt < a.ft then some (joinB k b a :: x) else none) = (meetB k a b).map (· :: x) := by
          have oa := ox a (by simp)
          have ob := oy b (by simp)
          unfold meetB
          by_cases g1 : b.lt < a.ft
          · rw [if_pos g1, if_pos g1, if_neg (by omega)]; rfl
          · rw [if_neg g1, if_neg g1]
            by_cases g2 : a.lt < b.ft
            · rw [if_pos g2, if_pos g2]; rfl
            · rw [if_neg g2, if_neg g2]; rfl
        rw [hm]
        cases hmt : meetB k a b with
        | none => rfl
        | some c =>
          simp only [Option.map_some]
          rw [mergeB_puts k n x y (by omega) x2 y2 ox' oy']
          exact (putsB_cons k c y x fun z hz => by rw [meetB_st hmt he]; exact y1 z hz).symm
theorem meetB_comm (k : Int) {a b : Bkt} (ha : a.ft ≤ a.lt) (hb : b.ft ≤ b.lt) : meetB k a b = meetB k b a := by
  unfold meetB
  by_cases g1 : b.lt < a.ft
  · rw [if_pos g1, if_neg (by omega), if_pos g1]
  · rw [if_neg g1]
    by_cases g2 : a.lt < b.ft
    · rw [if_pos g2, if_pos g2]
    · rw [if_neg g2, if_neg g2, if_neg g1]
theorem mergeB_nil (k : Int) (x : List Bkt) : mergeB k x [] = some x := by
  cases x <;> rw [mergeB]
theorem mergeB_comm (k : Int) : ∀ (n : Nat) (x y : List Bkt), x.length + y.length ≤ n → OrdB x → OrdB y → mergeB k x y = mergeB k y x
  | n, [], y, _, _, _ => by rw [mergeB, mergeB_nil]
  | n, a :: x, [], _, _, _ => by rw [mergeB_nil, mergeB]
  | 0, a :: x, b :: y, hn, _, _ => by simp only [List.length_cons] at hn; omega
  | n + 1, a :: x, b :: y, hn, ox, oy => by
    have ox' : OrdB x := fun q hq => ox q (by simp [hq])
    have oy' : OrdB y := fun q hq => oy q (by simp [hq])
    simp only [List.length_cons] at hn
    rw [mergeB, mergeB]
    by_cases h1 : a.st < b.st
    · rw [if_pos h1, if_neg (by omega : ¬ b.st < a.st), if_pos h1, mergeB_comm k n x (b :: y) (by simp only [List.length_cons]; omega) ox' oy]
    · rw [if_neg h1]
      by_cases h2 : b.st < a.st
      · rw [if_pos h2, if_pos h2, mergeB_comm k n (a :: x) y (by simp only [List.length_cons]; omega) ox oy']
      · rw [if_neg h2, if_neg h2, if_neg h1, meetB_comm k (ox a (by simp)) (oy b (by simp)), mergeB_comm k n x y (by omega) ox' oy']
theorem appB_cons (k : Int) (a : Bkt) {z : List Bkt} (hz : z ≠ []) (b : Bkt) : appB k (a :: z) b = a :: appB k z b := by
  obtain ⟨q, c, rfl⟩ : ∃ q y, z = q ++ [y] := ⟨z.dropLast, z.getLast hz, (List.dropLast_concat_getLast hz).symm⟩
  have e1 : ∀ q : List Bkt, (q ++ [c]).getLast? = some c := fun q => by simp
  by_cases h : c.st = b.st
  · rw [appB_same h, ← List.cons_append, appB_same h]; rfl
  · rw [appB_new (acc := q ++ [c]) (fun x hx => by rw [e1] at hx; cases hx; exact h), appB_new (acc := a :: (q ++ [c])) (fun x hx => by rw [← List.cons_append, e1] at hx; cases hx; exact h)]; rfl
theorem appB_ne (k : Int) (z : List Bkt) (b : Bkt) : appB k z b ≠ [] := by
  unfold appB
  split
  · simp
  · split <;> simp
theorem apps_cons (k : Int) (a : Bkt) : ∀ (y z : List Bkt), z ≠ [] → y.foldl (appB k) (a :: z) = a :: y.foldl (appB k) z
  | [], z, _ => rfl
  | b :: y, z, hz => by
    simp only [List.foldl_cons]
    rw [appB_cons k a hz, apps_cons k a y _ (appB_ne k z b)]
theorem apps_asc (k : Int) (c : Bkt) : ∀ (y : List Bkt), AscB (c :: y) → y.foldl (appB k) [c] = c :: y
  | [], _ => rfl
  | b :: y, h => by
    obtain ⟨h1, h2⟩ := List.pairwise_cons.1 h
    simp only [List.foldl_cons]
    have e : appB k [c] b = c :: [b] := by
      have := h1 b (by simp)
      exact appB_new fun x hx => by simp at hx; subst hx; omega
    rw [e, apps_cons k c y [b] (by simp), apps_asc k b y h2]
/-- Buckets merged with later ones. -/
theorem mergeB_late (k : Int) : ∀ (x y : List Bkt), AscB x → AscB y → OrdB x → OrdB y → (∀ a ∈ x, ∀ b ∈ y, a.st ≤ b.st ∧ a.lt < b.ft) → mergeB k x y = some (y.foldl (appB k) x)
  | [], [], _, _, _, _, _ => by rw [mergeB]; rfl
  | [], b :: y, _, hy, _, _, _ => by
    rw [mergeB]
    simp only [List.foldl_cons]
    have e : appB k [] b = [b] := rfl
    rw [e, apps_asc k b y hy]
  | a :: x, [], _, _, _, _, _ => by rw [mergeB]; rfl
  | [a], b :: y, hx, hy, ox, oy, h => by
    obtain ⟨h1, h2⟩ := h a (by simp) b (by simp)
    rw [mergeB]
    simp only [List.foldl_cons]
    by_cases g : a.st < b.st
    · rw [if_pos g, mergeB]
      have e : appB k [a] b = a :: [b] := appB_new fun x hx => by simp at hx; subst hx; omega
      rw [e, apps_cons k a y [b] (by simp), apps_asc k b y hy]; rfl
    · have oa := ox a (by simp)
      have ob := oy b (by simp)
      have he : a.st = b.st := by omega
      have hm : meetB k a b = some (joinB k a b) := by
        unfold meetB
        rw [if_neg (by omega), if_pos h2]
      rw [if_neg g, if_neg (by omega), hm]
      simp only
      rw [mergeB]
      have e : appB k [a] b = [joinB k a b] := by
        have := appB_same (k := k) (acc := []) he
        exact this
      obtain ⟨y1, y2⟩ := List.pairwise_cons.1 hy
      rw [e, apps_asc k (joinB k a b) y (List.pairwise_cons.2 ⟨fun z hz => by have := y1 z hz; show a.st < z.st; omega, y2⟩)]; rfl
  | a :: a2 :: x, b :: y, hx, hy, ox, oy, h => by
    obtain ⟨x1, x2⟩ := List.pairwise_cons.1 hx
    have g1 := x1 a2 (by simp)
    have g2 := (h a2 (by simp) b (by simp)).1
    rw [mergeB, if_pos (by omega), mergeB_late k (a2 :: x) (b :: y) x2 hy (fun q hq => ox q (by simp [hq])) oy (fun p hp => h p (by simp [hp])), apps_cons k a (b :: y) (a2 :: x) (by simp)]
    rfl
end Go.Proofs.YtedcnhbblgmdnaaGreat.Ab
namespace Go.Proofs.YtedcnhbblgmdnaaGreat.Ab
set_option maxHeartbeats 4000000
set_option linter.unusedSimpArgs false
set_option linter.unusedVariables false
/-! ### the buckets of samples: their order -/
theorem startOf_mono {w t u : Int} (hw : 1 ≤ w) (ht : 1 ≤ t) (h : t ≤ u) : startOf w t ≤ startOf w u := by
  unfold startOf
  rw [Int.tdiv_eq_ediv_of_nonneg (by omega), Int.tdiv_eq_ediv_of_nonneg (by omega)]
  exact Int.mul_le_mul_of_nonneg_right (Int.ediv_le_ediv (by omega) (by omega)) (by omega)
theorem ofB_snoc (k w : Int) (q : List I2) (z : I2) : ofB k w (q ++ [z]) = appB k (ofB k w q) (single w z) := by
  unfold ofB
  rw [List.foldl_append]; rfl
/-- A bucket of samples begins with one of them and ends with one. -/
def SpanB (w : Int) (l : List I2) (a : Bkt) : Prop := ∃ x ∈ l, ∃ y ∈ l, a.ft = x.1 ∧ a.lt = y.1 ∧ x.1 ≤ y.1 ∧ a.st = startOf w x.1 ∧ a.st = startOf w y.1
theorem SpanB.more {w : Int} {l m : List I2} {a : Bkt} (h : SpanB w l a) (hs : ∀ x ∈ l, x ∈ m) : SpanB w m a := by
  obtain ⟨x, hx, y, hy, h⟩ := h
  exact ⟨x, hs x hx, y, hs y hy, h⟩
theorem ofB_inv {k w : Int} (hw : 1 ≤ w) : ∀ (n : Nat) (l : List I2), l.length = n → l.Pairwise (fun a b => a.1 < b.1) → (∀ x ∈ l, 1 ≤ x.1) → AscB (ofB k w l) ∧ ∀ a ∈ ofB k w l, SpanB w l a
  | 0, l, hn, _, _ => by
    have : l = [] := List.length_eq_zero_iff.1 hn
    subst this
    exact ⟨List.Pairwise.nil, fun a ha => by cases ha⟩
  | n + 1, l, hn, hs, hb => by
    have hne : l ≠ [] := fun e => by rw [e] at hn; simp at hn
    obtain ⟨q, z, rfl⟩ : ∃ q y, l = q ++ [y] := ⟨l.dropLast, l.getLast hne, (List.dropLast_concat_getLast hne).symm⟩
    obtain ⟨s1, _, s3⟩ := List.pairwise_append.1 hs
    obtain ⟨ih1, ih2⟩ := ofB_inv (k := k) hw n q (by simpa using hn) s1 (fun x hx => hb x (by simp [hx]))
    have hz := hb z (by simp)
    have hst : ∀ a ∈ ofB k w q, a.st ≤ startOf w z.1 := fun a ha => by
      obtain ⟨x, hx, y, hy, _, _, _, _, e⟩ := ih2 a ha
      rw [e]
      exact startOf_mono hw (hb y (by simp [hy])) (by have := s3 y hy z (by simp); omega)
    have hsz : SpanB w (q ++ [z]) (single w z) := ⟨z, by simp, z, by simp, rfl, rfl, Int.le_refl _, rfl, rfl⟩
    rw [ofB_snoc]
    rcases List.eq_nil_or_concat (ofB k w q) with h0 | ⟨D, a, h0⟩
    · rw [h0]
      have e : appB k [] (single w z) = [single w z] := rfl
      rw [e]
      exact ⟨List.pairwise_singleton .., fun a ha => by rw [List.mem_singleton.1 ha]; exact hsz⟩
    · rw [List.concat_eq_append] at h0
      rw [h0] at ih1 ih2 hst ⊢
      obtain ⟨p1, _, p3⟩ := List.pairwise_append.1 ih1
      by_cases hc : a.st = (single w z).st
      · rw [appB_same hc]
        refine ⟨List.pairwise_append.2 ⟨p1, List.pairwise_singleton .., fun x hx y hy => ?_⟩, fun b hb' => ?_⟩
        · rw [List.mem_singleton.1 hy]; exact p3 x hx a (by simp)
        · rcases List.mem_append.1 hb' with hb' | hb'
          · exact (ih2 b (by simp [hb'])).more fun x hx => by simp [hx]
          · rw [List.mem_singleton.1 hb']
            obtain ⟨x, hx, y, hy, e1, e2, e3, e4, e5⟩ := ih2 a (by simp)
            exact ⟨x, by simp [hx], z, by simp, e1, rfl, by have := s3 x hx z (by simp); omega, e4, hc⟩
      · rw [appB_new (fun x hx => by
          simp only [List.getLast?_append, List.getLast?_singleton, Option.some_or, Option.some.injEq] at hx
          subst hx; exact hc)]
        refine ⟨List.pairwise_append.2 ⟨ih1, List.pairwise_singleton .., fun x hx y hy => ?_⟩, fun b hb' => ?_⟩
        · rw [List.mem_singleton.1 hy]
          have ha := hst a (by simp)
          have hc' : a.st ≠ startOf w z.1 := hc
          show x.st < startOf w z.1
          rcases List.mem_append.1 hx with hx | hx
          · have := p3 x hx a (by simp); omega
          · rw [List.mem_singleton.1 hx]; omega
        · rcases List.mem_append.1 hb' with hb' | hb'
          · exact (ih2 b hb').more fun x hx => by simp [hx]
          · rw [List.mem_singleton.1 hb']; exact hsz
/-- The buckets of samples up to a time, merged with those of later ones, in either order. -/
theorem merge_parts {k w : Int} (hw : 1 ≤ w) {A B : List I2} (hs : (A ++ B).Pairwise (fun a b => a.1 < b.1)) (hb : ∀ x ∈ A ++ B, 1 ≤ x.1) :
    mergeB k (ofB k w A) (ofB k w B) = some (ofB k w (A ++ B)) ∧ mergeB k (ofB k w B) (ofB k w A) = some (ofB k w (A ++ B)) := by
  obtain ⟨s1, s2, s3⟩ := List.pairwise_append.1 hs
  obtain ⟨a1, a2⟩ := ofB_inv (k := k) hw _ A rfl s1 (fun x hx => hb x (by simp [hx]))
  obtain ⟨b1, b2⟩ := ofB_inv (k := k) hw _ B rfl s2 (fun x hx => hb x (by simp [hx]))
  have oA : OrdB (ofB k w A) := fun a ha => by obtain ⟨x, _, y, _, e1, e2, e3, _⟩ := a2 a ha; omega
  have oB : OrdB (ofB k w B) := fun a ha => by obtain ⟨x, _, y, _, e1, e2, e3, _⟩ := b2 a ha; omega
  have hm := mergeB_late k (ofB k w A) (ofB k w B) a1 b1 oA oB (fun a ha b hb' => by
    obtain ⟨x, hx, y, hy, e1, e2, e3, e4, e5⟩ := a2 a ha
    obtain ⟨x', hx', y', hy', f1, f2, f3, f4, f5⟩ := b2 b hb'
    have hlt := s3 y hy x' hx'
    refine ⟨?_, by omega⟩
    rw [e5, f4]
    exact startOf_mono hw (hb y (by simp [hy])) (by omega))
  rw [app_of]
  exact ⟨hm, by rw [mergeB_comm k _ _ _ (Nat.le_refl _) oB oA]; exact hm⟩
/-- A list in ascending order, cut at a time. -/
theorem filt_app (t : Int) : ∀ (l : List I2), l.Pairwise (fun a b => a.1 < b.1) → l.filter (fun x => decide (x.1 ≤ t)) ++ l.filter (fun x => !decide (x.1 ≤ t)) = l
  | [], _ => rfl
  | x :: r, h => by
    obtain ⟨h1, h2⟩ := List.pairwise_cons.1 h
    by_cases hx : x.1 ≤ t
    · rw [List.filter_cons_of_pos (by simpa using hx), List.filter_cons_of_neg (by simpa using hx), List.cons_append, filt_app t r h2]
    · have e : r.filter (fun x => decide (x.1 ≤ t)) = [] := List.filter_eq_nil_iff.2 fun y hy => by have := h1 y hy; simp; omega
      have e2 : r.filter (fun x => !decide (x.1 ≤ t)) = r := List.filter_eq_self.2 fun y hy => by have := h1 y hy; simp; omega
      rw [List.filter_cons_of_neg (by simpa using hx), List.filter_cons_of_pos (by simpa using hx), e, e2]; rfl
end Go.Proofs.YtedcnhbblgmdnaaGreat.Ab
namespace Go.Proofs.YtedcnhbblgmdnaaGreat.Ab
set_option maxHeartbeats 4000000
set_option linter.unusedSimpArgs false
set_option linter.unusedVariables false
/-! ### the samples of each bucket -/
def inB (st w : Int) (y : I2) : Bool := decide (st < y.1) && decide (y.1 ≤ st + w)
end Go.Proofs.YtedcnhbblgmdnaaGreat.Ab
namespace Go.Proofs.YtedcnhbblgmdnaaGreat.Ab
set_option maxHeartbeats 4000000
set_option linter.unusedSimpArgs false
set_option linter.unusedVariables false
/-! ### the buckets of valid samples are valid -/
structure GoodB (k n : Int) (b : Bkt) : Prop where
  c1 : 1 ≤ b.c
  c2 : b.c ≤ n
  eq : b.ft = b.lt ↔ b.c = 1
  f1 : b.mn ≤ b.f
  f2 : b.f ≤ b.mx
  l1 : b.mn ≤ b.l
  l2 : b.l ≤ b.mx
  lo : -1099511627776 ≤ b.mn
  hi : b.mx ≤ 1099511627776
  pos : k = 2 → 0 ≤ b.mn
  s1 : b.c * b.mn ≤ b.s
  s2 : b.s ≤ b.c * b.mx
  i0 : 0 ≤ b.inc
  i1 : b.inc ≤ (b.c - 1) * 1099511627776
  ik : k ≠ 2 → b.inc = 0
  one : b.c = 1 → b.mn = b.mx
def okS (k : Int) (x : I2) : Prop := (1 ≤ x.1 ∧ x.1 ≤ 1099511627776) ∧ (-1099511627776 ≤ x.2 ∧ x.2 ≤ 1099511627776) ∧ (k = 2 → 0 ≤ x.2)
theorem GoodB.single {k w : Int} {x : I2} (h : okS k x) : GoodB k 1 (single w x) := by
  obtain ⟨_, ⟨h1, h2⟩, h3⟩ := h
  exact ⟨Int.le_refl _, Int.le_refl _, ⟨fun _ => rfl, fun _ => rfl⟩, Int.le_refl _, Int.le_refl _, Int.le_refl _, Int.le_refl _, h1, h2, h3, by show 1 * x.2 ≤ x.2; omega, by show x.2 ≤ 1 * x.2; omega,
    Int.le_refl _, by show (0 : Int) ≤ (1 - 1) * 1099511627776; omega, fun _ => rfl, fun _ => rfl⟩
theorem GoodB.more {k n m : Int} {b : Bkt} (h : GoodB k n b) (hm : n ≤ m) : GoodB k m b := { h with c2 := by have := h.c2; omega }
theorem minI_le (a b : Int) : minI a b ≤ a ∧ minI a b ≤ b ∧ (minI a b = a ∨ minI a b = b) := by unfold minI; split <;> omega
theorem le_maxI (a b : Int) : a ≤ maxI a b ∧ b ≤ maxI a b ∧ (maxI a b = a ∨ maxI a b = b) := by unfold maxI; split <;> omega
theorem GoodB.join {k w n : Int} {a : Bkt} {x : I2} (h : GoodB k n a) (hx : okS k x) (hlt : a.ft ≤ a.lt) (hl : a.lt < x.1) : GoodB k (n + 1) (joinB k a (Go.Proofs.YtedcnhbblgmdnaaGreat.Ab.single w x)) := by
  obtain ⟨_, ⟨h1, h2⟩, h3⟩ := hx
  obtain ⟨m1, m2, m3⟩ := minI_le a.mn x.2
  obtain ⟨n1, n2, n3⟩ := le_maxI a.mx x.2
  have c1 := h.c1; have c2 := h.c2; have f1 := h.f1; have f2 := h.f2; have lo := h.lo; have hi := h.hi; have l1 := h.l1; have l2 := h.l2
  have a1 := Int.mul_le_mul_of_nonneg_left m1 (show 0 ≤ a.c by omega)
  have a2 := Int.mul_le_mul_of_nonneg_left n1 (show 0 ≤ a.c by omega)
  have s1 := h.s1; have s2 := h.s2; have i0 := h.i0; have i1 := h.i1
  refine ⟨?_, ?_, ?_, ?_, ?_, ?_, ?_, ?_, ?_, ?_, ?_, ?_, ?_, ?_, ?_, ?_⟩ <;> simp only [joinB, Go.Proofs.YtedcnhbblgmdnaaGreat.Ab.single]
  · omega
  · omega
  · constructor <;> intro hh <;> omega
  · omega
  · omega
  · exact m2
  · exact n2
  · rcases m3 with e | e <;> omega
  · rcases n3 with e | e <;> omega
  · intro hk; have := h.pos hk; have := h3 hk; rcases m3 with e | e <;> omega
  · rw [Int.add_mul, Int.one_mul]; omega
  · rw [Int.add_mul, Int.one_mul]; omega
  · split
    · rename_i hk
      have := h3 hk
      unfold stepV; split <;> omega
    · exact i0
  · split
    · rename_i hk
      have := h3 hk
      have := h.pos hk
      unfold stepV; split <;> omega
    · omega
  · intro hk; rw [if_neg hk]; exact h.ik hk
  · intro hh; omega
theorem ofB_good {k w : Int} (hw : 1 ≤ w) : ∀ (n : Nat) (l : List I2), l.length = n → l.Pairwise (fun a b => a.1 < b.1) → (∀ x ∈ l, okS k x) → ∀ a ∈ ofB k w l, GoodB k n a
  | 0, l, hn, _, _, a, ha => by
    have : l = [] := List.length_eq_zero_iff.1 hn
    subst this; cases ha
  | n + 1, l, hn, hs, hb, b, hb' => by
    have hne : l ≠ [] := fun e => by rw [e] at hn; simp at hn
    obtain ⟨q, z, rfl⟩ : ∃ q y, l = q ++ [y] := ⟨l.dropLast, l.getLast hne, (List.dropLast_concat_getLast hne).symm⟩
    obtain ⟨s1, _, s3⟩ := List.pairwise_append.1 hs
    have hq : q.length = n := by simpa using hn
    have ih := ofB_good (k := k) hw n q hq s1 (fun x hx => hb x (by simp [hx]))
    obtain ⟨_, sp⟩ := ofB_inv (k := k) hw n q hq s1 (fun x hx => (hb x (by simp [hx])).1.1)
    have hz := hb z (by simp)
    rw [ofB_snoc] at hb'
    rcases List.eq_nil_or_concat (ofB k w q) with h0 | ⟨D, a, h0⟩
    · rw [h0] at hb'
      have e : appB k [] (single w z) = [single w z] := rfl
      rw [e] at hb'
      rw [List.mem_singleton.1 hb']
      exact (GoodB.single hz).more (by omega)
    · rw [List.concat_eq_append] at h0
      rw [h0] at ih sp hb'
      by_cases hc : a.st = (single w z).st
      · rw [appB_same hc] at hb'
        rcases List.mem_append.1 hb' with hb' | hb'
        · exact (ih b (by simp [hb'])).more (by omega)
        · rw [List.mem_singleton.1 hb']
          obtain ⟨x, hx, y, hy, e1, e2, e3, e4, e5⟩ := sp a (by simp)
          exact GoodB.join (ih a (by simp)) hz (by omega) (by rw [e2]; exact s3 y hy z (by simp))
      · rw [appB_new (fun x hx => by
          simp only [List.getLast?_append, List.getLast?_singleton, Option.some_or, Option.some.injEq] at hx
          subst hx; exact hc)] at hb'
        rcases List.mem_append.1 hb' with hb' | hb'
        · exact (ih b hb').more (by omega)
        · rw [List.mem_singleton.1 hb']
          exact (GoodB.single hz).more (by omega)
theorem GoodB.bkA {k w : Int} {b : Bkt} (h : GoodB k 2000 b) (hk : k = 1 ∨ k = 2) (t1 : b.st < b.ft) (t2 : b.ft ≤ b.lt) (t3 : b.lt ≤ b.st + w) (t4 : b.lt ≤ 1099511627776) : bkA k w b = true := by
  have c1 := h.c1; have c2 := h.c2; have f1 := h.f1; have f2 := h.f2; have lo := h.lo; have hi := h.hi; have l1 := h.l1; have l2 := h.l2
  have s1 := h.s1; have s2 := h.s2; have i0 := h.i0; have i1 := h.i1
  have ok : ∀ v, b.mn ≤ v → v ≤ b.mx → okV k v = true := fun v v1 v2 => by
    unfold okV isVl
    have : (k == 2 && decide (v < 0)) = false := by
      rcases hk with rfl | rfl
      · rfl
      · have := h.pos rfl; simp; omega
    rw [this]; simp; omega
  have b1 : bkA1 w b = false := by unfold bkA1; simp; omega
  have b2 : bkA2 b = false := by
    unfold bkA2
    have : (b.ft == b.lt) = (b.c == 1) := by
      rw [Bool.eq_iff_iff]; simp [h.eq]
    rw [this]; simp; omega
  have b3 : bkA3 k b = true := by
    unfold bkA3
    rw [ok b.mn (by omega) (by omega), ok b.mx (by omega) (by omega), ok b.f (by omega) (by omega), ok b.l (by omega) (by omega)]; rfl
  have b4 : bkA4 b = false := by unfold bkA4; simp; omega
  have b5 : bkA5 b = false := by unfold bkA5; simp; omega
  have b6 : bkA6 k b = false := by
    unfold bkA6
    have : ((k == 1) && (b.inc != 0)) = false := by
      rcases hk with rfl | rfl
      · simp [h.ik (by omega)]
      · rfl
    rw [this]; simp; omega
  have b7 : bkA7 b = true := by
    unfold bkA7
    by_cases hc : 1 < b.c
    · simp [hc]
    · have hc1 : b.c = 1 := by omega
      have := h.one hc1
      rw [hc1] at s1 s2
      simp; right; omega
  unfold Go.Proofs.YtedcnhbblgmdnaaGreat.Ab.bkA
  rw [b1, b2, b3, b4, b5, b6, b7]; rfl
theorem bksOK_all {k w : Int} : ∀ (l : List Bkt) (p : Int), AscB l → (∀ b ∈ l, p < b.st ∧ b.st < 1099511627776 ∧ b.st.tmod w = 0 ∧ bkA k w b = true) → bksOK k w p l = true
  | [], _, _, _ => rfl
  | b :: r, p, h, hb => by
    obtain ⟨h1, h2⟩ := List.pairwise_cons.1 h
    obtain ⟨g1, g2, g3, g4⟩ := hb b (by simp)
    rw [bksOK, g4, bksOK_all r b.st h2 (fun x hx => ⟨h1 x hx, (hb x (by simp [hx])).2⟩), g3]
    simp; omega
/-- The rollup of valid samples is valid. -/
theorem of_valid {lb : List Lb} {k w : Int} {l : List I2} (hlb : lckA lb = 0) (hk : k = 1 ∨ k = 2) (hw : 1 ≤ w ∧ w ≤ 1099511627776) (hne : l ≠ []) (hn : l.length ≤ 2000) (hs : l.Pairwise (fun a b => a.1 < b.1)) (hb : ∀ x ∈ l, okS k x) : rlpOK ⟨lb, k, w, ofB k w l⟩ = true := by
  obtain ⟨ha, sp⟩ := ofB_inv (k := k) hw.1 _ l rfl hs (fun x hx => (hb x hx).1.1)
  have gd := ofB_good (k := k) hw.1 _ l rfl hs hb
  have hlen : (ofB k w l).length ≤ l.length ∧ ofB k w l ≠ [] := by
    have hg : ∀ (q : List I2) (acc : List Bkt), (q.foldl (fun acc x => appB k acc (single w x)) acc).length ≤ acc.length + q.length ∧ (acc ≠ [] → q.foldl (fun acc x => appB k acc (single w x)) acc ≠ []) := by
      intro q
      induction q with
      | nil => intro acc; exact ⟨Nat.le_refl _, fun h => h⟩
      | cons x r ih =>
        intro acc
        obtain ⟨i1, i2⟩ := ih (appB k acc (single w x))
        have : (appB k acc (single w x)).length ≤ acc.length + 1 := by
          unfold appB
          split
          · simp
          · split <;> simp
        exact ⟨by simp only [List.foldl_cons, List.length_cons]; omega, fun _ => i2 (appB_ne k acc (single w x))⟩
    obtain ⟨x, r, rfl⟩ : ∃ x r, l = x :: r := by cases l with | nil => exact absurd rfl hne | cons x r => exact ⟨x, r, rfl⟩
    refine ⟨by have := (hg (x :: r) []).1; unfold ofB; simpa using this, ?_⟩
    unfold ofB
    simp only [List.foldl_cons]
    exact (hg r _).2 (appB_ne k [] (single w x))
  have hbk : bksOK k w (-1) (ofB k w l) = true := bksOK_all _ _ ha fun b hb' => by
    obtain ⟨x, hx, y, hy, e1, e2, e3, e4, e5⟩ := sp b hb'
    have bx := hb x hx
    have bY := hb y hy
    have gx := start_le hw.1 bx.1.1
    have gy := start_le hw.1 bY.1.1
    refine ⟨by omega, by have := bx.1.2; omega, ?_, ?_⟩
    · rw [e4]; unfold startOf; exact Int.mul_tmod_left ..
    · exact ((gd b hb').more (by omega)).bkA hk (by omega) (by omega) (by omega) (by have := bY.1.2; omega)
  unfold rlpOK
  rw [hbk, hlb]
  have h1 : ((k != 1) && (k != 2)) = false := by rcases hk with rfl | rfl <;> rfl
  rw [h1]
  have := hlen.2
  simp

  exact ⟨⟨hw, this⟩, by omega⟩
end Go.Proofs.YtedcnhbblgmdnaaGreat.Ab
namespace Go.Proofs.YtedcnhbblgmdnaaGreat.Ab
set_option maxHeartbeats 4000000
set_option linter.unusedSimpArgs false
set_option linter.unusedVariables false
/-! ### the reference's examination of a bucket -/
def rfA (w : Int) (b : Bkt) : Bool := decide (b.st < 0) || decide (1099511627776 ≤ b.st) || (b.st.tmod w != 0) || decide (b.ft ≤ b.st) || decide (b.lt < b.ft) || decide (b.st + w < b.lt) || decide (1099511627776 < b.lt)
def btw (n lo hi : Int) : Bool := decide (lo ≤ n) && decide (n ≤ hi)
def rfB (b : Bkt) : Bool := !btw b.c 1 2000 || ((b.ft == b.lt) != (b.c == 1))
def rfC (k : Int) (b : Bkt) : Bool := decide (b.mn < (if k = 2 then 0 else -1099511627776)) || decide (1099511627776 < b.mx) || !btw b.f b.mn b.mx || !btw b.l b.mn b.mx
def rfD (k : Int) (b : Bkt) : Bool := !btw b.s (b.c * b.mn) (b.c * b.mx) || decide (b.inc < 0) || ((k == 1) && (b.inc != 0)) || decide ((b.c - 1) * 1099511627776 < b.inc)
def rfE (b : Bkt) : Bool := decide (1 < b.c) || ((b.mn == b.mx) && (b.inc == 0))
def rfBk (k w : Int) (b : Bkt) : Bool := !rfA w b && (!rfB b && (!rfC k b && (!rfD k b && rfE b)))
def rfBks (k w : Int) : Int → List Bkt → Bool
  | _, [] => true
  | p, b :: r => !(!rfBk k w b || decide (b.st ≤ p)) && rfBks k w b.st r
/-! ### too many samples in a bucket -/
def bigB (l : List Bkt) : Bool := l.any fun b => decide (2000 < b.c)
end Go.Proofs.YtedcnhbblgmdnaaGreat.Ab
namespace Go.Proofs.YtedcnhbblgmdnaaGreat.Ab
set_option maxHeartbeats 8000000
set_option maxRecDepth 10000
set_option linter.unusedSimpArgs false
set_option linter.unusedVariables false
end Go.Proofs.YtedcnhbblgmdnaaGreat.Ab
namespace Go.Proofs.YtedcnhbblgmdnaaGreat.Ab
set_option maxHeartbeats 8000000
set_option maxRecDepth 10000
set_option linter.unusedSimpArgs false
set_option linter.unusedVariables false
end Go.Proofs.YtedcnhbblgmdnaaGreat.Ab
namespace Go.Proofs.YtedcnhbblgmdnaaGreat.Ab
set_option maxHeartbeats 8000000
set_option maxRecDepth 10000
set_option linter.unusedSimpArgs false
set_option linter.unusedVariables false
/-- The zone of a rollup. -/
def rlpZ (l : List Bkt) : Zo := match l with
  | [] => Zo.none
  | b :: r => ⟨(b :: r).length, b.ft, ((b :: r).getLast (by simp)).lt, (b :: r).foldl (fun m y => minI m y.mn) b.mn, (b :: r).foldl (fun m y => maxI m y.mx) b.mx⟩
def encR (x : Rlp) : D := if rlpOK x = false then .tup [noCh, .c (.p (pI 1))] else match packE x.bs bktCols with
  | none => .tup [noCh, .c (.p (pI 4))]
  | some ss => finE 6 (.lst x.lb.length (x.lb.flatMap lbP)) (rlpZ x.bs).pd (jn (appV (appV [] x.k).1 x.w).1 ss)
theorem thenD_ret0 {K : Fr → Prop} {Q : Ex → Fr → Prop} {y : Fr} (h : Q .ret y) : thenD K Q .ret y := h
theorem o98 : E0.opn 98 = true := by kernel_rfl
theorem x98 : E0.xt 98 = none := by kernel_rfl
theorem o99 : E0.opn 99 = false := by kernel_rfl
theorem x99 : E0.xt 99 = none := by kernel_rfl
theorem rlpOK_some {x : Rlp} (h : rlpOK x = true) : (x.k = 1 ∨ x.k = 2) ∧ (1 ≤ x.w ∧ x.w ≤ 1099511627776) ∧ x.bs ≠ [] ∧ x.bs.length ≤ 2000 := by
  unfold rlpOK at h
  simp only [Bool.and_eq_true, Bool.not_eq_true', Bool.or_eq_false_iff, decide_eq_false_iff_not, bne_eq_false_iff_eq, Bool.and_eq_false_iff, beq_eq_false_iff_ne] at h
  obtain ⟨⟨_, h1⟩, ⟨⟨⟨h2, h3⟩, h4⟩, h5⟩, _⟩ := h
  refine ⟨by rcases h1 with h | h; exact .inl (by simpa using h); exact .inr (by simpa using h), by omega, fun e => by rw [e] at h4; simp at h4, by omega⟩
theorem Own.purS {s : St} {es n : Nat} {c : C} {cs : List Pd} (h : Own s es (.v (.c c)) n cs) : Go.Proofs.YtedcnhbblgmdnaaGreat.Ab.purS c = some (.lst n cs) := by
  obtain ⟨hl, ⟨h1, h2⟩ | ⟨id, h1, _⟩⟩ := h
  · simp only [D.v.injEq, V.c.injEq] at h1
    subst h1 h2
    have : cs = [] := List.length_eq_zero_iff.1 (by simpa using hl)
    subst this; rfl
  · simp only [D.v.injEq, V.c.injEq] at h1
    subst h1; rfl
theorem purC_S {s : St} {c : C} {x : Pd} (h : purS c = some x) : purC s c = some (x, s) := by
  cases c <;> first | (simp only [purS] at h; cases h; rfl) | cases h
theorem purC_p (s : St) (x : Pd) : purC s (.p x) = some (x, s) := rfl
theorem purVs_5 {c : C} {y : Pd} (h : purS c = some y) (s : St) {p0 p1 p2 : Pd} {z0 z1 z2 z3 z4 z5 z6 z7 z8 z9 z10 z11 z12 : Pd} : purVs s [.c (.p p0), .c (.p p1), .agg [.p z0, .p z1, .p z2, .p z3, .p z4, .p z5, .p z6, .p z7, .p z8, .p z9, .p z10, .p z11, .p z12], .c (.p p2), .c c] =
    some ([.c (.p p0), .c (.p p1), .agg [.p z0, .p z1, .p z2, .p z3, .p z4, .p z5, .p z6, .p z7, .p z8, .p z9, .p z10, .p z11, .p z12], .c (.p p2), .c (.p y)], s) := by
  simp only [purVs, purV, purCs, purC_p, purC_S h, List.map_cons, List.map_nil]
theorem purNo (s : St) : purD s (packD [noCh, .c (.p (pI 4))]) = some (.tup [noCh, .c (.p (pI 4))], s) := rfl
theorem purCh (s : St) (n : Nat) (cs : List Pd) (z : Zo) (d : List UInt8) : purD s (packD [chV 6 (.lst n cs) z.pd d, .c (.p (pI 0))]) = some (.tup [chV 6 (.lst n cs) z.pd d, .c (.p (pI 0))], s) := rfl
/-- 15: EncodeRollup -/
theorem pf51 (x : Rlp) (hlb : x.lb.length < 2^40) (hls : ∀ y ∈ x.lb, y.1.length < 2^50 ∧ y.2.length < 2^50) : Pf E0 51 [.agg (x.pd.map .p)] (encR x) := by
  have hfl : (x.bs.flatMap Bkt.pd).length = x.bs.length * 10 := flat_len (k := 10) (fun _ => rfl) _
  have p46 := pf97 x hlb hls
  unfold encR
  refine Pf.body (fn := Tryz.f51) (by kernel_rfl) rfl ?_; simp only [List.map_cons, List.map_nil, List.cons_append, List.nil_append, List.length_cons, List.length_nil, Tryz.ntmps51, List.replicate, Nat.reduceSub, Nat.reduceAdd]
  refine Wc.seq ?_
  refine Wc.reg fun K hK => ?_; simp only [go_sem, ti3, ti4, ti9, ti22, ti94, ti96, ti32, ti29, ti31, ti41, ti158, ti155]; refine hK _ _ ?_; clear hK K
  cases hok : rlpOK x with
  | false =>
    rw [hok] at p46
    rw [if_pos rfl]
    refine Wc.seq (Wc.seq ?_)
    refine Wc.reg fun K hK => ?_; simp only [go_sem, ti3, ti4, ti9, ti22, ti94, ti96, ti32, ti29, ti31, ti41, ti158, ti155]
    refine wpCall.pf p46 (by kernel_rfl) (by kernel_rfl) rfl rfl ?_
    simp only [go_sem, ti3, ti4, ti9, ti22, ti94, ti96, ti32, ti29, ti31, ti41, ti158, ti155]; refine hK _ _ ?_; clear hK K
    refine Wc.cond (t := true) (by simp only [go_sem, ti3, ti4, ti9, ti22, ti94, ti96, ti32, ti29, ti31, ti41, ti158, ti155]) (fun _ => ?_) (fun hc => by cases hc)
    refine Wc.seq ?_
    refine Wc.reg fun K hK => ?_; simp only [go_sem, ti3, ti4, ti9, ti22, ti94, ti96, ti32, ti29, ti31, ti41, ti158, ti155]; refine hK _ _ ?_; clear hK K
    exact Wc.ret (Pf.ret [.cell 2 96, .tmp 3] [.agg ([.p (pI 0), .nils] ++ zz0.map .p ++ [.p (.str [])]), .c (.p (pI 1))] rfl rfl (by simp only [resultsD, go_sem, ti3, ti4, ti9, ti22, ti94, ti96, ti32, ti29, ti31, ti41, ti158, ti155]) rfl)
  | true =>
    rw [hok] at p46
    obtain ⟨hk, hw, hne, hbl⟩ := rlpOK_some hok
    rw [if_neg (by decide)]
    generalize hP : packE x.bs bktCols = P
    refine Wc.seqR (fun y => y.ds = [] ∧ Fs y.e 90 [(1, .v (.c (.ref 0 0))), (2, .v (.c (.ref 1 0)))] ∧ OA y.s.nx y.s [] [(1, .cells ([.p (pI 0), .nils] ++ zz0.map .p ++ [.p (.str [])]) false), (0, .cells (x.pd.map .p) false)]) ?_ ?_
    · refine Wc.seq ?_
      refine Wc.reg fun K hK => ?_; simp only [go_sem, ti3, ti4, ti9, ti22, ti94, ti96, ti32, ti29, ti31, ti41, ti158, ti155]
      refine wpCall.pf p46 (by kernel_rfl) (by kernel_rfl) rfl rfl ?_
      simp only [go_sem, ti3, ti4, ti9, ti22, ti94, ti96, ti32, ti29, ti31, ti41, ti158, ti155]; refine hK _ _ ?_; clear hK K
      refine Wc.cond (t := false) (by simp only [go_sem, ti3, ti4, ti9, ti22, ti94, ti96, ti32, ti29, ti31, ti41, ti158, ti155]) (fun hc => by cases hc) (fun _ => Wc.skip ?_)
      exact ⟨rfl, by simp only [Fs, Int.natCast_zero, go_sem, ti3, ti4, ti9, ti22, ti94, ti96, ti32, ti29, ti31, ti41, ti158, ti155], by (try simp only [St.nx_put, St.nx_adv]); repeat (first | exact OA.mono s00_oa (by omega) | refine OA.newB ?_ (by omega) rfl | refine OA.advB ?_)⟩
    rintro ⟨e, ds, s1⟩ ⟨rfl, hF, ho⟩
    simp only [Fs] at hF ho
    have g0 := ho.at_ (0, .cells (x.pd.map .p) false) (by simp)
    have g1 := ho.at_ (1, .cells ([.p (pI 0), .nils] ++ zz0.map .p ++ [.p (.str [])]) false) (by simp)
    simp only [List.map_cons, List.map_nil, List.cons_append, List.nil_append] at g0 g1
    refine Wc.seq ?_
    refine Wc.regT fun K hK => ?_; simp only [go_sem, ti3, ti4, ti9, ti22, ti94, ti96, ti32, ti29, ti31, ti41, ti158, ti155, hF, g0, o98, x98, o99, x99, List.all_nil, Option.isNone_none]
    refine wpCall.pf pf99 x99 o99 rfl rfl ?_
    simp only [go_sem, ti3, ti4, ti9, ti22, ti94, ti96, ti32, ti29, ti31, ti41, ti158, ti155, hF, g0, o98, x98, o99, x99, List.all_nil, Option.isNone_none]
    refine call98 (x := .v (.c (.p (.lst x.bs.length (x.bs.flatMap Bkt.pd))))) (l := x.bs) (cols := bktCols) (ho.adv.mono (by simp only [St.nx_adv]; omega)) (by omega) ⟨_, rfl⟩ (by simp only [go_sem, ti3, ti4, ti9, ti22, ti94, ti96, ti32, ti29, ti31, ti41, ti158, ti155]) (fun j hj => ixA ti29 rfl ti41 hj hfl (by decide)) bktCols_ok (by decide) (fun hN s' ho' hnx => ?_) (fun ss hS x' s' ho' hnx => ?_)
    · rw [hP] at hN
      subst hN
      simp only [go_sem, ti3, ti4, ti9, ti22, ti94, ti96, ti32, ti29, ti31, ti41, ti158, ti155, hF, g0, o98, x98, o99, x99, List.all_nil, Option.isNone_none]
      refine ⟨by rfl, hK _ _ ?_⟩
      have g1' := ho'.at_ (1, .cells ([.p (pI 0), .nils] ++ zz0.map .p ++ [.p (.str [])]) false) (by simp)
      simp only [List.map_cons, List.map_nil, List.cons_append, List.nil_append] at g1'
      refine Wc.seq (Wc.seq ?_)
      refine Wc.reg fun K hK => ?_; simp only [go_sem, ti3, ti4, ti9, ti22, ti94, ti96, ti32, ti29, ti31, ti41, ti158, ti155, hF]; refine hK _ _ ?_; clear hK K
      refine Wc.cond (t := true) (by simp only [go_sem, ti3, ti4, ti9, ti22, ti94, ti96, ti32, ti29, ti31, ti41, ti158, ti155, hF]) (fun _ => ?_) (fun hc => by cases hc)
      refine Wc.seq ?_
      refine Wc.reg fun K hK => ?_; simp only [go_sem, ti3, ti4, ti9, ti22, ti94, ti96, ti32, ti29, ti31, ti41, ti158, ti155, hF, g1']; refine hK _ _ ?_; clear hK K
      refine Wc.ret (thenD_ret0 ?_)
      exact Pf.ret [.cell 2 96, .tmp 3] [.agg ([.p (pI 0), .nils] ++ zz0.map .p ++ [.p (.str [])]), .c (.p (pI 4))] rfl rfl (by simp only [resultsD, go_sem, ti3, ti4, ti9, ti22, ti94, ti96, ti32, ti29, ti31, ti41, ti158, ti155, hF, g1']) rfl
    · rw [hP] at hS
      subst hS
      simp only [go_sem, ti3, ti4, ti9, ti22, ti94, ti96, ti32, ti29, ti31, ti41, ti158, ti155, hF, g0, o98, x98, o99, x99, List.all_nil, Option.isNone_none]
      refine ⟨by rfl, hK _ _ ?_⟩
      clear hK K
      obtain ⟨b0, r0, hbs⟩ : ∃ b0 r0, x.bs = b0 :: r0 := by
        cases hx : x.bs with
        | nil => exact absurd hx hne
        | cons a r => exact ⟨a, r, rfl⟩
      have hlen0 : 0 < x.bs.length := by rw [hbs]; simp
      refine Wc.seq (Wc.seq ?_)
      refine Wc.reg fun K hK => ?_; simp only [go_sem, ti3, ti4, ti9, ti22, ti94, ti96, ti32, ti29, ti31, ti41, ti158, ti155, hF]; refine hK _ _ ?_; clear hK K
      refine Wc.cond (t := false) (by simp only [go_sem, ti3, ti4, ti9, ti22, ti94, ti96, ti32, ti29, ti31, ti41, ti158, ti155, hF]) (fun hc => by cases hc) (fun _ => Wc.skip ?_)
      have g0' := ho'.at_ (0, .cells (x.pd.map .p) false) (by simp)
      simp only [List.map_cons, List.map_nil] at g0'
      have hix0 : indexAddrD E0 29 (.v (.c (.p (.lst x.bs.length (x.bs.flatMap Bkt.pd))))) (.v (.c (.p (.int .i64 0)))) = some (.v (.c (.rp (x.bs.flatMap Bkt.pd) 0))) := ixA ti29 rfl ti41 (j := 0) hlen0 hfl (by decide)
      have hca0 := rpA (off := 0) (cs := x.bs.flatMap Bkt.pd) (pre := b0.pd) (rest := r0.flatMap Bkt.pd) (by rw [hbs]; rfl) (by omega)
      refine Wc.seqA (fun y => ∃ k6, y.ds = [] ∧ Fs y.e 90 [(1, .v (.c (.ref 0 0))), (2, .v (.c (.ref 1 0))), (4, .v (.c x')), (6, .v (.c (.ref k6 0)))] ∧ OA y.s.nx y.s [(1, .v (.c x'), ss.length, ss.map .str)] [(k6, .cells (b0.pd.map .p) false), (1, .cells ([.p (pI 0), .nils] ++ zz0.map .p ++ [.p (.str [])]) false), (0, .cells (x.pd.map .p) false)]) ?_ ?_
      · refine Wc.reg fun K hK => ?_; simp only [go_sem, ti3, ti4, ti9, ti22, ti94, ti96, ti32, ti29, ti31, ti41, ti158, ti155, hF, g0', hix0, hca0]; refine hK _ _ ?_; clear hK K
        exact ⟨rfl, s'.nx + 6, rfl, by simp only [Fs, Int.natCast_zero, go_sem, ti3, ti4, ti9, ti22, ti94, ti96, ti32, ti29, ti31, ti41, ti158, ti155, hF], by (try simp only [St.nx_put, St.nx_adv]); repeat (first | exact OA.mono ho' (by omega) | refine OA.newB ?_ (by omega) rfl | refine OA.advB ?_)⟩
      clear hF ho ho' g0 g0' g1 hnx e s1 s'
      rintro ⟨e, ds, s1⟩ ⟨k6, rfl, hF, ho⟩
      simp only [Fs] at hF ho
      have g0 := ho.at_ (0, .cells (x.pd.map .p) false) (by simp)
      have g6 := ho.at_ (k6, .cells (b0.pd.map .p) false) (by simp)
      simp only [List.map_cons, List.map_nil] at g0 g6
      obtain ⟨bl, hbl1⟩ : ∃ bl, x.bs[x.bs.length - 1]? = some bl := ⟨x.bs[x.bs.length - 1], List.getElem?_eq_getElem (by omega)⟩
      have hixl := ixA ti29 rfl ti41 (j := x.bs.length - 1) (m := x.bs.length) (cs := x.bs.flatMap Bkt.pd) (by omega) hfl (by decide)
      have hcl : ∀ s, cellsAt s (.v (.c (.rp (x.bs.flatMap Bkt.pd) ((x.bs.length - 1) * 10 + 8)))) = some (([pI bl.lt, pI bl.inc] ++ (x.bs.drop (x.bs.length - 1 + 1)).flatMap Bkt.pd).map .p) := fun s => by
        refine rpA ?_ (by rw [hfl]; omega) s
        rw [← List.drop_drop, drop_flat (f := Bkt.pd) (k := 10) (fun _ => rfl) hbl1]
        rfl
      have w1 : IntKind.i64.wrap ((x.bs.length : Int) - 1) = ((x.bs.length - 1 : Nat) : Int) := by rw [wi64]; omega
      refine Wc.seqA (fun y => ∃ k7, y.ds = [] ∧ Fs y.e 90 [(1, .v (.c (.ref 0 0))), (2, .v (.c (.ref 1 0))), (4, .v (.c x')), (7, .v (.c (.ref k7 0)))] ∧ OA y.s.nx y.s [(1, .v (.c x'), ss.length, ss.map .str)] [(k7, .cells [.p (pI x.bs.length), .p (pI b0.ft), .p (pI bl.lt), .p (pI b0.mn), .p (pI b0.mx), .p (.int .u32 0), .p (.int .u32 0), .p (.int .u32 0), .p (.int .u32 0), .p (.int .u32 0), .p (.int .u32 0), .p (.int .u32 0), .p (.int .u32 0)] false), (1, .cells ([.p (pI 0), .nils] ++ zz0.map .p ++ [.p (.str [])]) false), (0, .cells (x.pd.map .p) false)]) ?_ ?_
      · refine Wc.regT fun K hK => ?_; simp only [go_sem, ti3, ti4, ti9, ti22, ti94, ti96, ti32, ti29, ti31, ti41, ti158, ti155, hF, g0, g6, hixl, hcl, w1]; refine ⟨by rw [trOK_eq]; rfl, hK _ _ ?_⟩; clear hK K
        have hs := ho.sub (L1 := [(1, .v (.c x'), ss.length, ss.map .str)]) (M1 := [(1, .cells ([.p (pI 0), .nils] ++ zz0.map .p ++ [.p (.str [])]) false), (0, .cells (x.pd.map .p) false)]) (List.Sublist.refl _) (List.sublist_cons_self _ _)
        exact ⟨rfl, s1.nx + 19, rfl, by simp only [Fs, Int.natCast_zero, go_sem, ti3, ti4, ti9, ti22, ti94, ti96, ti32, ti29, ti31, ti41, ti158, ti155, hF], by (try simp only [St.nx_put, St.nx_adv]); repeat (first | exact OA.mono hs (by omega) | refine OA.newB ?_ (by omega) rfl | refine OA.advB ?_)⟩
      clear hF ho g0 g6 e s1
      rintro ⟨e, ds, s1⟩ ⟨k7, rfl, hF, ho⟩
      simp only [Fs] at hF ho
      have g0 := ho.at_ (0, .cells (x.pd.map .p) false) (by simp)
      simp only [List.map_cons, List.map_nil] at g0
      refine Wc.seqA (fun y => y.ds = [] ∧ Fs y.e 90 [(1, .v (.c (.ref 0 0))), (2, .v (.c (.ref 1 0))), (4, .v (.c x')), (7, .v (.c (.ref k7 0)))] ∧ OA y.s.nx y.s [(1, .v (.c x'), ss.length, ss.map .str)] [(k7, .cells [.p (pI x.bs.length), .p (pI b0.ft), .p (pI bl.lt), .p (pI (x.bs.foldl (fun m y => minI m y.mn) b0.mn)), .p (pI (x.bs.foldl (fun m y => maxI m y.mx) b0.mx)), .p (.int .u32 0), .p (.int .u32 0), .p (.int .u32 0), .p (.int .u32 0), .p (.int .u32 0), .p (.int .u32 0), .p (.int .u32 0), .p (.int .u32 0)] false), (1, .cells ([.p (pI 0), .nils] ++ zz0.map .p ++ [.p (.str [])]) false), (0, .cells (x.pd.map .p) false)]) ?_ ?_
      · refine Wc.seq ?_
        refine Wc.reg fun K hK => ?_; simp only [go_sem, ti3, ti4, ti9, ti22, ti94, ti96, ti32, ti29, ti31, ti41, ti158, ti155, hF, g0, Int.natCast_zero]; refine hK _ _ ?_; clear hK K
        refine Wc.block (Wc.loop (fun c y => ∃ i : Nat, c = x.bs.length - i ∧ i ≤ x.bs.length ∧ y.ds = [] ∧ Fs y.e 90 [(1, .v (.c (.ref 0 0))), (2, .v (.c (.ref 1 0))), (4, .v (.c x')), (7, .v (.c (.ref k7 0))), (50, P' (.lst x.bs.length (x.bs.flatMap Bkt.pd))), (51, P' (pI x.bs.length)), (52, P' (pI i))] ∧ OA y.s.nx y.s [(1, .v (.c x'), ss.length, ss.map .str)] [(k7, .cells [.p (pI x.bs.length), .p (pI b0.ft), .p (pI bl.lt), .p (pI ((x.bs.take i).foldl (fun m y => minI m y.mn) b0.mn)), .p (pI ((x.bs.take i).foldl (fun m y => maxI m y.mx) b0.mx)), .p (.int .u32 0), .p (.int .u32 0), .p (.int .u32 0), .p (.int .u32 0), .p (.int .u32 0), .p (.int .u32 0), .p (.int .u32 0), .p (.int .u32 0)] false), (1, .cells ([.p (pI 0), .nils] ++ zz0.map .p ++ [.p (.str [])]) false), (0, .cells (x.pd.map .p) false)]) ?_ (k := x.bs.length) ?_)
        · clear hF ho g0 e s1
          rintro c ⟨e, ds, s1⟩ ⟨i, rfl, hi, rfl, hF, ho⟩
          simp only [Fs] at hF ho
          refine Wc.seq ?_
          refine Wc.reg fun K hK => ?_; simp only [go_sem, ti3, ti4, ti9, ti22, ti94, ti96, ti32, ti29, ti31, ti41, ti158, ti155, hF]; refine hK _ _ ?_; clear hK K
          refine Wc.seq (Wc.cond (t := decide ((i : Int) < x.bs.length)) (by simp only [go_sem, ti3, ti4, ti9, ti22, ti94, ti96, ti32, ti29, ti31, ti41, ti158, ti155, hF]) (fun hc => ?_) (fun hc => ?_))
          · have hil : i < x.bs.length := by have := of_decide_eq_true hc; omega
            obtain ⟨b, hb⟩ : ∃ b, x.bs[i]? = some b := ⟨x.bs[i], List.getElem?_eq_getElem hil⟩
            have hix := ixA ti29 rfl ti41 (j := i) (m := x.bs.length) (cs := x.bs.flatMap Bkt.pd) hil hfl (by decide)
            have hca := rpA (off := i * 10) (drop_flat (f := Bkt.pd) (k := 10) (fun _ => rfl) hb) (by rw [hfl]; omega)
            have e1 : (x.bs.take (i + 1)).foldl (fun m y => minI m y.mn) b0.mn = minI ((x.bs.take i).foldl (fun m y => minI m y.mn) b0.mn) b.mn := by rw [take_snoc hb, List.foldl_append]; rfl
            have e2 : (x.bs.take (i + 1)).foldl (fun m y => maxI m y.mx) b0.mx = maxI ((x.bs.take i).foldl (fun m y => maxI m y.mx) b0.mx) b.mx := by rw [take_snoc hb, List.foldl_append]; rfl
            generalize hm1 : (x.bs.take i).foldl (fun m y => minI m y.mn) b0.mn = m1 at *
            generalize hm2 : (x.bs.take i).foldl (fun m y => maxI m y.mx) b0.mx = m2 at *
            refine Wc.skip (Wc.seq (Wc.block (Wc.seqA (fun y => ∃ k9, y.ds = [] ∧ Fs y.e 90 [(1, .v (.c (.ref 0 0))), (2, .v (.c (.ref 1 0))), (4, .v (.c x')), (7, .v (.c (.ref k7 0))), (50, P' (.lst x.bs.length (x.bs.flatMap Bkt.pd))), (51, P' (pI x.bs.length)), (52, P' (pI i)), (9, .v (.c (.ref k9 0)))] ∧ OA y.s.nx y.s [(1, .v (.c x'), ss.length, ss.map .str)] [(k9, .cells (b.pd.map .p) false), (k7, .cells [.p (pI x.bs.length), .p (pI b0.ft), .p (pI bl.lt), .p (pI m1), .p (pI m2), .p (.int .u32 0), .p (.int .u32 0), .p (.int .u32 0), .p (.int .u32 0), .p (.int .u32 0), .p (.int .u32 0), .p (.int .u32 0), .p (.int .u32 0)] false), (1, .cells ([.p (pI 0), .nils] ++ zz0.map .p ++ [.p (.str [])]) false), (0, .cells (x.pd.map .p) false)]) ?_ ?_)))
            · refine Wc.reg fun K hK => ?_; simp only [go_sem, ti3, ti4, ti9, ti22, ti94, ti96, ti32, ti29, ti31, ti41, ti158, ti155, hF, hix, hca]; refine hK _ _ ?_; clear hK K
              exact ⟨rfl, s1.nx + 3, rfl, by simp only [Fs, Int.natCast_zero, go_sem, ti3, ti4, ti9, ti22, ti94, ti96, ti32, ti29, ti31, ti41, ti158, ti155, hF], by (try simp only [St.nx_put, St.nx_adv]); repeat (first | exact OA.mono ho (by omega) | refine OA.newB ?_ (by omega) rfl | refine OA.advB ?_)⟩
            clear hF ho e s1
            rintro ⟨e, ds, s1⟩ ⟨k9, rfl, hF, ho⟩
            simp only [Fs] at hF ho
            have g9 := ho.at_ (k9, .cells (b.pd.map .p) false) (by simp)
            have g7 := ho.at_ (k7, .cells [.p (pI x.bs.length), .p (pI b0.ft), .p (pI bl.lt), .p (pI m1), .p (pI m2), .p (.int .u32 0), .p (.int .u32 0), .p (.int .u32 0), .p (.int .u32 0), .p (.int .u32 0), .p (.int .u32 0), .p (.int .u32 0), .p (.int .u32 0)] false) (by simp)
            simp only [List.map_cons, List.map_nil] at g9 g7
            have hne79 : (k7 = k9) = False := by
              have := ho.dism
              simp only [List.pairwise_cons, List.mem_cons] at this
              have := this.1 (k7, .cells [.p (pI x.bs.length), .p (pI b0.ft), .p (pI bl.lt), .p (pI m1), .p (pI m2), .p (.int .u32 0), .p (.int .u32 0), .p (.int .u32 0), .p (.int .u32 0), .p (.int .u32 0), .p (.int .u32 0), .p (.int .u32 0), .p (.int .u32 0)] false) (.inl rfl)
              simp only [eq_iff_iff, iff_false]
              exact fun e => this e.symm
            refine Wc.seq ?_
            refine Wc.reg fun K hK => ?_; simp only [go_sem, ti3, ti4, ti9, ti22, ti94, ti96, ti32, ti29, ti31, ti41, ti158, ti155, hF, g9, g7, foldO]; refine hK _ _ ?_; clear hK K
            refine Wc.reg fun K hK => ?_; simp only [go_sem, ti3, ti4, ti9, ti22, ti94, ti96, ti32, ti29, ti31, ti41, ti158, ti155, hF, g9, g7, foldO, hne79]; refine hK _ _ ?_; clear hK K
            refine Wc.reg fun K hK => ?_; simp only [go_sem, ti3, ti4, ti9, ti22, ti94, ti96, ti32, ti29, ti31, ti41, ti158, ti155, hF, i64n i (by omega)]; refine hK _ _ ?_; clear hK K
            refine ⟨x.bs.length - (i + 1), by omega, i + 1, rfl, by omega, rfl, by simp only [Fs, Int.natCast_zero, go_sem, ti3, ti4, ti9, ti22, ti94, ti96, ti32, ti29, ti31, ti41, ti158, ti155, hF], ?_⟩
            rw [e1, e2]
            have hs := ho.sub (L1 := [(1, .v (.c x'), ss.length, ss.map .str)]) (M1 := [(k7, .cells [.p (pI x.bs.length), .p (pI b0.ft), .p (pI bl.lt), .p (pI m1), .p (pI m2), .p (.int .u32 0), .p (.int .u32 0), .p (.int .u32 0), .p (.int .u32 0), .p (.int .u32 0), .p (.int .u32 0), .p (.int .u32 0), .p (.int .u32 0)] false), (1, .cells ([.p (pI 0), .nils] ++ zz0.map .p ++ [.p (.str [])]) false), (0, .cells (x.pd.map .p) false)]) (List.Sublist.refl _) (List.sublist_cons_self _ _)
            simp only [St.nx_put, St.nx_adv]; (repeat refine OA.advB ?_); refine OA.ofS (M1 := []) (k := k7) ?_; repeat (first | exact ⟨_, OA.mono hs (by omega)⟩ | refine OAs.adv ?_ | refine OAs.put ?_)
          · have hil : i = x.bs.length := by have := of_decide_eq_false hc; omega
            subst hil
            rw [List.take_length] at ho
            exact Wc.exit ⟨rfl, rfl, by simp only [Fs, Int.natCast_zero, go_sem, ti3, ti4, ti9, ti22, ti94, ti96, ti32, ti29, ti31, ti41, ti158, ti155, hF], by (try simp only [St.nx_put, St.nx_adv]); repeat (first | exact OA.mono ho (by omega) | refine OA.newB ?_ (by omega) rfl | refine OA.advB ?_)⟩
        · exact ⟨0, rfl, by omega, rfl, by simp only [Fs, Int.natCast_zero, go_sem, ti3, ti4, ti9, ti22, ti94, ti96, ti32, ti29, ti31, ti41, ti158, ti155, hF], by (try simp only [St.nx_put, St.nx_adv]); repeat (first | exact OA.mono ho (by omega) | refine OA.newB ?_ (by omega) rfl | refine OA.advB ?_)⟩
      clear hF ho g0 e s1
      rintro ⟨e, ds, s1⟩ ⟨rfl, hF, ho⟩
      simp only [Fs] at hF ho
      have g0 := ho.at_ (0, .cells (x.pd.map .p) false) (by simp)
      have g1 := ho.at_ (1, .cells ([.p (pI 0), .nils] ++ zz0.map .p ++ [.p (.str [])]) false) (by simp)
      have g7 := ho.at_ (k7, .cells [.p (pI x.bs.length), .p (pI b0.ft), .p (pI bl.lt), .p (pI (x.bs.foldl (fun m y => minI m y.mn) b0.mn)), .p (pI (x.bs.foldl (fun m y => maxI m y.mx) b0.mx)), .p (.int .u32 0), .p (.int .u32 0), .p (.int .u32 0), .p (.int .u32 0), .p (.int .u32 0), .p (.int .u32 0), .p (.int .u32 0), .p (.int .u32 0)] false) (by simp)
      simp only [List.map_cons, List.map_nil, List.cons_append, List.nil_append] at g0 g1 g7
      have hpu := (ho.own _ (List.mem_cons_self ..)).purS
      have hz : rlpZ x.bs = ⟨x.bs.length, b0.ft, bl.lt, x.bs.foldl (fun m y => minI m y.mn) b0.mn, x.bs.foldl (fun m y => maxI m y.mx) b0.mx⟩ := by
        have hl : x.bs.getLast? = some bl := by rw [List.getLast?_eq_getElem?]; exact hbl1
        rw [hbs] at hl ⊢
        rw [List.getLast?_eq_some_getLast (by simp)] at hl
        simp only [Option.some.injEq] at hl
        simp only [rlpZ, hl]
      have hap : (appV (appV [] x.k).1 x.w).1.length ≤ 262144 := by
        have a1 : (appV [] x.k).1.length ≤ 10 := by
          unfold appV
          split
          · simp
          · rw [List.nil_append]; exact vb_len10 (by omega)
        unfold appV at a1 ⊢
        split
        · simp
        · simp only [List.length_append]
          have := vb_len10 (n := x.w.toNat) (by omega)
          omega
      have hpl : ∀ q ∈ ss, q.length ≤ 35184372088832 := by
        rw [packE_cols] at hP
        refine jn_pre hP fun c hc hc0 => ?_
        obtain ⟨cc, _, rfl⟩ := List.mem_map.1 hc
        have := encF_len hc0
        rw [List.length_map] at this
        omega
      have hsl := packE_len hP
      have p41 := pf101 6 x.lb.length (x.lb.flatMap lbP) (pI x.bs.length) (pI b0.ft) (pI bl.lt) (pI (x.bs.foldl (fun m y => minI m y.mn) b0.mn)) (pI (x.bs.foldl (fun m y => maxI m y.mx) b0.mx)) (.int .u32 0) (.int .u32 0) (.int .u32 0) (.int .u32 0) (.int .u32 0) (.int .u32 0) (.int .u32 0) (.int .u32 0) (appV (appV [] x.k).1 x.w).1 ss hap hpl (by have : bktCols.length = 10 := rfl; omega)
      rw [hz]
      have p49b := pf100 (appV [] x.k).1 x.w (by
        unfold appV
        split
        · simp
        · rw [List.nil_append]; have := vb_len10 (n := x.k.toNat) (by omega); simp only; omega)
      generalize appV (appV [] x.k).1 x.w = T2 at *
      refine Wc.seq ?_
      refine Wc.reg fun K hK => ?_; simp only [go_sem, ti3, ti4, ti9, ti22, ti94, ti96, ti32, ti29, ti31, ti41, ti158, ti155, hF, g0]
      refine wpCall.pf (pf100 [] x.k (by simp)) (by kernel_rfl) (by kernel_rfl) rfl rfl ?_
      simp only [go_sem, ti3, ti4, ti9, ti22, ti94, ti96, ti32, ti29, ti31, ti41, ti158, ti155, hF, g0]; refine hK _ _ ?_; clear hK K
      refine Wc.seq ?_
      refine Wc.reg fun K hK => ?_; simp only [go_sem, ti3, ti4, ti9, ti22, ti94, ti96, ti32, ti29, ti31, ti41, ti158, ti155, hF, g0]
      refine wpCall.pf p49b (by kernel_rfl) (by kernel_rfl) rfl rfl ?_
      simp only [go_sem, ti3, ti4, ti9, ti22, ti94, ti96, ti32, ti29, ti31, ti41, ti158, ti155, hF, g0]; refine hK _ _ ?_; clear hK K
      refine Wc.seq ?_
      cases hj : jn T2.1 ss with
      | none =>
        rw [hj] at p41
        simp only [finE, hj] at p41 ⊢
        refine Wc.reg fun K hK => ?_; simp only [go_sem, ti3, ti4, ti9, ti22, ti94, ti96, ti32, ti29, ti31, ti41, ti158, ti155, hF, g0, g7]
        refine wpCall.pf p41 (by kernel_rfl) (by kernel_rfl) rfl (purVs_5 hpu _) ?_
        simp only [go_sem, ti3, ti4, ti9, ti22, ti94, ti96, ti32, ti29, ti31, ti41, ti158, ti155, hF, g0, g1, g7]; refine hK _ _ ?_; clear hK K
        exact Wc.ret (Pf.ret [.cell 2 96, .tmp 3] [noCh, .c (.p (pI 4))] rfl rfl (by simp only [resultsD, go_sem, ti3, ti4, ti9, ti22, ti94, ti96, ti32, ti29, ti31, ti41, ti158, ti155, hF]; rfl) (purNo _))
      | some d =>
        rw [hj] at p41
        simp only [finE, hj] at p41 ⊢
        refine Wc.reg fun K hK => ?_; simp only [go_sem, ti3, ti4, ti9, ti22, ti94, ti96, ti32, ti29, ti31, ti41, ti158, ti155, hF, g0, g7]
        refine wpCall.pf p41 (by kernel_rfl) (by kernel_rfl) rfl (purVs_5 hpu _) ?_
        simp only [go_sem, ti3, ti4, ti9, ti22, ti94, ti96, ti32, ti29, ti31, ti41, ti158, ti155, hF, g0, g1, g7]; refine hK _ _ ?_; clear hK K
        exact Wc.ret (Pf.ret [.cell 2 96, .tmp 3] [chV 6 (.lst x.lb.length (x.lb.flatMap lbP)) (Zo.pd ⟨x.bs.length, b0.ft, bl.lt, x.bs.foldl (fun m y => minI m y.mn) b0.mn, x.bs.foldl (fun m y => maxI m y.mx) b0.mx⟩) d, .c (.p (pI 0))] rfl rfl (by simp only [resultsD, go_sem, ti3, ti4, ti9, ti22, ti94, ti96, ti32, ti29, ti31, ti41, ti158, ti155, hF]; rfl) (purCh _ _ _ _ _))
end Go.Proofs.YtedcnhbblgmdnaaGreat.Ab
