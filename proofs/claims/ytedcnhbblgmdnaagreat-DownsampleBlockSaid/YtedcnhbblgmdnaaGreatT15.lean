/- A part of the proof. -/
import Derived.Test.YtedcnhbblgmdnaaGreatT14
namespace Go.Proofs.YtedcnhbblgmdnaaGreat.Ab
set_option maxHeartbeats 4000000
set_option maxRecDepth 10000
set_option linter.unusedSimpArgs false
set_option linter.unusedVariables false
def inV (n : Int) : Bool := decide (-576460752303423488 ≤ n) && decide (n ≤ 576460752303423488)
def first1 : List Int → List UInt8
 | [] => []
 | x :: _ => vb (zz x)
def encV (l : List Int) : List UInt8 × Int := if 20000 < l.length then ([], 4) else if l.all inV then (vb l.length ++ first1 l ++ runE (diffs l), 0) else ([], 2)
theorem diffs_len : ∀ l : List Int, (diffs l).length = l.length - 1
 | [] => rfl
 | [x] => rfl
 | x :: y :: r => by have := diffs_len (y :: r); simp only [diffs, List.length_cons] at this ⊢; omega
theorem diffs_mem {a b : Int} : ∀ {l : List Int}, (∀ x ∈ l, a ≤ x ∧ x ≤ b) → ∀ d ∈ diffs l, a - b ≤ d ∧ d ≤ b - a
 | [], _, d, hd => by simp [diffs] at hd
 | [x], _, d, hd => by simp [diffs] at hd
 | x :: y :: r, h, d, hd => by
  simp only [diffs, List.mem_cons] at hd
  rcases hd with rfl | hd
  ·have h1 := h x (by simp)
   have h2 := h y (by simp)
   omega
  ·exact diffs_mem (fun z hz => h z (List.mem_cons_of_mem _ hz)) d hd
theorem runE_len : ∀ (n : Nat) (l : List Int), l.length ≤ n → l.all inR = true → l.length < 2^40 → (runE l).length ≤ 20 * l.length
 | _, [], _, _, _ => by simp [runE]
 | 0, x :: r, h, _, _ => by simp at h
 | n + 1, x :: r, h, hr, hb => by
  simp only [List.all_cons, Bool.and_eq_true] at hr
  rw [runE]
  have hd := (List.dropWhile_sublist (p := (· == x)) (l := r))
  have h0 := hd.length_le
  have ih := runE_len n (r.dropWhile (· == x)) (by simp at h; omega) (List.all_eq_true.2 fun z hz => List.all_eq_true.1 hr.2 z (hd.subset hz)) (by simp at hb; omega)
  have h1 := vb_len10 (n := zz x) (by have := zz_lt hr.1; omega)
  have h2 := vb_len10 (n := (r.takeWhile (· == x)).length + 1) (by have := (List.takeWhile_sublist (p := (· == x)) (l := r)).length_le; simp at hb; omega)
  simp only [List.length_append, List.length_cons]
  omega
theorem inV_R {n : Int} (h : inV n = true) : inR n = true := by simp [inV] at h; simp [inR]; omega
theorem inV_all {l : List Int} (h : l.all inV = true) : ∀ x ∈ l, -576460752303423488 ≤ x ∧ x ≤ 576460752303423488 := fun x hx => by
 have := List.all_eq_true.1 h x hx
 simpa [inV] using this
theorem pf197 (l : List Int) (hl : l.length < 2^40) : Pf E0 197 [.c (.p (.lst l.length (l.map pI)))] (.tup [.c (.p (.str (encV l).1)), .c (.p (.int .i64 (encV l).2))]) := by
 refine Pf.body (fn := Tryz.f197) (by kernel_rfl) rfl ?_; simp only [List.map_cons, List.map_nil, List.cons_append, List.nil_append, List.length_cons, List.length_nil, Tryz.ntmps197, List.replicate, Nat.reduceSub, Nat.reduceAdd]
 refine gS fun K F => ?_; simp only [go_sem]; apply F; clear F K
 refine Wc.seq (Wc.seq ?_)
 refine gR fun K F => ?_; simp only [go_sem]; apply F; clear F K
 refine Wc.cond (t := decide ((20000 : Int) < l.length)) rfl (fun hc => ?_) (fun hc => ?_)
 ·have hc' : (20000 : Int) < l.length := by simpa using hc
  have e : encV l = ([], 4) := by unfold encV; rw [if_pos (by omega)]
  refine gS fun K F => ?_; simp only [go_sem]; apply F; clear F K
  rw [e]
  exact Wc.ret (Pf.ret [.tmp 2, .tmp 3] [.c (.p (.str [])), .c (.p (.int .i64 4))] rfl rfl (by simp only [resultsD, go_sem]) rfl)
 have hc' : ¬ (20000 : Int) < l.length := by simpa using hc
 have e0 : encV l = if l.all inV then (vb l.length ++ first1 l ++ runE (diffs l), 0) else ([], 2) := by unfold encV; rw [if_neg (by omega)]
 have hvl := vb_len10 (n := l.length) (by omega)
 refine Wc.skip (Wc.seqR (fun y => l.all inV = true ∧ y.ds = [] ∧ y.e.length = 50 ∧ y.e.getD 0 .junk = P' (.lst l.length (l.map pI))) ?_ ?_)
 ·refine gS fun K F => ?_; simp only [go_sem]; apply F; clear F K
  refine Wc.block (Wc.loop (fun k y => ∃ (i : Nat), k = l.length - i ∧ i ≤ l.length ∧ y.ds = [] ∧ y.e.length = 50 ∧ y.e.getD 0 .junk = P' (.lst l.length (l.map pI)) ∧ y.e.getD 4 .junk = P' (.int .i64 i) ∧ (l.take i).all inV = true) ?_ (k := l.length) ?_)
  ·rintro k ⟨e, ds, s1⟩ ⟨i, rfl, hi, rfl, hlen, h0, h4, hall⟩
   simp only at hlen h0 h4
   refine Wc.seq (Wc.seq ?_)
   refine gR fun K F => ?_; simp only [go_sem, hlen, h0, h4]; apply F; clear F K
   refine Wc.cond (t := decide ((i : Int) < l.length)) (by simp only [go_sem, hlen]) (fun hc => ?_) (fun hc => ?_)
   ·have hil : i < l.length := by have : (i : Int) < l.length := by simpa using hc
                                  omega
    obtain ⟨x, hx⟩ : ∃ x, l[i]? = some x := ⟨l[i], List.getElem?_eq_getElem hil⟩
    have hix := ixA ti175 rfl ti3 (j := i) (m := l.length) (cs := l.map pI) hil (by simp) (by decide)
    have hca := rpA (off := i) (drop_map pI hx) (by simp; omega)
    refine Wc.skip (Wc.seq (Wc.block (Wc.seq ?_)))
    have bad : inV x = false → encV l = ([], 2) := fun hx2 => by
     rw [e0, if_neg]
     intro h
     rw [List.all_eq_true] at h
     have := h x (List.mem_of_getElem? hx)
     rw [hx2] at this; cases this
    by_cases hlo : x < -576460752303423488
    ·refine gR fun K F => ?_; simp only [go_sem, hlen, h0, h4, hix, hca, hlo]; apply F; clear F K
     refine Wc.cond (t := true) (by simp only [go_sem, hlen]) (fun hc => ?_) (fun hc => by cases hc)
     refine gS fun K F => ?_; simp only [go_sem, hlen, h0, h4]; apply F; clear F K
     rw [bad (by simp [inV]; omega)]
     exact Wc.ret (Pf.ret [.tmp 2, .tmp 3] [.c (.p (.str [])), .c (.p (.int .i64 2))] rfl rfl (by simp only [resultsD, go_sem, hlen]) rfl)
    ·refine gR fun K F => ?_; simp only [go_sem, hlen, h0, h4, hix, hca, hlo]; apply F; clear F K
     refine Wc.cond (t := decide (576460752303423488 < x)) (by simp only [go_sem, hlen]) (fun hc => ?_) (fun hc => ?_)
     ·have hhi : 576460752303423488 < x := by simpa using hc
      refine gS fun K F => ?_; simp only [go_sem, hlen, h0, h4]; apply F; clear F K
      rw [bad (by simp [inV]; omega)]
      exact Wc.ret (Pf.ret [.tmp 2, .tmp 3] [.c (.p (.str [])), .c (.p (.int .i64 2))] rfl rfl (by simp only [resultsD, go_sem, hlen]) rfl)
     ·have hhi : ¬ 576460752303423488 < x := by simpa using hc
      refine Wc.skip ?_
      refine gR fun K F => ?_; simp only [go_sem, hlen, h0, h4, i64n i (by omega)]; apply F; clear F K
      refine ⟨l.length - (i + 1), by omega, i + 1, rfl, by omega, rfl, by simp only [go_sem, hlen], by simp only [go_sem, hlen, h0], by simp only [go_sem, hlen], ?_⟩
      rw [take_snoc hx, List.all_append, hall]; simp [inV]; omega
   ·have hil : i = l.length := by have : ¬ (i : Int) < l.length := by simpa using hc
                                  omega
    subst hil
    rw [List.take_length] at hall
    exact Wc.exit ⟨hall, rfl, by simp only [go_sem, hlen], by simp only [go_sem, hlen, h0]⟩
  ·exact ⟨0, rfl, by omega, rfl, rfl, rfl, rfl, rfl⟩
 ·rintro ⟨e, ds, s1⟩ ⟨hall, rfl, hlen, h0⟩
  simp only at hlen h0
  have hV := inV_all hall
  have hdR : (diffs l).all inR = true := List.all_eq_true.2 fun d hd => by have := diffs_mem hV d hd; simp [inR]; omega
  have hdl := diffs_len l
  have hrl := runE_len _ (diffs l) (Nat.le_refl _) hdR (by omega)
  have ea : appV [] (l.length : Int) = (vb l.length, 0) := by unfold appV; rw [if_neg (by omega), Int.toNat_natCast]; rfl
  refine gS fun K F => ?_; simp only [go_sem, hlen, h0]
  refine gP (pf192 [] (l.length : Int) (by decide)) (by kernel_rfl) (by kernel_rfl) rfl rfl ?_
  simp only [go_sem, hlen, h0, ea]; apply F; clear F K
  rw [e0, if_pos hall]
  refine Wc.seqA (fun y => y.ds = [] ∧ y.e.length = 50 ∧ y.e.getD 0 .junk = P' (.lst l.length (l.map pI)) ∧ y.e.getD 5 .junk = P' (.str (vb l.length ++ first1 l))) ?_ ?_
  ·refine gS fun K F => ?_; simp only [go_sem, hlen, h0]; apply F; clear F K
   refine Wc.cond (t := decide (0 < (l.length : Int))) (by simp only [go_sem, hlen]) (fun hc => ?_) (fun hc => ?_)
   ·have hl0 : 0 < l.length := by have : 0 < (l.length : Int) := by simpa using hc
                                  omega
    obtain ⟨x, hx⟩ : ∃ x, l[0]? = some x := ⟨l[0], List.getElem?_eq_getElem hl0⟩
    have hix := ixA ti175 rfl ti3 (j := 0) (m := l.length) (cs := l.map pI) hl0 (by simp) (by decide)
    rw [show ((0 : Nat) : Int) = 0 from rfl, Nat.zero_mul] at hix
    have hca := rpA (off := 0) (drop_map pI hx) (by simp)
    have hxR := inV_R (List.all_eq_true.1 hall x (List.mem_of_getElem? hx))
    have eb : appS (vb l.length) x = (vb l.length ++ first1 l, 0) := by
     unfold appS; rw [hxR]
     cases l with
     | nil => simp at hl0
     | cons y r => simp at hx; subst hx; rfl
    refine gR fun K F => ?_; simp only [go_sem, hlen, h0, hix, hca, nZ, ea]
    refine gP (pf194 (vb l.length) x (by omega)) (by kernel_rfl) (by kernel_rfl) rfl rfl ?_
    simp only [go_sem, hlen, h0, eb]; apply F; clear F K
    exact ⟨rfl, rfl, by simp only [go_sem, hlen], by simp only [go_sem, hlen, h0], by simp only [go_sem, hlen, eb]⟩
   ·have hl0 : l = [] := by
     have : ¬ 0 < (l.length : Int) := by simpa using hc
     exact List.length_eq_zero_iff.1 (by omega)
    refine Wc.skip ⟨rfl, rfl, by simp only [go_sem, hlen], by simp only [go_sem, hlen, h0], ?_⟩
    subst hl0
    simp only [go_sem, hlen, ea, first1]
  ·clear hlen h0 e s1
   rintro ⟨e, ds, s1⟩ ⟨rfl, hlen, h0, h5⟩
   simp only at hlen h0 h5
   have hfl : (first1 l).length ≤ 10 := by
    cases l with
    | nil => simp [first1]
    | cons x r => exact vb_len10 (by have := zz_lt (inV_R (List.all_eq_true.1 hall x (by simp))); omega)
   refine gS fun K F => ?_; simp only [go_sem, hlen, h0, h5]
   refine gP (pf195 l hl (fun x hx => by have := hV x hx; omega)) (by kernel_rfl) (by kernel_rfl) rfl rfl ?_
   simp only [go_sem, hlen, h0, h5]
   refine gP (pf196 (diffs l) (by omega) hdR) (by kernel_rfl) (by kernel_rfl) rfl rfl ?_
   have hlt : ¬ (9223372036854775807 < (vb l.length ++ first1 l).length + (runE (diffs l)).length) := by simp; omega
   simp only [go_sem, hlen, h0, h5, hlt]; apply F; clear F K
   exact Wc.ret (Pf.ret [.tmp 2, .tmp 3] [.c (.p (.str (vb l.length ++ first1 l ++ runE (diffs l)))), .c (.p (.int .i64 0))] rfl rfl (by simp only [resultsD, go_sem, hlen]) rfl)
def chk1 : Option Int → List Int → Int
 | _, [] => 0
 | p, x :: r => if x < 1 ∨ 1099511627776 < x then 2 else match p with
  | some y => if x ≤ y then 9 else chk1 (some x) r
  | none => chk1 (some x) r
def chkT (l : List Int) : Int := if 20000 < l.length then 4 else chk1 none l
def prev (l : List Int) (i : Nat) : Option Int := if i = 0 then none else l[i - 1]?
theorem chk1_step {l : List Int} {i : Nat} {x : Int} (h : l[i]? = some x) : chk1 (prev l i) (l.drop i) = if x < 1 ∨ 1099511627776 < x then 2 else match prev l i with
  | some y => if x ≤ y then 9 else chk1 (prev l (i + 1)) (l.drop (i + 1))
  | none => chk1 (prev l (i + 1)) (l.drop (i + 1)) := by
 have hi := (List.getElem?_eq_some_iff.1 h).1
 have hx := (List.getElem?_eq_some_iff.1 h).2
 have hp : prev l (i + 1) = some x := by simp [prev, h]
 rw [List.drop_eq_getElem_cons hi, hx, hp]
 cases prev l i <;> rfl
theorem pf193 (l : List Int) (hl : l.length < 2^40) : Pf E0 193 [.c (.p (.lst l.length (l.map pI)))] (P' (.int .i64 (chkT l))) := by
 refine Pf.body (fn := Tryz.f193) (by kernel_rfl) rfl ?_; simp only [List.map_cons, List.map_nil, List.cons_append, List.nil_append, List.length_cons, List.length_nil, Tryz.ntmps193, List.replicate, Nat.reduceSub, Nat.reduceAdd]
 refine gS fun K F => ?_; simp only [go_sem]; apply F; clear F K
 refine Wc.seq (Wc.seq ?_)
 refine gR fun K F => ?_; simp only [go_sem]; apply F; clear F K
 refine Wc.cond (t := decide ((20000 : Int) < l.length)) rfl (fun hc => ?_) (fun hc => ?_)
 ·have hc' : (20000 : Int) < l.length := by simpa using hc
  have e : chkT l = 4 := by unfold chkT; rw [if_pos (by omega)]
  refine gS fun K F => ?_; simp only [go_sem]; apply F; clear F K
  rw [e]
  exact Wc.ret (Pf.ret [.tmp 2] [.c (.p (.int .i64 4))] rfl rfl (by simp only [resultsD, go_sem]) rfl)
 have hc' : ¬ (20000 : Int) < l.length := by simpa using hc
 have e0 : chkT l = chk1 (prev l 0) (l.drop 0) := by unfold chkT; rw [if_neg (by omega)]; rfl
 refine Wc.skip (Wc.seq (Wc.seq ?_))
 refine gR fun K F => ?_; simp only [go_sem]; apply F; clear F K
 refine Wc.block (Wc.loop (fun k y => ∃ (i : Nat), k = l.length - i ∧ i ≤ l.length ∧ y.ds = [] ∧ y.e.length = 39 ∧ y.e.getD 0 .junk = P' (.lst l.length (l.map pI)) ∧ y.e.getD 3 .junk = P' (.int .i64 i) ∧ chkT l = chk1 (prev l i) (l.drop i)) ?_ (k := l.length) ?_)
 ·rintro k ⟨e, ds, s1⟩ ⟨i, rfl, hi, rfl, hlen, h0, h3, hch⟩
  simp only at hlen h0 h3
  refine Wc.seq (Wc.seq ?_)
  refine gR fun K F => ?_; simp only [go_sem, hlen, h0, h3]; apply F; clear F K
  refine Wc.cond (t := decide ((i : Int) < l.length)) (by simp only [go_sem, hlen]) (fun hc => ?_) (fun hc => ?_)
  ·have hil : i < l.length := by have : (i : Int) < l.length := by simpa using hc
                                 omega
   obtain ⟨x, hx⟩ : ∃ x, l[i]? = some x := ⟨l[i], List.getElem?_eq_getElem hil⟩
   have hix := ixA ti175 rfl ti3 (j := i) (m := l.length) (cs := l.map pI) hil (by simp) (by decide)
   have hca := rpA (off := i) (drop_map pI hx) (by simp; omega)
   rw [chk1_step hx] at hch
   refine Wc.skip (Wc.seq (Wc.block (Wc.seq (Wc.seq ?_))))
   have bad : (x < 1 ∨ 1099511627776 < x) → ∀ (e : List D) (s1 : St), e.length = 39 → e.getD 2 .junk = P' (.int .i64 2) → True := fun _ _ _ _ _ => trivial
   by_cases hlo : x < 1
   ·rw [if_pos (.inl hlo)] at hch
    refine gR fun K F => ?_; simp only [go_sem, hlen, h0, h3, hix, hca, hlo]; apply F; clear F K
    refine Wc.cond (t := true) (by simp only [go_sem, hlen]) (fun hc => ?_) (fun hc => by cases hc)
    refine gS fun K F => ?_; simp only [go_sem, hlen, h0, h3]; apply F; clear F K
    rw [hch]
    exact Wc.ret (Pf.ret [.tmp 2] [.c (.p (.int .i64 2))] rfl rfl (by simp only [resultsD, go_sem, hlen]) rfl)
   ·refine gR fun K F => ?_; simp only [go_sem, hlen, h0, h3, hix, hca, hlo]; apply F; clear F K
    refine Wc.cond (t := decide (1099511627776 < x)) (by simp only [go_sem, hlen]) (fun hc => ?_) (fun hc => ?_)
    ·have hhi : 1099511627776 < x := by simpa using hc
     rw [if_pos (.inr hhi)] at hch
     refine gS fun K F => ?_; simp only [go_sem, hlen, h0, h3]; apply F; clear F K
     rw [hch]
     exact Wc.ret (Pf.ret [.tmp 2] [.c (.p (.int .i64 2))] rfl rfl (by simp only [resultsD, go_sem, hlen]) rfl)
    ·have hhi : ¬ 1099511627776 < x := by simpa using hc
     rw [if_neg (by omega)] at hch
     refine Wc.skip (Wc.seq ?_)
     by_cases hi0 : 0 < i
     ·obtain ⟨y, hy⟩ : ∃ y, l[i - 1]? = some y := ⟨l[i - 1], List.getElem?_eq_getElem (by omega)⟩
      have hiy := ixA ti175 rfl ti3 (j := i - 1) (m := l.length) (cs := l.map pI) (by omega) (by simp) (by decide)
      have hcb := rpA (off := i - 1) (drop_map pI hy) (by simp; omega)
      have e1 : IntKind.i64.wrap ((i : Int) - 1) = ((i - 1 : Nat) : Int) := by rw [wi64]; omega
      have hd : (0 < (i : Int)) = True := by simp; omega
      have hpr : prev l i = some y := by unfold prev; rw [if_neg (by omega)]; exact hy
      rw [hpr] at hch
      simp only at hch
      refine Wc.regD fun K F => ?_; simp only [go_sem, hlen, h0, h3, hix, hca, hiy, hcb, e1, hd]; apply F; clear F K
      refine Wc.cond (t := decide (x ≤ y)) (by simp only [go_sem, hlen, hd]) (fun hc => ?_) (fun hc => ?_)
      ·have hxy : x ≤ y := by simpa using hc
       rw [if_pos hxy] at hch
       refine gS fun K F => ?_; simp only [go_sem, hlen, h0, h3]; apply F; clear F K
       rw [hch]
       exact Wc.ret (Pf.ret [.tmp 2] [.c (.p (.int .i64 9))] rfl rfl (by simp only [resultsD, go_sem, hlen]) rfl)
      ·have hxy : ¬ x ≤ y := by simpa using hc
       rw [if_neg hxy] at hch
       refine Wc.skip ?_
       refine gR fun K F => ?_; simp only [go_sem, hlen, h0, h3, i64n i (by omega)]; apply F; clear F K
       exact ⟨l.length - (i + 1), by omega, i + 1, rfl, by omega, rfl, by simp only [go_sem, hlen], by simp only [go_sem, hlen, h0], by simp only [go_sem, hlen], hch⟩
     ·have hd : (0 < (i : Int)) = False := by simp; omega
      have hpr : prev l i = none := by unfold prev; rw [if_pos (by omega)]
      rw [hpr] at hch
      simp only at hch
      refine Wc.regD fun K F => ?_; simp only [go_sem, hlen, h0, h3, hd]; apply F; clear F K
      refine Wc.cond (t := false) (by simp only [go_sem, hlen, hd]) (fun hc => by cases hc) (fun hc => ?_)
      refine Wc.skip ?_
      refine gR fun K F => ?_; simp only [go_sem, hlen, h0, h3, i64n i (by omega)]; apply F; clear F K
      exact ⟨l.length - (i + 1), by omega, i + 1, rfl, by omega, rfl, by simp only [go_sem, hlen], by simp only [go_sem, hlen, h0], by simp only [go_sem, hlen], hch⟩
  ·have hil : i = l.length := by have : ¬ (i : Int) < l.length := by simpa using hc
                                 omega
   rw [hil, List.drop_length] at hch
   have hch : chkT l = 0 := by rw [hch]; cases prev l l.length <;> rfl
   refine Wc.exit ?_
   refine gS fun K F => ?_; simp only [go_sem, hlen, h0, h3]; apply F; clear F K
   rw [hch]
   exact Wc.ret (Pf.ret [.tmp 2] [.c (.p (.int .i64 0))] rfl rfl (by simp only [resultsD, go_sem, hlen]) rfl)
 ·exact ⟨0, rfl, by omega, rfl, rfl, rfl, rfl, e0⟩
set_option maxHeartbeats 4000000
set_option maxRecDepth 10000
set_option linter.unusedSimpArgs false
set_option linter.unusedVariables false
def encT (l : List Int) : List UInt8 × Int := if chkT l = 0 then (vb l.length ++ first1 l ++ first1 (diffs l) ++ runE (diffs (diffs l)), 0) else ([], chkT l)
theorem chk1_mem : ∀ {l : List Int} {p : Option Int}, chk1 p l = 0 → ∀ x ∈ l, 1 ≤ x ∧ x ≤ 1099511627776
 | [], _, _, x, hx => by cases hx
 | y :: r, p, h, x, hx => by
  have h1 : ¬ (y < 1 ∨ 1099511627776 < y) := fun hb => by
   cases p <;> simp only [chk1] at h <;> rw [if_pos hb] at h <;> cases h
  have h2 : chk1 (some y) r = 0 := by
   cases p with
   | none => simp only [chk1] at h; rw [if_neg h1] at h; exact h
   | some z =>
    simp only [chk1] at h
    rw [if_neg h1] at h
    split at h
    ·cases h
    ·exact h
  rcases List.mem_cons.1 hx with rfl | hx
  ·omega
  ·exact chk1_mem h2 x hx
theorem chkT_ok {l : List Int} (h : chkT l = 0) : l.length ≤ 20000 ∧ ∀ x ∈ l, 1 ≤ x ∧ x ≤ 1099511627776 := by
 unfold chkT at h
 split at h
 ·cases h
 ·exact ⟨by omega, chk1_mem h⟩
theorem first1_len {l : List Int} (h : ∀ x ∈ l, inR x = true) : (first1 l).length ≤ 10 := by
 cases l with
 | nil => simp [first1]
 | cons x r => exact vb_len10 (by have := zz_lt (h x (by simp)); omega)
theorem pf122 (l : List Int) (hl : l.length < 2^40) : Pf E0 122 [.c (.p (.lst l.length (l.map pI)))] (.tup [.c (.p (.str (encT l).1)), .c (.p (.int .i64 (encT l).2))]) := by
 refine Pf.body (fn := Tryz.f122) (by kernel_rfl) rfl ?_; simp only [List.map_cons, List.map_nil, List.cons_append, List.nil_append, List.length_cons, List.length_nil, Tryz.ntmps122, List.replicate, Nat.reduceSub, Nat.reduceAdd]
 refine gS fun K F => ?_; simp only [go_sem]; apply F; clear F K
 refine Wc.seq (Wc.seq ?_)
 refine gR fun K F => ?_; simp only [go_sem]
 refine gP (pf193 l hl) (by kernel_rfl) (by kernel_rfl) rfl rfl ?_
 simp only [go_sem]; apply F; clear F K
 refine gS fun K F => ?_; simp only [go_sem]; apply F; clear F K
 refine Wc.cond (t := (chkT l != 0)) rfl (fun hc => ?_) (fun hc => ?_)
 ·have hc' : chkT l ≠ 0 := by simpa using hc
  have e : encT l = ([], chkT l) := by unfold encT; rw [if_neg hc']
  refine gS fun K F => ?_; simp only [go_sem]; apply F; clear F K
  rw [e]
  exact Wc.ret (Pf.ret [.tmp 2, .tmp 3] [.c (.p (.str [])), .c (.p (.int .i64 (chkT l)))] rfl rfl (by simp only [resultsD, go_sem]) rfl)
 have hc' : chkT l = 0 := by simpa using hc
 have e0 : encT l = (vb l.length ++ first1 l ++ first1 (diffs l) ++ runE (diffs (diffs l)), 0) := by unfold encT; rw [if_pos hc']
 obtain ⟨hl2, hV⟩ := chkT_ok hc'
 have hvl := vb_len10 (n := l.length) (by omega)
 have hR : ∀ x ∈ l, inR x = true := fun x hx => by have := hV x hx; simp [inR]; omega
 have hD := diffs_mem hV
 have hDR : ∀ x ∈ diffs l, inR x = true := fun x hx => by have := hD x hx; simp [inR]; omega
 have hDD := diffs_mem hD
 have hDDR : (diffs (diffs l)).all inR = true := List.all_eq_true.2 fun d hd => by have := hDD d hd; simp [inR]; omega
 have hdl := diffs_len l
 have hddl := diffs_len (diffs l)
 have hrl := runE_len _ (diffs (diffs l)) (Nat.le_refl _) hDDR (by omega)
 have f1 := first1_len hR
 have f2 := first1_len hDR
 have ea : appV [] (l.length : Int) = (vb l.length, 0) := by unfold appV; rw [if_neg (by omega), Int.toNat_natCast]; rfl
 have one : ∀ (t : List UInt8) (m : List Int) (x : Int), m[0]? = some x → (∀ x ∈ m, inR x = true) → appS t x = (t ++ first1 m, 0) := fun t m x hx hm => by
  unfold appS
  rw [hm x (List.mem_of_getElem? hx)]
  cases m with
  | nil => simp at hx
  | cons y r => simp at hx; subst hx; rfl
 refine Wc.skip (Wc.seq ?_)
 refine gR fun K F => ?_; simp only [go_sem]
 refine gP (pf192 [] (l.length : Int) (by decide)) (by kernel_rfl) (by kernel_rfl) rfl rfl ?_
 simp only [go_sem, ea]; apply F; clear F K
 rw [e0]
 refine Wc.seqA (fun y => y.ds = [] ∧ y.e.length = 48 ∧ y.e.getD 0 .junk = P' (.lst l.length (l.map pI)) ∧ y.e.getD 5 .junk = P' (.str (vb l.length ++ first1 l))) ?_ ?_
 ·refine gS fun K F => ?_; simp only [go_sem]; apply F; clear F K
  refine Wc.cond (t := decide (0 < (l.length : Int))) (by simp only [go_sem]) (fun hc => ?_) (fun hc => ?_)
  ·have hl0 : 0 < l.length := by have : 0 < (l.length : Int) := by simpa using hc
                                 omega
   obtain ⟨x, hx⟩ : ∃ x, l[0]? = some x := ⟨l[0], List.getElem?_eq_getElem hl0⟩
   have hix := ixA ti175 rfl ti3 (j := 0) (m := l.length) (cs := l.map pI) hl0 (by simp) (by decide)
   rw [show ((0 : Nat) : Int) = 0 from rfl, Nat.zero_mul] at hix
   have hca := rpA (off := 0) (drop_map pI hx) (by simp)
   refine gR fun K F => ?_; simp only [go_sem, hix, hca, ea]
   refine gP (pf194 (vb l.length) x (by omega)) (by kernel_rfl) (by kernel_rfl) rfl rfl ?_
   simp only [go_sem, one _ _ _ hx hR]; apply F; clear F K
   exact ⟨rfl, rfl, rfl, by simp only [go_sem]⟩
  ·have hl0 : l = [] := by
    have : ¬ 0 < (l.length : Int) := by simpa using hc
    exact List.length_eq_zero_iff.1 (by omega)
   refine Wc.skip ⟨rfl, rfl, rfl, ?_⟩
   subst hl0
   simp only [go_sem, ea, first1]
 ·rintro ⟨e, ds, s1⟩ ⟨rfl, hlen, h0, h5⟩
  simp only at hlen h0 h5
  refine gS fun K F => ?_; simp only [go_sem, hlen, h0, h5]
  refine gP (pf195 l hl (fun x hx => by have := hV x hx; omega)) (by kernel_rfl) (by kernel_rfl) rfl rfl ?_
  simp only [go_sem, hlen, h0, h5]; apply F; clear F K
  refine Wc.seqA (fun y => y.ds = [] ∧ y.e.length = 48 ∧ y.e.getD 7 .junk = P' (.lst (diffs l).length ((diffs l).map pI)) ∧ y.e.getD 5 .junk = P' (.str (vb l.length ++ first1 l ++ first1 (diffs l)))) ?_ ?_
  ·refine gS fun K F => ?_; simp only [go_sem, hlen, h0, h5]; apply F; clear F K
   refine Wc.cond (t := decide (0 < ((diffs l).length : Int))) (by simp only [go_sem, hlen]) (fun hc => ?_) (fun hc => ?_)
   ·have hl0 : 0 < (diffs l).length := by have : 0 < ((diffs l).length : Int) := by simpa using hc
                                          omega
    obtain ⟨x, hx⟩ : ∃ x, (diffs l)[0]? = some x := ⟨(diffs l)[0], List.getElem?_eq_getElem hl0⟩
    have hix := ixA ti175 rfl ti3 (j := 0) (m := (diffs l).length) (cs := (diffs l).map pI) hl0 (by simp) (by decide)
    rw [show ((0 : Nat) : Int) = 0 from rfl, Nat.zero_mul] at hix
    have hca := rpA (off := 0) (drop_map pI hx) (by simp)
    refine gR fun K F => ?_; simp only [go_sem, hlen, h0, h5, hix, hca]
    refine gP (pf194 (vb l.length ++ first1 l) x (by simp; omega)) (by kernel_rfl) (by kernel_rfl) rfl rfl ?_
    simp only [go_sem, hlen, h0, h5, one _ _ _ hx hDR]; apply F; clear F K
    exact ⟨rfl, by simp only [go_sem, hlen], by simp only [go_sem, hlen], by simp only [go_sem, hlen]⟩
   ·have hl0 : diffs l = [] := by
     have : ¬ 0 < ((diffs l).length : Int) := by simpa using hc
     exact List.length_eq_zero_iff.1 (by omega)
    refine Wc.skip ⟨rfl, by simp only [go_sem, hlen], by simp only [go_sem, hlen], ?_⟩
    simp only [go_sem, hlen, h5, hl0, first1]
  ·clear hlen h0 h5 e s1
   rintro ⟨e, ds, s1⟩ ⟨rfl, hlen, h7, h5⟩
   simp only at hlen h7 h5
   refine gS fun K F => ?_; simp only [go_sem, hlen, h7, h5]
   refine gP (pf195 (diffs l) (by omega) (fun x hx => by have := hD x hx; omega)) (by kernel_rfl) (by kernel_rfl) rfl rfl ?_
   simp only [go_sem, hlen, h7, h5]
   refine gP (pf196 (diffs (diffs l)) (by omega) hDDR) (by kernel_rfl) (by kernel_rfl) rfl rfl ?_
   have hlt : ¬ (9223372036854775807 < (vb l.length ++ first1 l ++ first1 (diffs l)).length + (runE (diffs (diffs l))).length) := by simp; omega
   simp only [go_sem, hlen, h7, h5, hlt]; apply F; clear F K
   exact Wc.ret (Pf.ret [.tmp 2, .tmp 3] [.c (.p (.str (vb l.length ++ first1 l ++ first1 (diffs l) ++ runE (diffs (diffs l))))), .c (.p (.int .i64 0))] rfl rfl (by simp only [resultsD, go_sem, hlen]) rfl)
abbrev wR (t : List UInt8) (e : Int) : V := .agg [.p (.str t), .p (.int .i64 e)]
theorem pf120 (t : List UInt8) (e n : Int) (ht : t.length ≤ 4611686018427387904) : Pf E0 120 [wR t e, .c (.p (.int .i64 n))] (.v (wR (appV t n).1 e)) := by
 refine Pf.body (fn := Tryz.f120) (by kernel_rfl) rfl ?_; simp only [List.map_cons, List.map_nil, List.cons_append, List.nil_append, List.length_cons, List.length_nil, Tryz.ntmps120, List.replicate, Nat.reduceSub, Nat.reduceAdd]
 refine gS fun K F => ?_; simp only [go_sem]; apply F; clear F K
 refine gS fun K F => ?_; simp only [go_sem]
 refine gP (pf192 t n ht) (by kernel_rfl) (by kernel_rfl) rfl rfl ?_
 simp only [go_sem]; apply F; clear F K
 refine gS fun K F => ?_; simp only [go_sem]; apply F; clear F K
 exact Wc.ret (Pf.ret [.cell 4 178] [wR (appV t n).1 e] rfl rfl (by simp only [resultsD, go_sem]) rfl)
def partW (w : List UInt8 × Int) (t : List UInt8) (e : Int) : List UInt8 × Int := if w.2 ≠ 0 then w else if e ≠ 0 then ([], 4) else ((appV w.1 t.length).1 ++ t, 0)
theorem pf121 (w : List UInt8 × Int) (t : List UInt8) (e : Int) (hw : w.1.length ≤ 2^60) (ht : t.length ≤ 2^60) : Pf E0 121 [wR w.1 w.2, .c (.p (.str t)), .c (.p (.int .i64 e))] (.v (wR (partW w t e).1 (partW w t e).2)) := by
 refine Pf.body (fn := Tryz.f121) (by kernel_rfl) rfl ?_; simp only [List.map_cons, List.map_nil, List.cons_append, List.nil_append, List.length_cons, List.length_nil, Tryz.ntmps121, List.replicate, Nat.reduceSub, Nat.reduceAdd]
 refine gS fun K F => ?_; simp only [go_sem]; apply F; clear F K
 refine Wc.seq (Wc.seq ?_)
 refine gR fun K F => ?_; simp only [go_sem]; apply F; clear F K
 refine Wc.cond (t := (w.2 != 0)) (by simp only [go_sem]) (fun hc => ?_) (fun hc => ?_)
 ·have hc' : w.2 ≠ 0 := by simpa using hc
  have e1 : partW w t e = w := by unfold partW; rw [if_pos hc']
  rw [e1]
  refine gS fun K F => ?_; simp only [go_sem]; apply F; clear F K
  exact Wc.ret (Pf.ret [.cell 6 178] [wR w.1 w.2] rfl rfl (by simp only [resultsD, go_sem]) rfl)
 have hc' : w.2 = 0 := by simpa using hc
 refine Wc.skip (Wc.seq (Wc.seq ?_))
 refine gR fun K F => ?_; simp only [go_sem]; apply F; clear F K
 refine Wc.cond (t := (e != 0)) rfl (fun hd => ?_) (fun hd => ?_)
 ·have hd' : e ≠ 0 := by simpa using hd
  have e1 : partW w t e = ([], 4) := by unfold partW; rw [if_neg (by simpa using hc'), if_pos hd']
  rw [e1]
  refine gS fun K F => ?_; simp only [go_sem]; apply F; clear F K
  exact Wc.ret (Pf.ret [.cell 6 178] [wR [] 4] rfl rfl (by simp only [resultsD, go_sem]) rfl)
 have hd' : e = 0 := by simpa using hd
 have e1 : partW w t e = ((appV w.1 t.length).1 ++ t, 0) := by unfold partW; rw [if_neg (by simpa using hc'), if_neg (by simpa using hd')]
 have hal : (appV w.1 t.length).1.length ≤ 2^60 + 10 := by
  unfold appV
  split
  ·simp
  ·have := vb_len10 (n := (t.length : Int).toNat) (by omega)
   simp at this ⊢; omega
 have hlt : ¬ (9223372036854775807 < (appV w.1 t.length).1.length + t.length) := by omega
 rw [e1]
 refine Wc.skip (Wc.seq ?_)
 refine gR fun K F => ?_; simp only [go_sem]
 refine gP (pf120 w.1 w.2 t.length (by omega)) (by kernel_rfl) (by kernel_rfl) rfl rfl ?_
 simp only [go_sem]; apply F; clear F K
 refine gS fun K F => ?_; simp only [go_sem, hlt]; apply F; clear F K
 refine gS fun K F => ?_; simp only [go_sem]; apply F; clear F K
 exact Wc.ret (Pf.ret [.cell 6 178] [wR ((appV w.1 t.length).1 ++ t) 0] rfl rfl (by simp only [resultsD, go_sem, hc']) rfl)
set_option maxHeartbeats 4000000
set_option maxRecDepth 10000
set_option linter.unusedSimpArgs false
set_option linter.unusedVariables false
theorem o197 : E0.opn 197 = false := by kernel_rfl
theorem x197 : E0.xt 197 = none := by kernel_rfl
theorem o121 : E0.opn 121 = false := by kernel_rfl
theorem x121 : E0.xt 121 = none := by kernel_rfl
theorem encV_len (l : List Int) (hl : l.length < 2^40) : (encV l).1.length ≤ 2^60 := by
 unfold encV
 split
 ·simp
 ·split
  ·rename_i h1 hall
   have hV := inV_all hall
   have hdR : (diffs l).all inR = true := List.all_eq_true.2 fun d hd => by have := diffs_mem hV d hd; simp [inR]; omega
   have hdl := diffs_len l
   have hrl := runE_len _ (diffs l) (Nat.le_refl _) hdR (by omega)
   have hvl := vb_len10 (n := l.length) (by omega)
   have f1 := first1_len (l := l) fun x hx => inV_R (List.all_eq_true.1 hall x hx)
   simp; omega
  ·simp
theorem pf123 (w : List UInt8 × Int) (l : List Int) (hw : w.1.length ≤ 2^60) (hl : l.length < 2^40) : Pf E0 123 [wR w.1 w.2, .c (.p (.lst l.length (l.map pI)))] (.v (wR (partW w (encV l).1 (encV l).2).1 (partW w (encV l).1 (encV l).2).2)) := by
 refine Pf.body (fn := Tryz.f123) (by kernel_rfl) rfl ?_; simp only [List.map_cons, List.map_nil, List.cons_append, List.nil_append, List.length_cons, List.length_nil, Tryz.ntmps123, List.replicate, Nat.reduceSub, Nat.reduceAdd]
 refine gS fun K F => ?_; simp only [go_sem]; apply F; clear F K
 refine Wc.seq ?_
 refine Wc.regT fun K F => ?_
 simp only [go_sem]
 refine gP (pf197 l hl) (by kernel_rfl) (by kernel_rfl) rfl rfl ?_
 simp only [go_sem]
 refine gP (pf121 w (encV l).1 (encV l).2 hw (encV_len l hl)) (by kernel_rfl) (by kernel_rfl) rfl rfl ?_
 simp only [go_sem, o197, x197, o121, x121]
 refine ⟨by rfl, F _ _ ?_⟩
 exact Wc.ret (Pf.ret [.cell 4 178] [wR (partW w (encV l).1 (encV l).2).1 (partW w (encV l).1 (encV l).2).2] rfl rfl (by simp only [resultsD, go_sem]) rfl)
abbrev chV (sig : Int) (lab : Pd) (z : List Pd) (d : List UInt8) : V := .agg ([.p (pI sig), .p lab] ++ z.map .p ++ [.p (.str d)])
abbrev zz0 : List Pd := [pI 0, pI 0, pI 0, pI 0, pI 0, .int .u32 0, .int .u32 0, .int .u32 0, .int .u32 0, .int .u32 0, .int .u32 0, .int .u32 0, .int .u32 0]
abbrev noCh : V := chV 0 (.lst 0 []) zz0 []
theorem pf124 (w : List UInt8 × Int) (sig : Int) (n : Nat) (cs : List Pd) (z0 z1 z2 z3 z4 z5 z6 z7 z8 z9 z10 z11 z12 : Pd) : Pf E0 124 [wR w.1 w.2, .c (.p (pI sig)), .c (.p (.lst n cs)), .agg [.p z0, .p z1, .p z2, .p z3, .p z4, .p z5, .p z6, .p z7, .p z8, .p z9, .p z10, .p z11, .p z12]]
  (if w.2 ≠ 0 ∨ 262144 < w.1.length then .tup [noCh, .c (.p (pI 4))] else .tup [chV sig (.lst n cs) [z0, z1, z2, z3, z4, z5, z6, z7, z8, z9, z10, z11, z12] w.1, .c (.p (pI 0))]) := by
 refine Pf.body (fn := Tryz.f124) (by kernel_rfl) rfl ?_; simp only [List.map_cons, List.map_nil, List.cons_append, List.nil_append, List.length_cons, List.length_nil, Tryz.ntmps124, List.replicate, Nat.reduceSub, Nat.reduceAdd]
 refine gS fun K F => ?_; simp only [go_sem]; apply F; clear F K
 refine Wc.seq (Wc.seq ?_)
 by_cases h2 : w.2 = 0
 ·have hb : (w.2 != 0) = false := by simpa using h2
  refine gR fun K F => ?_; simp only [go_sem, hb]; apply F; clear F K
  refine Wc.cond (t := decide ((262144 : Int) < w.1.length)) (by simp only [go_sem]) (fun hc => ?_) (fun hc => ?_)
  ·have hc' : 262144 < w.1.length := by have : (262144 : Int) < w.1.length := by simpa using hc
                                        omega
   rw [if_pos (.inr hc')]
   refine gS fun K F => ?_; simp only [go_sem]; apply F; clear F K
   exact Wc.ret (Pf.ret [.cell 8 96, .tmp 9] [.agg ([.p (pI 0), .nils] ++ zz0.map .p ++ [.p (.str [])]), .c (.p (pI 4))] rfl rfl (by simp only [resultsD, go_sem]) rfl)
  ·have hc' : ¬ 262144 < w.1.length := by have : ¬ (262144 : Int) < w.1.length := by simpa using hc
                                          omega
   rw [if_neg (by simp [h2]; omega)]
   refine Wc.skip (Wc.seq ?_)
   refine gR fun K F => ?_; simp only [go_sem]; apply F; clear F K
   exact Wc.ret (Pf.ret [.cell 8 96, .tmp 9] [chV sig (.lst n cs) [z0, z1, z2, z3, z4, z5, z6, z7, z8, z9, z10, z11, z12] w.1, .c (.p (pI 0))] rfl rfl (by simp only [resultsD, go_sem]; rfl) rfl)
 ·have hb : (w.2 != 0) = true := by simpa using h2
  rw [if_pos (.inl h2)]
  refine gR fun K F => ?_; simp only [go_sem, hb]; apply F; clear F K
  refine Wc.cond (t := true) (by simp only [go_sem]) (fun hc => ?_) (fun hc => by cases hc)
  refine gS fun K F => ?_; simp only [go_sem]; apply F; clear F K
  exact Wc.ret (Pf.ret [.cell 8 96, .tmp 9] [.agg ([.p (pI 0), .nils] ++ zz0.map .p ++ [.p (.str [])]), .c (.p (pI 4))] rfl rfl (by simp only [resultsD, go_sem]) rfl)
set_option maxHeartbeats 4000000
set_option maxRecDepth 10000
set_option linter.unusedSimpArgs false
set_option linter.unusedVariables false
def isT (n : Int) : Bool := decide (1 ≤ n) && decide (n ≤ 1099511627776)
def isVl (n : Int) : Bool := decide (-1099511627776 ≤ n) && decide (n ≤ 1099511627776)
theorem pf235 (n : Int) : Pf E0 235 [.c (.p (.int .i64 n))] (P' (.bool (isT n))) := by
 refine Pf.body (fn := Tryz.f235) (by kernel_rfl) rfl ?_; simp only [List.map_cons, List.map_nil, List.cons_append, List.nil_append, List.length_cons, List.length_nil, Tryz.ntmps235, List.replicate, Nat.reduceSub, Nat.reduceAdd]
 refine gS fun K F => ?_; simp only [go_sem]; apply F; clear F K
 refine Wc.seq ?_
 by_cases h : 1 ≤ n
 ·refine gR fun K F => ?_; simp only [go_sem, h]; apply F; clear F K
  exact Wc.ret (Pf.ret [.tmp 2] [.c (.p (.bool (isT n)))] rfl rfl (by simp only [resultsD, go_sem, isT, h, Bool.true_and]) rfl)
 ·refine gR fun K F => ?_; simp only [go_sem, h]; apply F; clear F K
  exact Wc.ret (Pf.ret [.tmp 2] [.c (.p (.bool (isT n)))] rfl rfl (by simp only [resultsD, go_sem, isT, h, Bool.false_and]) rfl)
theorem pf236 (n : Int) : Pf E0 236 [.c (.p (.int .i64 n))] (P' (.bool (isVl n))) := by
 refine Pf.body (fn := Tryz.f236) (by kernel_rfl) rfl ?_; simp only [List.map_cons, List.map_nil, List.cons_append, List.nil_append, List.length_cons, List.length_nil, Tryz.ntmps236, List.replicate, Nat.reduceSub, Nat.reduceAdd]
 refine gS fun K F => ?_; simp only [go_sem]; apply F; clear F K
 refine Wc.seq ?_
 by_cases h : -1099511627776 ≤ n
 ·refine gR fun K F => ?_; simp only [go_sem, h]; apply F; clear F K
  exact Wc.ret (Pf.ret [.tmp 2] [.c (.p (.bool (isVl n)))] rfl rfl (by simp only [resultsD, go_sem, isVl, h, Bool.true_and]) rfl)
 ·refine gR fun K F => ?_; simp only [go_sem, h]; apply F; clear F K
  exact Wc.ret (Pf.ret [.tmp 2] [.c (.p (.bool (isVl n)))] rfl rfl (by simp only [resultsD, go_sem, isVl, h, Bool.false_and]) rfl)
abbrev zV (c t1 t2 v1 v2 : Int) : V := .agg [.p (pI c), .p (pI t1), .p (pI t2), .p (pI v1), .p (pI v2), .p (.int .u32 0), .p (.int .u32 0), .p (.int .u32 0), .p (.int .u32 0), .p (.int .u32 0), .p (.int .u32 0), .p (.int .u32 0), .p (.int .u32 0)]
structure ZOk (c t1 t2 v1 v2 : Int) : Prop where
 c1 : 1 ≤ c
 c2 : c ≤ 1152921504606846976
 a1 : isT t1 = true
 a2 : isT t2 = true
 a : t1 ≤ t2
 b1 : isVl v1 = true
 b2 : isVl v2 = true
 b : v1 ≤ v2
set_option maxHeartbeats 8000000
def mn (a b : Int) : Int := if b < a then b else a
def mx (a b : Int) : Int := if a < b then b else a
set_option maxRecDepth 10000
set_option linter.unusedSimpArgs false
set_option linter.unusedVariables false
set_option maxHeartbeats 8000000
def wthn (n a b : Int) : Bool := decide (a ≤ n) && decide (n ≤ b)
theorem pf238 (n a b : Int) : Pf E0 238 [.c (.p (pI n)), .c (.p (pI a)), .c (.p (pI b))] (P' (.bool (wthn n a b))) := by
 refine Pf.body (fn := Tryz.f238) (by kernel_rfl) rfl ?_; simp only [List.map_cons, List.map_nil, List.cons_append, List.nil_append, List.length_cons, List.length_nil, Tryz.ntmps238, List.replicate, Nat.reduceSub, Nat.reduceAdd]
 refine gS fun K F => ?_; simp only [go_sem]; apply F; clear F K
 refine Wc.seq ?_
 by_cases h : a ≤ n
 ·refine gR fun K F => ?_; simp only [go_sem, h]; apply F; clear F K
  exact Wc.ret (Pf.ret [.tmp 6] [.c (.p (.bool (wthn n a b)))] rfl rfl (by simp only [resultsD, go_sem, wthn, h, Bool.true_and]) rfl)
 ·refine gR fun K F => ?_; simp only [go_sem, h]; apply F; clear F K
  exact Wc.ret (Pf.ret [.tmp 6] [.c (.p (.bool (wthn n a b)))] rfl rfl (by simp only [resultsD, go_sem, wthn, h, Bool.false_and]) rfl)
set_option maxRecDepth 10000
set_option linter.unusedSimpArgs false
set_option linter.unusedVariables false
set_option maxHeartbeats 8000000
structure Zo where
 c : Int
 t1 : Int
 t2 : Int
 v1 : Int
 v2 : Int
abbrev Zo.V (z : Zo) : Go.Proofs.YtedcnhbblgmdnaaGreat.Ab.V := zV z.c z.t1 z.t2 z.v1 z.v2
def Zo.none : Zo := ⟨0, 0, 0, 0, 0⟩
def Zo.add (z : Zo) (t v : Int) : Zo := if z.c = 0 then ⟨1, t, t, v, v⟩ else ⟨z.c + 1, mn z.t1 t, mx z.t2 t, mn z.v1 v, mx z.v2 v⟩
def Zo.ok (z : Zo) : Prop := z = Zo.none ∨ ZOk z.c z.t1 z.t2 z.v1 z.v2
theorem ZOk.one {t v : Int} (ht : isT t = true) (hv : isVl v = true) : ZOk 1 t t v v := ⟨by decide, by decide, ht, ht, Int.le_refl _, hv, hv, Int.le_refl _⟩
set_option maxHeartbeats 4000000
set_option maxRecDepth 10000
set_option linter.unusedSimpArgs false
set_option linter.unusedVariables false
theorem stepK_elim {r : Option (D × St)} {k : D → St → Prop} (h : stepK r k) : ∃ d s', r = some (d, s') ∧ k d s' := by
 cases r with
 | none => exact h.elim
 | some x => exact ⟨x.1, x.2, rfl, h⟩
def Tg (s : St) (b : C) : Prop := b = .nils ∨ ∃ n cs id, b = .own n cs id ∧ (0 < n ∧ n ≤ 140737488355328) ∧ ∃ m, s.get id = some (.front 1 m 5)
theorem Tg.adv {s : St} {b : C} (h : Tg s b) (n : Nat) : Tg (s.adv n) b := h
theorem Tg.put {s : St} {b : C} (h : Tg s b) {k : Nat} {o : Ob} (hk : ∀ m, s.get k ≠ some (.front 1 m 5)) : Tg (s.put k o) b := by
 rcases h with h | ⟨n, cs, id, h1, h2, m, h3⟩
 ·exact .inl h
 ·refine .inr ⟨n, cs, id, h1, h2, m, ?_⟩
  rw [St.get_put, if_neg]; exact h3
  rintro rfl
  exact hk _ h3
theorem appT_of {s s' : St} {b : C} {n key : Nat} {cs : List Pd} {t : List UInt8} {d : D} (ho : Own s 1 (.v (.c b)) n cs) (htg : Tg s b) (hn : n + t.length ≤ 140737488355328)
  (h : appendD E0 key [214, 9] (.v (.c b)) (P' (.str t)) s = some (d, s')) : ∃ b', d = .v (.c b') ∧ Tg s' b' := by
 obtain ⟨hl, h2⟩ := ho
 unfold appendD at h
 simp only [ti214, ti5, srcD, ti9, P', List.length_map, Nat.mul_one, if_true] at h
 rcases h2 with ⟨h2, rfl⟩ | ⟨id, h2, tg, hid⟩
 ·cases h2
  by_cases ht : t.length = 0
  ·rw [if_pos ht] at h
   cases h
   exact ⟨_, rfl, .inl rfl⟩
  ·rw [if_neg ht] at h
   have hgt : E0.gt 214 = false := by kernel_rfl
   simp only [hgt] at h
   rw [if_neg (by simp)] at h
   split at h
   ·cases h
    exact ⟨_, rfl, .inr ⟨_, _, _, rfl, ⟨by omega, by omega⟩, _, St.get_put_same _ _ _⟩⟩
   ·cases h
 ·cases h2
  rcases htg with htg | ⟨n', cs', id', h1, h2, m, h3⟩
  ·cases htg
  ·cases h1
   rw [hid] at h3
   cases h3
   by_cases ht : t.length = 0
   ·rw [if_pos ht] at h
    cases h
    exact ⟨_, rfl, .inr ⟨_, _, _, rfl, h2, _, hid⟩⟩
   ·rw [if_neg ht] at h
    simp only [hid] at h
    split at h
    ·cases h
     exact ⟨_, rfl, .inr ⟨_, _, _, rfl, ⟨by omega, hn⟩, n + t.length, by rw [St.get_put_same, if_pos trivial]⟩⟩
    ·cases h
theorem appT {bb key : Nat} {s : St} {L1 L2 : List (Nat × D × Nat × List Pd)} {M : List (Nat × Ob)} {b : C} {n : Nat} {cs : List Pd} {t : List UInt8} {k : D → St → Prop} (h : OA bb s (L1 ++ (1, .v (.c b), n, cs) :: L2) M) (hkey : bb ≤ key) (htg : Tg s b)
  (hn : n + t.length ≤ 140737488355328) (hk : ∀ b' s', OA (key + 1) s' (L1 ++ (1, .v (.c b'), n + t.length, cs ++ t.map pdOfByte) :: L2) M → s'.nx = s.nx → Tg s' b' → k (.v (.c b')) s') : stepK (appendD E0 key [214, 9] (.v (.c b)) (.v (.c (.p (.str t)))) s) k := by
 have ho : Own s 1 (.v (.c b)) n cs := h.own (1, .v (.c b), n, cs) (by simp)
 obtain ⟨d, s1, hap, hoa, hnx⟩ := stepK_elim (OA.app (E := E0) (key := key) (t := 214) (u := 9) (e := 5) (by_ := 1) (n := n) (m := t.length) (ys := t.map pdOfByte) (y := P' (.str t)) (k := fun x' s' => OA (key + 1) s' (L1 ++ (1, x', n + t.length, cs ++ t.map pdOfByte) :: L2) M ∧ s'.nx = s.nx) h hkey ⟨_, ti214, rfl⟩ ti5 rfl rfl rfl (by decide) (by decide) (by simp only [srcD, ti9, P']) (by simp) (by omega) fun x' s' h1 h2 => ⟨h1, h2⟩)
 obtain ⟨b', rfl, hc⟩ := appT_of ho htg hn hap
 rw [show D.v (.c (.p (.str t))) = P' (.str t) from rfl, hap]
 exact hk b' s1 hoa hnx hc
theorem call258 {bb : Nat} {s : St} {L : List (Nat × D × Nat × List Pd)} {M1 M2 : List (Nat × Ob)} {r : Nat} {a b : C} {K : D → St → Prop} (h : OA bb s L (M1 ++ (r, .tc 245 [a, b]) :: M2)) (ha : isOwner r 0 a = true)
  (F : ∀ s', OA bb s' L (M1 ++ (r, .tc 245 [.ref r 0, b]) :: M2) → s'.nx = s.nx → (∀ c, Tg s c → Tg s' c) → K (.tup []) s') : wpCall E0 (.v (.c (.p (.fnc 258)))) [.v (.c (.ref r 0))] s K := by
 have hr : s.get r = some (.tc 245 [a, b]) := h.at_ (r, .tc 245 [a, b]) (by simp)
 unfold isOwner at ha
 split at ha
 ·refine wpCall.xt (h := bldK) (by kernel_rfl) rfl (s' := s.put r (.tc 245 [.ref r 0, b])) (d := .tup []) (by simp only [bldK, hr, and_self, if_true]) (F _ (h.set rfl) rfl fun c hc => hc.put fun m e => ?_)
  rw [hr] at e; cases e
 ·simp only [Bool.and_eq_true, beq_iff_eq] at ha
  obtain ⟨rfl, rfl⟩ := ha
  exact wpCall.xt (h := bldK) (by kernel_rfl) rfl (s' := s) (d := .tup []) (by simp only [bldK, hr, and_self, if_true]) (F _ h rfl fun c hc => hc)
 ·cases ha
theorem call228 {bb : Nat} {s : St} {L1 L2 : List (Nat × D × Nat × List Pd)} {M1 M2 : List (Nat × Ob)} {r : Nat} {a b : C} {n : Nat} {cs : List Pd} {t : List UInt8} {K : D → St → Prop} (h : OA bb s (L1 ++ (1, .v (.c b), n, cs) :: L2) (M1 ++ (r, .tc 245 [a, b]) :: M2)) (hbb : bb ≤ s.nx) (htg : Tg s b) (ha : isOwner r 0 a = true) (hn : n + t.length ≤ 140737488355328)
  (F : ∀ b' s', OA s'.nx s' (L1 ++ (1, .v (.c b'), n + t.length, cs ++ t.map pdOfByte) :: L2) (M1 ++ (r, .tc 245 [.ref r 0, b']) :: M2) → Tg s' b' → s.nx ≤ s'.nx → K (.tup [.c (.p (.int .i64 t.length)), .c (.p .nili)]) s') :
  wpCall E0 (.v (.c (.p (.fnc 228)))) [.v (.c (.ref r 0)), .v (.c (.p (.str t)))] s K := by
 refine wpCall.opn (fn := Tryz.f228) (by kernel_rfl) (by kernel_rfl) rfl (by kernel_rfl) rfl ?_; simp only [List.map_cons, List.map_nil, List.cons_append, List.nil_append, List.length_cons, List.length_nil, Tryz.ntmps228, List.replicate, Nat.reduceSub, Nat.reduceAdd]
 refine gS fun K F => ?_; simp only [go_sem]; apply F; clear F K
 refine gS fun K F => ?_; simp only [go_sem]
 refine call258 (h.adv.adv) ha fun s1 h1 hnx1 htg1 => ?_
 have htg2 := htg1 b htg
 have hr : s1.get r = some (.tc 245 [.ref r 0, b]) := h1.at_ (r, .tc 245 [.ref r 0, b]) (by simp)
 simp only [go_sem]; apply F; clear F K
 refine gS fun K F => ?_; simp only [go_sem, hr]
 refine appT (h1.adv (n := 10)) (by simp only [St.nx_adv] at hnx1; omega) htg2 hn fun b' s2 h2 hnx2 htg3 => ?_
 have hr2 : s2.get r = some (.tc 245 [.ref r 0, b]) := h2.at_ (r, .tc 245 [.ref r 0, b]) (by simp)
 simp only [go_sem, hr2]; apply F; clear F K
 refine gS fun K F => ?_; simp only [go_sem]; apply F; clear F K
 refine Wc.ret (Op.ret [.tmp 4, .tmp 5] [.c (.p (.int .i64 t.length)), .c (.p .nili)] rfl rfl (by simp only [resultsD, go_sem]) (F b' _ ?_ ?_ ?_))
 ·refine OA.adv (OA.mono (OA.set h2 rfl) ?_)
  simp only [St.nx_put, St.nx_adv] at hnx1 hnx2 ⊢; omega
 ·exact (htg3.put fun m e => by rw [hr2] at e; cases e).adv _
 ·simp only [St.nx_put, St.nx_adv] at hnx1 hnx2 ⊢; omega
theorem call230 {bb : Nat} {s : St} {L1 L2 : List (Nat × D × Nat × List Pd)} {M1 M2 : List (Nat × Ob)} {r : Nat} {a b : C} {n : Nat} {t : List UInt8} {K : D → St → Prop} (h : OA bb s (L1 ++ (1, .v (.c b), n, t.map pdOfByte) :: L2) (M1 ++ (r, .tc 245 [a, b]) :: M2)) (htg : Tg s b)
  (F : K (P' (.str t)) s) : wpCall E0 (.v (.c (.p (.fnc 230)))) [.v (.c (.ref r 0))] s K := by
 have hr : s.get r = some (.tc 245 [a, b]) := h.at_ (r, .tc 245 [a, b]) (by simp)
 obtain ⟨hl, h2⟩ := h.own (1, .v (.c b), n, t.map pdOfByte) (by simp)
 simp only [List.length_map, Nat.mul_one] at hl
 simp only [D.v.injEq, V.c.injEq] at h2
 refine wpCall.xt (h := bldS) (by kernel_rfl) rfl (s' := s) (d := P' (.str t)) ?_ F
 rcases h2 with ⟨h2, h3⟩ | ⟨id, h2, tg, hid⟩
 ·subst h2
  have : t = [] := List.length_eq_zero_iff.1 (by omega)
  subst this
  simp only [bldS, hr, and_self, if_true]
 ·subst h2
  rcases htg with htg | ⟨n', cs', id', h1, h2, m, h3⟩
  ·cases htg
  ·cases h1
   rw [hid] at h3
   cases h3
   simp only [bldS, hr, hid, allM_byteS_of, hl, h2.1, h2.2, and_self, if_true]
theorem call229 {bb : Nat} {s : St} {L1 L2 : List (Nat × D × Nat × List Pd)} {M1 M2 : List (Nat × Ob)} {r : Nat} {a b : C} {n : Nat} {cs : List Pd} {K : D → St → Prop} (h : OA bb s (L1 ++ (1, .v (.c b), n, cs) :: L2) (M1 ++ (r, .tc 245 [a, b]) :: M2))
  (F : ∀ m, K (P' (.int .i64 n)) (s.adv m)) : wpCall E0 (.v (.c (.p (.fnc 229)))) [.v (.c (.ref r 0))] s K := by
 have hr : s.get r = some (.tc 245 [a, b]) := h.at_ (r, .tc 245 [a, b]) (by simp)
 obtain ⟨hl, h2⟩ := h.own (1, .v (.c b), n, cs) (by simp)
 simp only [D.v.injEq, V.c.injEq] at h2
 refine wpCall.opn (fn := Tryz.f229) (by kernel_rfl) (by kernel_rfl) rfl (by kernel_rfl) rfl ?_; simp only [List.map_cons, List.map_nil, List.cons_append, List.nil_append, List.length_cons, List.length_nil, Tryz.ntmps229, List.replicate, Nat.reduceSub, Nat.reduceAdd]
 rcases h2 with ⟨h2, h3⟩ | ⟨id, h2, tg, hid⟩
 ·subst h2 h3
  refine gS fun K F => ?_; simp only [go_sem]; apply F; clear F K
  refine gS fun K F => ?_; simp only [go_sem, hr]; apply F; clear F K
  exact Wc.ret (Op.ret [.tmp 2] [.c (.p (.int .i64 0))] rfl rfl (by simp only [resultsD, go_sem]; try rfl) (F 7))
 ·subst h2
  refine gS fun K F => ?_; simp only [go_sem]; apply F; clear F K
  refine gS fun K F => ?_; simp only [go_sem, hr]; apply F; clear F K
  exact Wc.ret (Op.ret [.tmp 2] [.c (.p (.int .i64 n))] rfl rfl (by simp only [resultsD, go_sem]; try rfl) (F 7))
end Go.Proofs.YtedcnhbblgmdnaaGreat.Ab
