/- A part of the proof: an evaluator of the code, its contracts, the law. No condition. -/
import Derived.Test.YtafaoldmemcigaaGreatT13
namespace Go.Proofs.YtafaoldmemcigaaGreat.Ab
set_option maxHeartbeats 4000000
set_option maxRecDepth 10000
set_option linter.unusedSimpArgs false
set_option linter.unusedVariables false
def inV (n : Int) : Bool := decide (-576460752303423488 ≤ n) && decide (n ≤ 576460752303423488)
def first1 : List Int → List UInt8
  | [] => []
  | x :: _ => vb (zz x)
def encV (l : List Int) : List UInt8 × Int := if 20000 < l.length then ([], 4) else if l.all inV then (vb l.length ++ first1 l ++ runE (diffs l), 0) else ([], 2)
theorem diffs_len : ∀ l : List Int, (diffs l).length = l.length - 1
  | [] => rfl
  | [x] => rfl
  | x :: y :: r => by have := diffs_len (y :: r); simp only [diffs, List.length_cons] at this ⊢; omega
theorem diffs_mem {a b : Int} : ∀ {l : List Int}, (∀ x ∈ l, a ≤ x ∧ x ≤ b) → ∀ d ∈ diffs l, a - b ≤ d ∧ d ≤ b - a
  | [], _, d, hd => by simp [diffs] at hd
  | [x], _, d, hd => by simp [diffs] at hd
  | x :: y :: r, h, d, hd => by
    simp only [diffs, List.mem_cons] at hd
    rcases hd with rfl | hd
    · have h1 := h x (by simp)
      have h2 := h y (by simp)
      omega
    · exact diffs_mem (fun z hz => h z (List.mem_cons_of_mem _ hz)) d hd
theorem runE_len : ∀ (n : Nat) (l : List Int), l.length ≤ n → l.all inR = true → l.length < 2^40 → (runE l).length ≤ 20 * l.length
  | _, [], _, _, _ => by simp [runE]
  | 0, x :: r, h, _, _ => by simp at h
  | n + 1, x :: r, h, hr, hb => by
    simp only [List.all_cons, Bool.and_eq_true] at hr
    rw [runE]
    have hd := (List.dropWhile_sublist (p := (· == x)) (l := r))
    have h0 := hd.length_le
    have ih := runE_len n (r.dropWhile (· == x)) (by simp at h; omega) (List.all_eq_true.2 fun z hz => List.all_eq_true.1 hr.2 z (hd.subset hz)) (by simp at hb; omega)
    have h1 := vb_len10 (n := zz x) (by have := zz_lt hr.1; omega)
    have h2 := vb_len10 (n := (r.takeWhile (· == x)).length + 1) (by have := (List.takeWhile_sublist (p := (· == x)) (l := r)).length_le; simp at hb; omega)
    simp only [List.length_append, List.length_cons]
    omega
theorem inV_R {n : Int} (h : inV n = true) : inR n = true := by simp [inV] at h; simp [inR]; omega
theorem inV_all {l : List Int} (h : l.all inV = true) : ∀ x ∈ l, -576460752303423488 ≤ x ∧ x ≤ 576460752303423488 := fun x hx => by
  have := List.all_eq_true.1 h x hx
  simpa [inV] using this
/-- 75: the reference's EncodeValues -/
theorem pf75 (l : List Int) (hl : l.length < 2^40) : Pf E0 75 [.c (.p (.lst l.length (l.map pI)))] (.tup [.c (.p (.str (encV l).1)), .c (.p (.int .i64 (encV l).2))]) := by
  refine Pf.body (fn := Tryz.f75) (by kernel_rfl) rfl ?_; simp only [List.map_cons, List.map_nil, List.cons_append, List.nil_append, List.length_cons, List.length_nil, Tryz.ntmps75, List.replicate, Nat.reduceSub, Nat.reduceAdd]
  refine Wc.seq ?_
  refine Wc.reg fun K hK => ?_; simp only [go_sem, ti3, ti113, ti9, ti5, ti111, ti77, ti4, ti35]; refine hK _ _ ?_; clear hK K
  refine Wc.seq (Wc.seq ?_)
  refine Wc.reg fun K hK => ?_; simp only [go_sem, ti3, ti113, ti9, ti5, ti111, ti77, ti4, ti35]; refine hK _ _ ?_; clear hK K
  refine Wc.cond (t := decide ((20000 : Int) < l.length)) rfl (fun hc => ?_) (fun hc => ?_)
  · have hc' : (20000 : Int) < l.length := by simpa using hc
    have e : encV l = ([], 4) := by unfold encV; rw [if_pos (by omega)]
    refine Wc.seq ?_
    refine Wc.reg fun K hK => ?_; simp only [go_sem, ti3, ti113, ti9, ti5, ti111, ti77, ti4, ti35]; refine hK _ _ ?_; clear hK K
    rw [e]
    exact Wc.ret (Pf.ret [.tmp 2, .tmp 3] [.c (.p (.str [])), .c (.p (.int .i64 4))] rfl rfl (by simp only [resultsD, go_sem, ti3, ti113, ti9, ti5, ti111, ti77, ti4, ti35]) rfl)
  have hc' : ¬ (20000 : Int) < l.length := by simpa using hc
  have e0 : encV l = if l.all inV then (vb l.length ++ first1 l ++ runE (diffs l), 0) else ([], 2) := by unfold encV; rw [if_neg (by omega)]
  have hvl := vb_len10 (n := l.length) (by omega)
  refine Wc.skip (Wc.seqR (fun y => l.all inV = true ∧ y.ds = [] ∧ y.e.length = 50 ∧ y.e.getD 0 .junk = P' (.lst l.length (l.map pI))) ?_ ?_)
  · refine Wc.seq ?_
    refine Wc.reg fun K hK => ?_; simp only [go_sem, ti3, ti113, ti9, ti5, ti111, ti77, ti4, ti35]; refine hK _ _ ?_; clear hK K
    refine Wc.block (Wc.loop (fun k y => ∃ (i : Nat), k = l.length - i ∧ i ≤ l.length ∧ y.ds = [] ∧ y.e.length = 50 ∧ y.e.getD 0 .junk = P' (.lst l.length (l.map pI)) ∧ y.e.getD 4 .junk = P' (.int .i64 i) ∧ (l.take i).all inV = true) ?_ (k := l.length) ?_)
    · rintro k ⟨e, ds, s1⟩ ⟨i, rfl, hi, rfl, hlen, h0, h4, hall⟩
      simp only at hlen h0 h4
      refine Wc.seq (Wc.seq ?_)
      refine Wc.reg fun K hK => ?_; simp only [go_sem, ti3, ti113, ti9, ti5, ti111, ti77, ti4, ti35, hlen, h0, h4]; refine hK _ _ ?_; clear hK K
      refine Wc.cond (t := decide ((i : Int) < l.length)) (by simp only [go_sem, ti3, ti113, ti9, ti5, ti111, ti77, ti4, ti35, hlen]) (fun hc => ?_) (fun hc => ?_)
      · have hil : i < l.length := by have : (i : Int) < l.length := by simpa using hc
                                      omega
        obtain ⟨x, hx⟩ : ∃ x, l[i]? = some x := ⟨l[i], List.getElem?_eq_getElem hil⟩
        have hix := ixA ti77 rfl ti3 (j := i) (m := l.length) (cs := l.map pI) hil (by simp) (by decide)
        have hca := rpA (off := i) (drop_map pI hx) (by simp; omega)
        refine Wc.skip (Wc.seq (Wc.block (Wc.seq ?_)))
        have bad : inV x = false → encV l = ([], 2) := fun hx2 => by
          rw [e0, if_neg]
          intro h
          rw [List.all_eq_true] at h
          have := h x (List.mem_of_getElem? hx)
          rw [hx2] at this; cases this
        by_cases hlo : x < -576460752303423488
        · refine Wc.reg fun K hK => ?_; simp only [go_sem, ti3, ti113, ti9, ti5, ti111, ti77, ti4, ti35, hlen, h0, h4, hix, hca, hlo]; refine hK _ _ ?_; clear hK K
          refine Wc.cond (t := true) (by simp only [go_sem, ti3, ti113, ti9, ti5, ti111, ti77, ti4, ti35, hlen]) (fun hc => ?_) (fun hc => by cases hc)
          refine Wc.seq ?_
          refine Wc.reg fun K hK => ?_; simp only [go_sem, ti3, ti113, ti9, ti5, ti111, ti77, ti4, ti35, hlen, h0, h4]; refine hK _ _ ?_; clear hK K
          rw [bad (by simp [inV]; omega)]
          exact Wc.ret (Pf.ret [.tmp 2, .tmp 3] [.c (.p (.str [])), .c (.p (.int .i64 2))] rfl rfl (by simp only [resultsD, go_sem, ti3, ti113, ti9, ti5, ti111, ti77, ti4, ti35, hlen]) rfl)
        · refine Wc.reg fun K hK => ?_; simp only [go_sem, ti3, ti113, ti9, ti5, ti111, ti77, ti4, ti35, hlen, h0, h4, hix, hca, hlo]; refine hK _ _ ?_; clear hK K
          refine Wc.cond (t := decide (576460752303423488 < x)) (by simp only [go_sem, ti3, ti113, ti9, ti5, ti111, ti77, ti4, ti35, hlen]) (fun hc => ?_) (fun hc => ?_)
          · have hhi : 576460752303423488 < x := by simpa using hc
            refine Wc.seq ?_
            refine Wc.reg fun K hK => ?_; simp only [go_sem, ti3, ti113, ti9, ti5, ti111, ti77, ti4, ti35, hlen, h0, h4]; refine hK _ _ ?_; clear hK K
            rw [bad (by simp [inV]; omega)]
            exact Wc.ret (Pf.ret [.tmp 2, .tmp 3] [.c (.p (.str [])), .c (.p (.int .i64 2))] rfl rfl (by simp only [resultsD, go_sem, ti3, ti113, ti9, ti5, ti111, ti77, ti4, ti35, hlen]) rfl)
          · have hhi : ¬ 576460752303423488 < x := by simpa using hc
            refine Wc.skip ?_
            refine Wc.reg fun K hK => ?_; simp only [go_sem, ti3, ti113, ti9, ti5, ti111, ti77, ti4, ti35, hlen, h0, h4, i64n i (by omega)]; refine hK _ _ ?_; clear hK K
            refine ⟨l.length - (i + 1), by omega, i + 1, rfl, by omega, rfl, by simp only [go_sem, ti3, ti113, ti9, ti5, ti111, ti77, ti4, ti35, hlen], by simp only [go_sem, ti3, ti113, ti9, ti5, ti111, ti77, ti4, ti35, hlen, h0], by simp only [go_sem, ti3, ti113, ti9, ti5, ti111, ti77, ti4, ti35, hlen], ?_⟩
            rw [take_snoc hx, List.all_append, hall]; simp [inV]; omega
      · have hil : i = l.length := by have : ¬ (i : Int) < l.length := by simpa using hc
                                      omega
        subst hil
        rw [List.take_length] at hall
        exact Wc.exit ⟨hall, rfl, by simp only [go_sem, ti3, ti113, ti9, ti5, ti111, ti77, ti4, ti35, hlen], by simp only [go_sem, ti3, ti113, ti9, ti5, ti111, ti77, ti4, ti35, hlen, h0]⟩
    · exact ⟨0, rfl, by omega, rfl, rfl, rfl, rfl, rfl⟩
  · rintro ⟨e, ds, s1⟩ ⟨hall, rfl, hlen, h0⟩
    simp only at hlen h0
    have hV := inV_all hall
    have hdR : (diffs l).all inR = true := List.all_eq_true.2 fun d hd => by have := diffs_mem hV d hd; simp [inR]; omega
    have hdl := diffs_len l
    have hrl := runE_len _ (diffs l) (Nat.le_refl _) hdR (by omega)
    have ea : appV [] (l.length : Int) = (vb l.length, 0) := by unfold appV; rw [if_neg (by omega), Int.toNat_natCast]; rfl
    refine Wc.seq ?_
    refine Wc.reg fun K hK => ?_; simp only [go_sem, ti3, ti113, ti9, ti5, ti111, ti77, ti4, ti35, hlen, h0]
    refine wpCall.pf (pf66 [] (l.length : Int) (by decide)) (by kernel_rfl) (by kernel_rfl) rfl rfl ?_
    simp only [go_sem, ti3, ti113, ti9, ti5, ti111, ti77, ti4, ti35, hlen, h0, ea]; refine hK _ _ ?_; clear hK K
    rw [e0, if_pos hall]
    refine Wc.seqA (fun y => y.ds = [] ∧ y.e.length = 50 ∧ y.e.getD 0 .junk = P' (.lst l.length (l.map pI)) ∧ y.e.getD 5 .junk = P' (.str (vb l.length ++ first1 l))) ?_ ?_
    · refine Wc.seq ?_
      refine Wc.reg fun K hK => ?_; simp only [go_sem, ti3, ti113, ti9, ti5, ti111, ti77, ti4, ti35, hlen, h0]; refine hK _ _ ?_; clear hK K
      refine Wc.cond (t := decide (0 < (l.length : Int))) (by simp only [go_sem, ti3, ti113, ti9, ti5, ti111, ti77, ti4, ti35, hlen]) (fun hc => ?_) (fun hc => ?_)
      · have hl0 : 0 < l.length := by have : 0 < (l.length : Int) := by simpa using hc
                                      omega
        obtain ⟨x, hx⟩ : ∃ x, l[0]? = some x := ⟨l[0], List.getElem?_eq_getElem hl0⟩
        have hix := ixA ti77 rfl ti3 (j := 0) (m := l.length) (cs := l.map pI) hl0 (by simp) (by decide)
        rw [show ((0 : Nat) : Int) = 0 from rfl, Nat.zero_mul] at hix
        have hca := rpA (off := 0) (drop_map pI hx) (by simp)
        have hxR := inV_R (List.all_eq_true.1 hall x (List.mem_of_getElem? hx))
        have eb : appS (vb l.length) x = (vb l.length ++ first1 l, 0) := by
          unfold appS; rw [hxR]
          cases l with
          | nil => simp at hl0
          | cons y r => simp at hx; subst hx; rfl
        refine Wc.reg fun K hK => ?_; simp only [go_sem, ti3, ti113, ti9, ti5, ti111, ti77, ti4, ti35, hlen, h0, hix, hca, Int.natCast_zero, ea]
        refine wpCall.pf (pf72 (vb l.length) x (by omega)) (by kernel_rfl) (by kernel_rfl) rfl rfl ?_
        simp only [go_sem, ti3, ti113, ti9, ti5, ti111, ti77, ti4, ti35, hlen, h0, eb]; refine hK _ _ ?_; clear hK K
        exact ⟨rfl, rfl, by simp only [go_sem, ti3, ti113, ti9, ti5, ti111, ti77, ti4, ti35, hlen], by simp only [go_sem, ti3, ti113, ti9, ti5, ti111, ti77, ti4, ti35, hlen, h0], by simp only [go_sem, ti3, ti113, ti9, ti5, ti111, ti77, ti4, ti35, hlen, eb]⟩
      · have hl0 : l = [] := by
          have : ¬ 0 < (l.length : Int) := by simpa using hc
          exact List.length_eq_zero_iff.1 (by omega)
        refine Wc.skip ⟨rfl, rfl, by simp only [go_sem, ti3, ti113, ti9, ti5, ti111, ti77, ti4, ti35, hlen], by simp only [go_sem, ti3, ti113, ti9, ti5, ti111, ti77, ti4, ti35, hlen, h0], ?_⟩
        subst hl0
        simp only [go_sem, ti3, ti113, ti9, ti5, ti111, ti77, ti4, ti35, hlen, ea, first1]
    · clear hlen h0 e s1
      rintro ⟨e, ds, s1⟩ ⟨rfl, hlen, h0, h5⟩
      simp only at hlen h0 h5
      have hfl : (first1 l).length ≤ 10 := by
        cases l with
        | nil => simp [first1]
        | cons x r => exact vb_len10 (by have := zz_lt (inV_R (List.all_eq_true.1 hall x (by simp))); omega)
      refine Wc.seq ?_
      refine Wc.reg fun K hK => ?_; simp only [go_sem, ti3, ti113, ti9, ti5, ti111, ti77, ti4, ti35, hlen, h0, h5]
      refine wpCall.pf (pf73 l hl (fun x hx => by have := hV x hx; omega)) (by kernel_rfl) (by kernel_rfl) rfl rfl ?_
      simp only [go_sem, ti3, ti113, ti9, ti5, ti111, ti77, ti4, ti35, hlen, h0, h5]
      refine wpCall.pf (pf74 (diffs l) (by omega) hdR) (by kernel_rfl) (by kernel_rfl) rfl rfl ?_
      have hlt : ¬ (9223372036854775807 < (vb l.length ++ first1 l).length + (runE (diffs l)).length) := by simp; omega
      simp only [go_sem, ti3, ti113, ti9, ti5, ti111, ti77, ti4, ti35, hlen, h0, h5, hlt]; refine hK _ _ ?_; clear hK K
      exact Wc.ret (Pf.ret [.tmp 2, .tmp 3] [.c (.p (.str (vb l.length ++ first1 l ++ runE (diffs l)))), .c (.p (.int .i64 0))] rfl rfl (by simp only [resultsD, go_sem, ti3, ti113, ti9, ti5, ti111, ti77, ti4, ti35, hlen]) rfl)
end Go.Proofs.YtafaoldmemcigaaGreat.Ab
namespace Go.Proofs.YtafaoldmemcigaaGreat.Ab
set_option maxHeartbeats 4000000
set_option maxRecDepth 10000
set_option linter.unusedSimpArgs false
set_option linter.unusedVariables false
/-- Why a list is no column of times, behind the number before it. -/
def chk1 : Option Int → List Int → Int
  | _, [] => 0
  | p, x :: r => if x < 1 ∨ 1099511627776 < x then 2 else match p with
    | some y => if x ≤ y then 9 else chk1 (some x) r
    | none => chk1 (some x) r
def chkT (l : List Int) : Int := if 20000 < l.length then 4 else chk1 none l
def prev (l : List Int) (i : Nat) : Option Int := if i = 0 then none else l[i - 1]?
theorem chk1_step {l : List Int} {i : Nat} {x : Int} (h : l[i]? = some x) : chk1 (prev l i) (l.drop i) = if x < 1 ∨ 1099511627776 < x then 2 else match prev l i with
    | some y => if x ≤ y then 9 else chk1 (prev l (i + 1)) (l.drop (i + 1))
    | none => chk1 (prev l (i + 1)) (l.drop (i + 1)) := by
  have hi := (List.getElem?_eq_some_iff.1 h).1
  have hx := (List.getElem?_eq_some_iff.1 h).2
  have hp : prev l (i + 1) = some x := by simp [prev, h]
  rw [List.drop_eq_getElem_cons hi, hx, hp]
  cases prev l i <;> rfl
/-- 71: the reference's CheckTimes -/
theorem pf71 (l : List Int) (hl : l.length < 2^40) : Pf E0 71 [.c (.p (.lst l.length (l.map pI)))] (P' (.int .i64 (chkT l))) := by
  refine Pf.body (fn := Tryz.f71) (by kernel_rfl) rfl ?_; simp only [List.map_cons, List.map_nil, List.cons_append, List.nil_append, List.length_cons, List.length_nil, Tryz.ntmps71, List.replicate, Nat.reduceSub, Nat.reduceAdd]
  refine Wc.seq ?_
  refine Wc.reg fun K hK => ?_; simp only [go_sem, ti3, ti113, ti9, ti5, ti111, ti77, ti4, ti35]; refine hK _ _ ?_; clear hK K
  refine Wc.seq (Wc.seq ?_)
  refine Wc.reg fun K hK => ?_; simp only [go_sem, ti3, ti113, ti9, ti5, ti111, ti77, ti4, ti35]; refine hK _ _ ?_; clear hK K
  refine Wc.cond (t := decide ((20000 : Int) < l.length)) rfl (fun hc => ?_) (fun hc => ?_)
  · have hc' : (20000 : Int) < l.length := by simpa using hc
    have e : chkT l = 4 := by unfold chkT; rw [if_pos (by omega)]
    refine Wc.seq ?_
    refine Wc.reg fun K hK => ?_; simp only [go_sem, ti3, ti113, ti9, ti5, ti111, ti77, ti4, ti35]; refine hK _ _ ?_; clear hK K
    rw [e]
    exact Wc.ret (Pf.ret [.tmp 2] [.c (.p (.int .i64 4))] rfl rfl (by simp only [resultsD, go_sem, ti3, ti113, ti9, ti5, ti111, ti77, ti4, ti35]) rfl)
  have hc' : ¬ (20000 : Int) < l.length := by simpa using hc
  have e0 : chkT l = chk1 (prev l 0) (l.drop 0) := by unfold chkT; rw [if_neg (by omega)]; rfl
  refine Wc.skip (Wc.seq (Wc.seq ?_))
  refine Wc.reg fun K hK => ?_; simp only [go_sem, ti3, ti113, ti9, ti5, ti111, ti77, ti4, ti35]; refine hK _ _ ?_; clear hK K
  refine Wc.block (Wc.loop (fun k y => ∃ (i : Nat), k = l.length - i ∧ i ≤ l.length ∧ y.ds = [] ∧ y.e.length = 39 ∧ y.e.getD 0 .junk = P' (.lst l.length (l.map pI)) ∧ y.e.getD 3 .junk = P' (.int .i64 i) ∧ chkT l = chk1 (prev l i) (l.drop i)) ?_ (k := l.length) ?_)
  · rintro k ⟨e, ds, s1⟩ ⟨i, rfl, hi, rfl, hlen, h0, h3, hch⟩
    simp only at hlen h0 h3
    refine Wc.seq (Wc.seq ?_)
    refine Wc.reg fun K hK => ?_; simp only [go_sem, ti3, ti113, ti9, ti5, ti111, ti77, ti4, ti35, hlen, h0, h3]; refine hK _ _ ?_; clear hK K
    refine Wc.cond (t := decide ((i : Int) < l.length)) (by simp only [go_sem, ti3, ti113, ti9, ti5, ti111, ti77, ti4, ti35, hlen]) (fun hc => ?_) (fun hc => ?_)
    · have hil : i < l.length := by have : (i : Int) < l.length := by simpa using hc
                                    omega
      obtain ⟨x, hx⟩ : ∃ x, l[i]? = some x := ⟨l[i], List.getElem?_eq_getElem hil⟩
      have hix := ixA ti77 rfl ti3 (j := i) (m := l.length) (cs := l.map pI) hil (by simp) (by decide)
      have hca := rpA (off := i) (drop_map pI hx) (by simp; omega)
      rw [chk1_step hx] at hch
      refine Wc.skip (Wc.seq (Wc.block (Wc.seq (Wc.seq ?_))))
      have bad : (x < 1 ∨ 1099511627776 < x) → ∀ (e : List D) (s1 : St), e.length = 39 → e.getD 2 .junk = P' (.int .i64 2) → True := fun _ _ _ _ _ => trivial
      by_cases hlo : x < 1
      · rw [if_pos (.inl hlo)] at hch
        refine Wc.reg fun K hK => ?_; simp only [go_sem, ti3, ti113, ti9, ti5, ti111, ti77, ti4, ti35, hlen, h0, h3, hix, hca, hlo]; refine hK _ _ ?_; clear hK K
        refine Wc.cond (t := true) (by simp only [go_sem, ti3, ti113, ti9, ti5, ti111, ti77, ti4, ti35, hlen]) (fun hc => ?_) (fun hc => by cases hc)
        refine Wc.seq ?_
        refine Wc.reg fun K hK => ?_; simp only [go_sem, ti3, ti113, ti9, ti5, ti111, ti77, ti4, ti35, hlen, h0, h3]; refine hK _ _ ?_; clear hK K
        rw [hch]
        exact Wc.ret (Pf.ret [.tmp 2] [.c (.p (.int .i64 2))] rfl rfl (by simp only [resultsD, go_sem, ti3, ti113, ti9, ti5, ti111, ti77, ti4, ti35, hlen]) rfl)
      · refine Wc.reg fun K hK => ?_; simp only [go_sem, ti3, ti113, ti9, ti5, ti111, ti77, ti4, ti35, hlen, h0, h3, hix, hca, hlo]; refine hK _ _ ?_; clear hK K
        refine Wc.cond (t := decide (1099511627776 < x)) (by simp only [go_sem, ti3, ti113, ti9, ti5, ti111, ti77, ti4, ti35, hlen]) (fun hc => ?_) (fun hc => ?_)
        · have hhi : 1099511627776 < x := by simpa using hc
          rw [if_pos (.inr hhi)] at hch
          refine Wc.seq ?_
          refine Wc.reg fun K hK => ?_; simp only [go_sem, ti3, ti113, ti9, ti5, ti111, ti77, ti4, ti35, hlen, h0, h3]; refine hK _ _ ?_; clear hK K
          rw [hch]
          exact Wc.ret (Pf.ret [.tmp 2] [.c (.p (.int .i64 2))] rfl rfl (by simp only [resultsD, go_sem, ti3, ti113, ti9, ti5, ti111, ti77, ti4, ti35, hlen]) rfl)
        · have hhi : ¬ 1099511627776 < x := by simpa using hc
          rw [if_neg (by omega)] at hch
          refine Wc.skip (Wc.seq ?_)
          by_cases hi0 : 0 < i
          · obtain ⟨y, hy⟩ : ∃ y, l[i - 1]? = some y := ⟨l[i - 1], List.getElem?_eq_getElem (by omega)⟩
            have hiy := ixA ti77 rfl ti3 (j := i - 1) (m := l.length) (cs := l.map pI) (by omega) (by simp) (by decide)
            have hcb := rpA (off := i - 1) (drop_map pI hy) (by simp; omega)
            have e1 : IntKind.i64.wrap ((i : Int) - 1) = ((i - 1 : Nat) : Int) := by rw [wi64]; omega
            have hd : (0 < (i : Int)) = True := by simp; omega
            have hpr : prev l i = some y := by unfold prev; rw [if_neg (by omega)]; exact hy
            rw [hpr] at hch
            simp only at hch
            refine Wc.regD fun K hK => ?_; simp only [go_sem, ti3, ti113, ti9, ti5, ti111, ti77, ti4, ti35, hlen, h0, h3, hix, hca, hiy, hcb, e1, hd]; refine hK _ _ ?_; clear hK K
            refine Wc.cond (t := decide (x ≤ y)) (by simp only [go_sem, ti3, ti113, ti9, ti5, ti111, ti77, ti4, ti35, hlen, hd]) (fun hc => ?_) (fun hc => ?_)
            · have hxy : x ≤ y := by simpa using hc
              rw [if_pos hxy] at hch
              refine Wc.seq ?_
              refine Wc.reg fun K hK => ?_; simp only [go_sem, ti3, ti113, ti9, ti5, ti111, ti77, ti4, ti35, hlen, h0, h3]; refine hK _ _ ?_; clear hK K
              rw [hch]
              exact Wc.ret (Pf.ret [.tmp 2] [.c (.p (.int .i64 9))] rfl rfl (by simp only [resultsD, go_sem, ti3, ti113, ti9, ti5, ti111, ti77, ti4, ti35, hlen]) rfl)
            · have hxy : ¬ x ≤ y := by simpa using hc
              rw [if_neg hxy] at hch
              refine Wc.skip ?_
              refine Wc.reg fun K hK => ?_; simp only [go_sem, ti3, ti113, ti9, ti5, ti111, ti77, ti4, ti35, hlen, h0, h3, i64n i (by omega)]; refine hK _ _ ?_; clear hK K
              exact ⟨l.length - (i + 1), by omega, i + 1, rfl, by omega, rfl, by simp only [go_sem, ti3, ti113, ti9, ti5, ti111, ti77, ti4, ti35, hlen], by simp only [go_sem, ti3, ti113, ti9, ti5, ti111, ti77, ti4, ti35, hlen, h0], by simp only [go_sem, ti3, ti113, ti9, ti5, ti111, ti77, ti4, ti35, hlen], hch⟩
          · have hd : (0 < (i : Int)) = False := by simp; omega
            have hpr : prev l i = none := by unfold prev; rw [if_pos (by omega)]
            rw [hpr] at hch
            simp only at hch
            refine Wc.regD fun K hK => ?_; simp only [go_sem, ti3, ti113, ti9, ti5, ti111, ti77, ti4, ti35, hlen, h0, h3, hd]; refine hK _ _ ?_; clear hK K
            refine Wc.cond (t := false) (by simp only [go_sem, ti3, ti113, ti9, ti5, ti111, ti77, ti4, ti35, hlen, hd]) (fun hc => by cases hc) (fun hc => ?_)
            refine Wc.skip ?_
            refine Wc.reg fun K hK => ?_; simp only [go_sem, ti3, ti113, ti9, ti5, ti111, ti77, ti4, ti35, hlen, h0, h3, i64n i (by omega)]; refine hK _ _ ?_; clear hK K
            exact ⟨l.length - (i + 1), by omega, i + 1, rfl, by omega, rfl, by simp only [go_sem, ti3, ti113, ti9, ti5, ti111, ti77, ti4, ti35, hlen], by simp only [go_sem, ti3, ti113, ti9, ti5, ti111, ti77, ti4, ti35, hlen, h0], by simp only [go_sem, ti3, ti113, ti9, ti5, ti111, ti77, ti4, ti35, hlen], hch⟩
    · have hil : i = l.length := by have : ¬ (i : Int) < l.length := by simpa using hc
                                    omega
      rw [hil, List.drop_length] at hch
      have hch : chkT l = 0 := by rw [hch]; cases prev l l.length <;> rfl
      refine Wc.exit ?_
      refine Wc.seq ?_
      refine Wc.reg fun K hK => ?_; simp only [go_sem, ti3, ti113, ti9, ti5, ti111, ti77, ti4, ti35, hlen, h0, h3]; refine hK _ _ ?_; clear hK K
      rw [hch]
      exact Wc.ret (Pf.ret [.tmp 2] [.c (.p (.int .i64 0))] rfl rfl (by simp only [resultsD, go_sem, ti3, ti113, ti9, ti5, ti111, ti77, ti4, ti35, hlen]) rfl)
  · exact ⟨0, rfl, by omega, rfl, rfl, rfl, rfl, e0⟩
end Go.Proofs.YtafaoldmemcigaaGreat.Ab
namespace Go.Proofs.YtafaoldmemcigaaGreat.Ab
set_option maxHeartbeats 4000000
set_option maxRecDepth 10000
set_option linter.unusedSimpArgs false
set_option linter.unusedVariables false
def encT (l : List Int) : List UInt8 × Int := if chkT l = 0 then (vb l.length ++ first1 l ++ first1 (diffs l) ++ runE (diffs (diffs l)), 0) else ([], chkT l)
theorem chk1_mem : ∀ {l : List Int} {p : Option Int}, chk1 p l = 0 → ∀ x ∈ l, 1 ≤ x ∧ x ≤ 1099511627776
  | [], _, _, x, hx => by cases hx
  | y :: r, p, h, x, hx => by
    have h1 : ¬ (y < 1 ∨ 1099511627776 < y) := fun hb => by
      cases p <;> simp only [chk1] at h <;> rw [if_pos hb] at h <;> cases h
    have h2 : chk1 (some y) r = 0 := by
      cases p with
      | none => simp only [chk1] at h; rw [if_neg h1] at h; exact h
      | some z =>
        simp only [chk1] at h
        rw [if_neg h1] at h
        split at h
        · cases h
        · exact h
    rcases List.mem_cons.1 hx with rfl | hx
    · omega
    · exact chk1_mem h2 x hx
theorem chkT_ok {l : List Int} (h : chkT l = 0) : l.length ≤ 20000 ∧ ∀ x ∈ l, 1 ≤ x ∧ x ≤ 1099511627776 := by
  unfold chkT at h
  split at h
  · cases h
  · exact ⟨by omega, chk1_mem h⟩
theorem first1_len {l : List Int} (h : ∀ x ∈ l, inR x = true) : (first1 l).length ≤ 10 := by
  cases l with
  | nil => simp [first1]
  | cons x r => exact vb_len10 (by have := zz_lt (h x (by simp)); omega)
/-- 32: the reference's EncodeTimes -/
theorem pf32 (l : List Int) (hl : l.length < 2^40) : Pf E0 32 [.c (.p (.lst l.length (l.map pI)))] (.tup [.c (.p (.str (encT l).1)), .c (.p (.int .i64 (encT l).2))]) := by
  refine Pf.body (fn := Tryz.f32) (by kernel_rfl) rfl ?_; simp only [List.map_cons, List.map_nil, List.cons_append, List.nil_append, List.length_cons, List.length_nil, Tryz.ntmps32, List.replicate, Nat.reduceSub, Nat.reduceAdd]
  refine Wc.seq ?_
  refine Wc.reg fun K hK => ?_; simp only [go_sem, ti3, ti113, ti9, ti5, ti111, ti77, ti4, ti35]; refine hK _ _ ?_; clear hK K
  refine Wc.seq (Wc.seq ?_)
  refine Wc.reg fun K hK => ?_; simp only [go_sem, ti3, ti113, ti9, ti5, ti111, ti77, ti4, ti35]
  refine wpCall.pf (pf71 l hl) (by kernel_rfl) (by kernel_rfl) rfl rfl ?_
  simp only [go_sem, ti3, ti113, ti9, ti5, ti111, ti77, ti4, ti35]; refine hK _ _ ?_; clear hK K
  refine Wc.seq ?_
  refine Wc.reg fun K hK => ?_; simp only [go_sem, ti3, ti113, ti9, ti5, ti111, ti77, ti4, ti35]; refine hK _ _ ?_; clear hK K
  refine Wc.cond (t := (chkT l != 0)) rfl (fun hc => ?_) (fun hc => ?_)
  · have hc' : chkT l ≠ 0 := by simpa using hc
    have e : encT l = ([], chkT l) := by unfold encT; rw [if_neg hc']
    refine Wc.seq ?_
    refine Wc.reg fun K hK => ?_; simp only [go_sem, ti3, ti113, ti9, ti5, ti111, ti77, ti4, ti35]; refine hK _ _ ?_; clear hK K
    rw [e]
    exact Wc.ret (Pf.ret [.tmp 2, .tmp 3] [.c (.p (.str [])), .c (.p (.int .i64 (chkT l)))] rfl rfl (by simp only [resultsD, go_sem, ti3, ti113, ti9, ti5, ti111, ti77, ti4, ti35]) rfl)
  have hc' : chkT l = 0 := by simpa using hc
  have e0 : encT l = (vb l.length ++ first1 l ++ first1 (diffs l) ++ runE (diffs (diffs l)), 0) := by unfold encT; rw [if_pos hc']
  obtain ⟨hl2, hV⟩ := chkT_ok hc'
  have hvl := vb_len10 (n := l.length) (by omega)
  have hR : ∀ x ∈ l, inR x = true := fun x hx => by have := hV x hx; simp [inR]; omega
  have hD := diffs_mem hV
  have hDR : ∀ x ∈ diffs l, inR x = true := fun x hx => by have := hD x hx; simp [inR]; omega
  have hDD := diffs_mem hD
  have hDDR : (diffs (diffs l)).all inR = true := List.all_eq_true.2 fun d hd => by have := hDD d hd; simp [inR]; omega
  have hdl := diffs_len l
  have hddl := diffs_len (diffs l)
  have hrl := runE_len _ (diffs (diffs l)) (Nat.le_refl _) hDDR (by omega)
  have f1 := first1_len hR
  have f2 := first1_len hDR
  have ea : appV [] (l.length : Int) = (vb l.length, 0) := by unfold appV; rw [if_neg (by omega), Int.toNat_natCast]; rfl
  have one : ∀ (t : List UInt8) (m : List Int) (x : Int), m[0]? = some x → (∀ x ∈ m, inR x = true) → appS t x = (t ++ first1 m, 0) := fun t m x hx hm => by
    unfold appS
    rw [hm x (List.mem_of_getElem? hx)]
    cases m with
    | nil => simp at hx
    | cons y r => simp at hx; subst hx; rfl
  refine Wc.skip (Wc.seq ?_)
  refine Wc.reg fun K hK => ?_; simp only [go_sem, ti3, ti113, ti9, ti5, ti111, ti77, ti4, ti35]
  refine wpCall.pf (pf66 [] (l.length : Int) (by decide)) (by kernel_rfl) (by kernel_rfl) rfl rfl ?_
  simp only [go_sem, ti3, ti113, ti9, ti5, ti111, ti77, ti4, ti35, ea]; refine hK _ _ ?_; clear hK K
  rw [e0]
  refine Wc.seqA (fun y => y.ds = [] ∧ y.e.length = 48 ∧ y.e.getD 0 .junk = P' (.lst l.length (l.map pI)) ∧ y.e.getD 5 .junk = P' (.str (vb l.length ++ first1 l))) ?_ ?_
  · refine Wc.seq ?_
    refine Wc.reg fun K hK => ?_; simp only [go_sem, ti3, ti113, ti9, ti5, ti111, ti77, ti4, ti35]; refine hK _ _ ?_; clear hK K
    refine Wc.cond (t := decide (0 < (l.length : Int))) (by simp only [go_sem, ti3, ti113, ti9, ti5, ti111, ti77, ti4, ti35]) (fun hc => ?_) (fun hc => ?_)
    · have hl0 : 0 < l.length := by have : 0 < (l.length : Int) := by simpa using hc
                                    omega
      obtain ⟨x, hx⟩ : ∃ x, l[0]? = some x := ⟨l[0], List.getElem?_eq_getElem hl0⟩
      have hix := ixA ti77 rfl ti3 (j := 0) (m := l.length) (cs := l.map pI) hl0 (by simp) (by decide)
      rw [show ((0 : Nat) : Int) = 0 from rfl, Nat.zero_mul] at hix
      have hca := rpA (off := 0) (drop_map pI hx) (by simp)
      refine Wc.reg fun K hK => ?_; simp only [go_sem, ti3, ti113, ti9, ti5, ti111, ti77, ti4, ti35, hix, hca, ea]
      refine wpCall.pf (pf72 (vb l.length) x (by omega)) (by kernel_rfl) (by kernel_rfl) rfl rfl ?_
      simp only [go_sem, ti3, ti113, ti9, ti5, ti111, ti77, ti4, ti35, one _ _ _ hx hR]; refine hK _ _ ?_; clear hK K
      exact ⟨rfl, rfl, rfl, by simp only [go_sem, ti3, ti113, ti9, ti5, ti111, ti77, ti4, ti35]⟩
    · have hl0 : l = [] := by
        have : ¬ 0 < (l.length : Int) := by simpa using hc
        exact List.length_eq_zero_iff.1 (by omega)
      refine Wc.skip ⟨rfl, rfl, rfl, ?_⟩
      subst hl0
      simp only [go_sem, ti3, ti113, ti9, ti5, ti111, ti77, ti4, ti35, ea, first1]
  · rintro ⟨e, ds, s1⟩ ⟨rfl, hlen, h0, h5⟩
    simp only at hlen h0 h5
    refine Wc.seq ?_
    refine Wc.reg fun K hK => ?_; simp only [go_sem, ti3, ti113, ti9, ti5, ti111, ti77, ti4, ti35, hlen, h0, h5]
    refine wpCall.pf (pf73 l hl (fun x hx => by have := hV x hx; omega)) (by kernel_rfl) (by kernel_rfl) rfl rfl ?_
    simp only [go_sem, ti3, ti113, ti9, ti5, ti111, ti77, ti4, ti35, hlen, h0, h5]; refine hK _ _ ?_; clear hK K
    refine Wc.seqA (fun y => y.ds = [] ∧ y.e.length = 48 ∧ y.e.getD 7 .junk = P' (.lst (diffs l).length ((diffs l).map pI)) ∧ y.e.getD 5 .junk = P' (.str (vb l.length ++ first1 l ++ first1 (diffs l)))) ?_ ?_
    · refine Wc.seq ?_
      refine Wc.reg fun K hK => ?_; simp only [go_sem, ti3, ti113, ti9, ti5, ti111, ti77, ti4, ti35, hlen, h0, h5]; refine hK _ _ ?_; clear hK K
      refine Wc.cond (t := decide (0 < ((diffs l).length : Int))) (by simp only [go_sem, ti3, ti113, ti9, ti5, ti111, ti77, ti4, ti35, hlen]) (fun hc => ?_) (fun hc => ?_)
      · have hl0 : 0 < (diffs l).length := by have : 0 < ((diffs l).length : Int) := by simpa using hc
                                              omega
        obtain ⟨x, hx⟩ : ∃ x, (diffs l)[0]? = some x := ⟨(diffs l)[0], List.getElem?_eq_getElem hl0⟩
        have hix := ixA ti77 rfl ti3 (j := 0) (m := (diffs l).length) (cs := (diffs l).map pI) hl0 (by simp) (by decide)
        rw [show ((0 : Nat) : Int) = 0 from rfl, Nat.zero_mul] at hix
        have hca := rpA (off := 0) (drop_map pI hx) (by simp)
        refine Wc.reg fun K hK => ?_; simp only [go_sem, ti3, ti113, ti9, ti5, ti111, ti77, ti4, ti35, hlen, h0, h5, hix, hca]
        refine wpCall.pf (pf72 (vb l.length ++ first1 l) x (by simp; omega)) (by kernel_rfl) (by kernel_rfl) rfl rfl ?_
        simp only [go_sem, ti3, ti113, ti9, ti5, ti111, ti77, ti4, ti35, hlen, h0, h5, one _ _ _ hx hDR]; refine hK _ _ ?_; clear hK K
        exact ⟨rfl, by simp only [go_sem, ti3, ti113, ti9, ti5, ti111, ti77, ti4, ti35, hlen], by simp only [go_sem, ti3, ti113, ti9, ti5, ti111, ti77, ti4, ti35, hlen], by simp only [go_sem, ti3, ti113, ti9, ti5, ti111, ti77, ti4, ti35, hlen]⟩
      · have hl0 : diffs l = [] := by
          have : ¬ 0 < ((diffs l).length : Int) := by simpa using hc
          exact List.length_eq_zero_iff.1 (by omega)
        refine Wc.skip ⟨rfl, by simp only [go_sem, ti3, ti113, ti9, ti5, ti111, ti77, ti4, ti35, hlen], by simp only [go_sem, ti3, ti113, ti9, ti5, ti111, ti77, ti4, ti35, hlen], ?_⟩
        simp only [go_sem, ti3, ti113, ti9, ti5, ti111, ti77, ti4, ti35, hlen, h5, hl0, first1]
    · clear hlen h0 h5 e s1
      rintro ⟨e, ds, s1⟩ ⟨rfl, hlen, h7, h5⟩
      simp only at hlen h7 h5
      refine Wc.seq ?_
      refine Wc.reg fun K hK => ?_; simp only [go_sem, ti3, ti113, ti9, ti5, ti111, ti77, ti4, ti35, hlen, h7, h5]
      refine wpCall.pf (pf73 (diffs l) (by omega) (fun x hx => by have := hD x hx; omega)) (by kernel_rfl) (by kernel_rfl) rfl rfl ?_
      simp only [go_sem, ti3, ti113, ti9, ti5, ti111, ti77, ti4, ti35, hlen, h7, h5]
      refine wpCall.pf (pf74 (diffs (diffs l)) (by omega) hDDR) (by kernel_rfl) (by kernel_rfl) rfl rfl ?_
      have hlt : ¬ (9223372036854775807 < (vb l.length ++ first1 l ++ first1 (diffs l)).length + (runE (diffs (diffs l))).length) := by simp; omega
      simp only [go_sem, ti3, ti113, ti9, ti5, ti111, ti77, ti4, ti35, hlen, h7, h5, hlt]; refine hK _ _ ?_; clear hK K
      exact Wc.ret (Pf.ret [.tmp 2, .tmp 3] [.c (.p (.str (vb l.length ++ first1 l ++ first1 (diffs l) ++ runE (diffs (diffs l))))), .c (.p (.int .i64 0))] rfl rfl (by simp only [resultsD, go_sem, ti3, ti113, ti9, ti5, ti111, ti77, ti4, ti35, hlen]) rfl)
end Go.Proofs.YtafaoldmemcigaaGreat.Ab
namespace Go.Proofs.YtafaoldmemcigaaGreat.Ab
set_option maxHeartbeats 4000000
set_option maxRecDepth 10000
set_option linter.unusedSimpArgs false
set_option linter.unusedVariables false
/-- The reference's writer. -/
abbrev wR (t : List UInt8) (e : Int) : V := .agg [.p (.str t), .p (.int .i64 e)]
/-- 29: number -/
theorem pf29 (t : List UInt8) (e n : Int) (ht : t.length ≤ 4611686018427387904) : Pf E0 29 [wR t e, .c (.p (.int .i64 n))] (.v (wR (appV t n).1 e)) := by
  refine Pf.body (fn := Tryz.f29) (by kernel_rfl) rfl ?_; simp only [List.map_cons, List.map_nil, List.cons_append, List.nil_append, List.length_cons, List.length_nil, Tryz.ntmps29, List.replicate, Nat.reduceSub, Nat.reduceAdd]
  refine Wc.seq ?_
  refine Wc.reg fun K hK => ?_; simp only [go_sem, ti3, ti9, ti77, ti4, ti35, ti75]; refine hK _ _ ?_; clear hK K
  refine Wc.seq ?_
  refine Wc.reg fun K hK => ?_; simp only [go_sem, ti3, ti9, ti77, ti4, ti35, ti75]
  refine wpCall.pf (pf66 t n ht) (by kernel_rfl) (by kernel_rfl) rfl rfl ?_
  simp only [go_sem, ti3, ti9, ti77, ti4, ti35, ti75]; refine hK _ _ ?_; clear hK K
  refine Wc.seq ?_
  refine Wc.reg fun K hK => ?_; simp only [go_sem, ti3, ti9, ti77, ti4, ti35, ti75]; refine hK _ _ ?_; clear hK K
  exact Wc.ret (Pf.ret [.cell 4 75] [wR (appV t n).1 e] rfl rfl (by simp only [resultsD, go_sem, ti3, ti9, ti77, ti4, ti35, ti75]) rfl)
/-- What a writer comes to by a part. -/
def partW (w : List UInt8 × Int) (t : List UInt8) (e : Int) : List UInt8 × Int := if w.2 ≠ 0 then w else if e ≠ 0 then ([], 4) else ((appV w.1 t.length).1 ++ t, 0)
/-- 31: part -/
theorem pf31 (w : List UInt8 × Int) (t : List UInt8) (e : Int) (hw : w.1.length ≤ 2^60) (ht : t.length ≤ 2^60) : Pf E0 31 [wR w.1 w.2, .c (.p (.str t)), .c (.p (.int .i64 e))] (.v (wR (partW w t e).1 (partW w t e).2)) := by
  refine Pf.body (fn := Tryz.f31) (by kernel_rfl) rfl ?_; simp only [List.map_cons, List.map_nil, List.cons_append, List.nil_append, List.length_cons, List.length_nil, Tryz.ntmps31, List.replicate, Nat.reduceSub, Nat.reduceAdd]
  refine Wc.seq ?_
  refine Wc.reg fun K hK => ?_; simp only [go_sem, ti3, ti9, ti77, ti4, ti35, ti75]; refine hK _ _ ?_; clear hK K
  refine Wc.seq (Wc.seq ?_)
  refine Wc.reg fun K hK => ?_; simp only [go_sem, ti3, ti9, ti77, ti4, ti35, ti75]; refine hK _ _ ?_; clear hK K
  refine Wc.cond (t := (w.2 != 0)) (by simp only [go_sem, ti3, ti9, ti77, ti4, ti35, ti75]) (fun hc => ?_) (fun hc => ?_)
  · have hc' : w.2 ≠ 0 := by simpa using hc
    have e1 : partW w t e = w := by unfold partW; rw [if_pos hc']
    rw [e1]
    refine Wc.seq ?_
    refine Wc.reg fun K hK => ?_; simp only [go_sem, ti3, ti9, ti77, ti4, ti35, ti75]; refine hK _ _ ?_; clear hK K
    exact Wc.ret (Pf.ret [.cell 6 75] [wR w.1 w.2] rfl rfl (by simp only [resultsD, go_sem, ti3, ti9, ti77, ti4, ti35, ti75]) rfl)
  have hc' : w.2 = 0 := by simpa using hc
  refine Wc.skip (Wc.seq (Wc.seq ?_))
  refine Wc.reg fun K hK => ?_; simp only [go_sem, ti3, ti9, ti77, ti4, ti35, ti75]; refine hK _ _ ?_; clear hK K
  refine Wc.cond (t := (e != 0)) rfl (fun hd => ?_) (fun hd => ?_)
  · have hd' : e ≠ 0 := by simpa using hd
    have e1 : partW w t e = ([], 4) := by unfold partW; rw [if_neg (by simpa using hc'), if_pos hd']
    rw [e1]
    refine Wc.seq ?_
    refine Wc.reg fun K hK => ?_; simp only [go_sem, ti3, ti9, ti77, ti4, ti35, ti75]; refine hK _ _ ?_; clear hK K
    exact Wc.ret (Pf.ret [.cell 6 75] [wR [] 4] rfl rfl (by simp only [resultsD, go_sem, ti3, ti9, ti77, ti4, ti35, ti75]) rfl)
  have hd' : e = 0 := by simpa using hd
  have e1 : partW w t e = ((appV w.1 t.length).1 ++ t, 0) := by unfold partW; rw [if_neg (by simpa using hc'), if_neg (by simpa using hd')]
  have hal : (appV w.1 t.length).1.length ≤ 2^60 + 10 := by
    unfold appV
    split
    · simp
    · have := vb_len10 (n := (t.length : Int).toNat) (by omega)
      simp at this ⊢; omega
  have hlt : ¬ (9223372036854775807 < (appV w.1 t.length).1.length + t.length) := by omega
  rw [e1]
  refine Wc.skip (Wc.seq ?_)
  refine Wc.reg fun K hK => ?_; simp only [go_sem, ti3, ti9, ti77, ti4, ti35, ti75]
  refine wpCall.pf (pf29 w.1 w.2 t.length (by omega)) (by kernel_rfl) (by kernel_rfl) rfl rfl ?_
  simp only [go_sem, ti3, ti9, ti77, ti4, ti35, ti75]; refine hK _ _ ?_; clear hK K
  refine Wc.seq ?_
  refine Wc.reg fun K hK => ?_; simp only [go_sem, ti3, ti9, ti77, ti4, ti35, ti75, hlt]; refine hK _ _ ?_; clear hK K
  refine Wc.seq ?_
  refine Wc.reg fun K hK => ?_; simp only [go_sem, ti3, ti9, ti77, ti4, ti35, ti75]; refine hK _ _ ?_; clear hK K
  exact Wc.ret (Pf.ret [.cell 6 75] [wR ((appV w.1 t.length).1 ++ t) 0] rfl rfl (by simp only [resultsD, go_sem, ti3, ti9, ti77, ti4, ti35, ti75, hc']) rfl)
end Go.Proofs.YtafaoldmemcigaaGreat.Ab
namespace Go.Proofs.YtafaoldmemcigaaGreat.Ab
set_option maxHeartbeats 4000000
set_option maxRecDepth 10000
set_option linter.unusedSimpArgs false
set_option linter.unusedVariables false
theorem o75 : E0.opn 75 = false := by kernel_rfl
theorem x75 : E0.xt 75 = none := by kernel_rfl
theorem o31 : E0.opn 31 = false := by kernel_rfl
theorem x31 : E0.xt 31 = none := by kernel_rfl
theorem encV_len (l : List Int) (hl : l.length < 2^40) : (encV l).1.length ≤ 2^60 := by
  unfold encV
  split
  · simp
  · split
    · rename_i h1 hall
      have hV := inV_all hall
      have hdR : (diffs l).all inR = true := List.all_eq_true.2 fun d hd => by have := diffs_mem hV d hd; simp [inR]; omega
      have hdl := diffs_len l
      have hrl := runE_len _ (diffs l) (Nat.le_refl _) hdR (by omega)
      have hvl := vb_len10 (n := l.length) (by omega)
      have f1 := first1_len (l := l) fun x hx => inV_R (List.all_eq_true.1 hall x hx)
      simp; omega
    · simp
/-- 33: values -/
theorem pf33 (w : List UInt8 × Int) (l : List Int) (hw : w.1.length ≤ 2^60) (hl : l.length < 2^40) : Pf E0 33 [wR w.1 w.2, .c (.p (.lst l.length (l.map pI)))] (.v (wR (partW w (encV l).1 (encV l).2).1 (partW w (encV l).1 (encV l).2).2)) := by
  refine Pf.body (fn := Tryz.f33) (by kernel_rfl) rfl ?_; simp only [List.map_cons, List.map_nil, List.cons_append, List.nil_append, List.length_cons, List.length_nil, Tryz.ntmps33, List.replicate, Nat.reduceSub, Nat.reduceAdd]
  refine Wc.seq ?_
  refine Wc.reg fun K hK => ?_; simp only [go_sem, ti3, ti9, ti77, ti4, ti35, ti75]; refine hK _ _ ?_; clear hK K
  refine Wc.seq ?_
  refine Wc.regT fun K hK => ?_
  simp only [go_sem, ti3, ti9, ti77, ti4, ti35, ti75]
  refine wpCall.pf (pf75 l hl) (by kernel_rfl) (by kernel_rfl) rfl rfl ?_
  simp only [go_sem, ti3, ti9, ti77, ti4, ti35, ti75]
  refine wpCall.pf (pf31 w (encV l).1 (encV l).2 hw (encV_len l hl)) (by kernel_rfl) (by kernel_rfl) rfl rfl ?_
  simp only [go_sem, ti3, ti9, ti77, ti4, ti35, ti75, o75, x75, o31, x31]
  refine ⟨by rfl, hK _ _ ?_⟩
  exact Wc.ret (Pf.ret [.cell 4 75] [wR (partW w (encV l).1 (encV l).2).1 (partW w (encV l).1 (encV l).2).2] rfl rfl (by simp only [resultsD, go_sem, ti3, ti9, ti77, ti4, ti35, ti75]) rfl)
end Go.Proofs.YtafaoldmemcigaaGreat.Ab
namespace Go.Proofs.YtafaoldmemcigaaGreat.Ab
set_option maxHeartbeats 4000000
set_option maxRecDepth 10000
set_option linter.unusedSimpArgs false
set_option linter.unusedVariables false
/-- A chunk: signal, labels, zone, data. -/
abbrev chV (sig : Int) (lab : Pd) (z : List Pd) (d : List UInt8) : V := .agg ([.p (pI sig), .p lab] ++ z.map .p ++ [.p (.str d)])
abbrev zz0 : List Pd := [pI 0, pI 0, pI 0, pI 0, pI 0, .int .u32 0, .int .u32 0, .int .u32 0, .int .u32 0, .int .u32 0, .int .u32 0, .int .u32 0, .int .u32 0]
abbrev noCh : V := chV 0 (.lst 0 []) zz0 []
/-- 34: chunk -/
theorem pf34 (w : List UInt8 × Int) (sig : Int) (n : Nat) (cs : List Pd) (z0 z1 z2 z3 z4 z5 z6 z7 z8 z9 z10 z11 z12 : Pd) : Pf E0 34 [wR w.1 w.2, .c (.p (pI sig)), .c (.p (.lst n cs)), .agg [.p z0, .p z1, .p z2, .p z3, .p z4, .p z5, .p z6, .p z7, .p z8, .p z9, .p z10, .p z11, .p z12]]
    (if w.2 ≠ 0 ∨ 262144 < w.1.length then .tup [noCh, .c (.p (pI 4))] else .tup [chV sig (.lst n cs) [z0, z1, z2, z3, z4, z5, z6, z7, z8, z9, z10, z11, z12] w.1, .c (.p (pI 0))]) := by
  refine Pf.body (fn := Tryz.f34) (by kernel_rfl) rfl ?_; simp only [List.map_cons, List.map_nil, List.cons_append, List.nil_append, List.length_cons, List.length_nil, Tryz.ntmps34, List.replicate, Nat.reduceSub, Nat.reduceAdd]
  refine Wc.seq ?_
  refine Wc.reg fun K hK => ?_; simp only [go_sem, ti3, ti9, ti77, ti4, ti35, ti75, ti34, ti32, ti22]; refine hK _ _ ?_; clear hK K
  refine Wc.seq (Wc.seq ?_)
  by_cases h2 : w.2 = 0
  · have hb : (w.2 != 0) = false := by simpa using h2
    refine Wc.reg fun K hK => ?_; simp only [go_sem, ti3, ti9, ti77, ti4, ti35, ti75, ti34, ti32, ti22, hb]; refine hK _ _ ?_; clear hK K
    refine Wc.cond (t := decide ((262144 : Int) < w.1.length)) (by simp only [go_sem, ti3, ti9, ti77, ti4, ti35, ti75, ti34, ti32, ti22]) (fun hc => ?_) (fun hc => ?_)
    · have hc' : 262144 < w.1.length := by have : (262144 : Int) < w.1.length := by simpa using hc
                                           omega
      rw [if_pos (.inr hc')]
      refine Wc.seq ?_
      refine Wc.reg fun K hK => ?_; simp only [go_sem, ti3, ti9, ti77, ti4, ti35, ti75, ti34, ti32, ti22]; refine hK _ _ ?_; clear hK K
      exact Wc.ret (Pf.ret [.cell 8 34, .tmp 9] [.agg ([.p (pI 0), .nils] ++ zz0.map .p ++ [.p (.str [])]), .c (.p (pI 4))] rfl rfl (by simp only [resultsD, go_sem, ti3, ti9, ti77, ti4, ti35, ti75, ti34, ti32, ti22]) rfl)
    · have hc' : ¬ 262144 < w.1.length := by have : ¬ (262144 : Int) < w.1.length := by simpa using hc
                                             omega
      rw [if_neg (by simp [h2]; omega)]
      refine Wc.skip (Wc.seq ?_)
      refine Wc.reg fun K hK => ?_; simp only [go_sem, ti3, ti9, ti77, ti4, ti35, ti75, ti34, ti32, ti22]; refine hK _ _ ?_; clear hK K
      exact Wc.ret (Pf.ret [.cell 8 34, .tmp 9] [chV sig (.lst n cs) [z0, z1, z2, z3, z4, z5, z6, z7, z8, z9, z10, z11, z12] w.1, .c (.p (pI 0))] rfl rfl (by simp only [resultsD, go_sem, ti3, ti9, ti77, ti4, ti35, ti75, ti34, ti32, ti22]; rfl) rfl)
  · have hb : (w.2 != 0) = true := by simpa using h2
    rw [if_pos (.inl h2)]
    refine Wc.reg fun K hK => ?_; simp only [go_sem, ti3, ti9, ti77, ti4, ti35, ti75, ti34, ti32, ti22, hb]; refine hK _ _ ?_; clear hK K
    refine Wc.cond (t := true) (by simp only [go_sem, ti3, ti9, ti77, ti4, ti35, ti75, ti34, ti32, ti22]) (fun hc => ?_) (fun hc => by cases hc)
    refine Wc.seq ?_
    refine Wc.reg fun K hK => ?_; simp only [go_sem, ti3, ti9, ti77, ti4, ti35, ti75, ti34, ti32, ti22]; refine hK _ _ ?_; clear hK K
    exact Wc.ret (Pf.ret [.cell 8 34, .tmp 9] [.agg ([.p (pI 0), .nils] ++ zz0.map .p ++ [.p (.str [])]), .c (.p (pI 4))] rfl rfl (by simp only [resultsD, go_sem, ti3, ti9, ti77, ti4, ti35, ti75, ti34, ti32, ti22]) rfl)
end Go.Proofs.YtafaoldmemcigaaGreat.Ab
namespace Go.Proofs.YtafaoldmemcigaaGreat.Ab
set_option maxHeartbeats 4000000
set_option maxRecDepth 10000
set_option linter.unusedSimpArgs false
set_option linter.unusedVariables false
def isT (n : Int) : Bool := decide (1 ≤ n) && decide (n ≤ 1099511627776)
def isVl (n : Int) : Bool := decide (-1099511627776 ≤ n) && decide (n ≤ 1099511627776)
/-- 43: isTime -/
theorem pf43 (n : Int) : Pf E0 43 [.c (.p (.int .i64 n))] (P' (.bool (isT n))) := by
  refine Pf.body (fn := Tryz.f43) (by kernel_rfl) rfl ?_; simp only [List.map_cons, List.map_nil, List.cons_append, List.nil_append, List.length_cons, List.length_nil, Tryz.ntmps43, List.replicate, Nat.reduceSub, Nat.reduceAdd]
  refine Wc.seq ?_
  refine Wc.reg fun K hK => ?_; simp only [go_sem, ti3, ti9, ti77, ti4, ti35, ti75, ti34, ti32, ti22, ti29, ti30, ti48]; refine hK _ _ ?_; clear hK K
  refine Wc.seq ?_
  by_cases h : 1 ≤ n
  · refine Wc.reg fun K hK => ?_; simp only [go_sem, ti3, ti9, ti77, ti4, ti35, ti75, ti34, ti32, ti22, ti29, ti30, ti48, h]; refine hK _ _ ?_; clear hK K
    exact Wc.ret (Pf.ret [.tmp 2] [.c (.p (.bool (isT n)))] rfl rfl (by simp only [resultsD, go_sem, ti3, ti9, ti77, ti4, ti35, ti75, ti34, ti32, ti22, ti29, ti30, ti48, isT, h, Bool.true_and]) rfl)
  · refine Wc.reg fun K hK => ?_; simp only [go_sem, ti3, ti9, ti77, ti4, ti35, ti75, ti34, ti32, ti22, ti29, ti30, ti48, h]; refine hK _ _ ?_; clear hK K
    exact Wc.ret (Pf.ret [.tmp 2] [.c (.p (.bool (isT n)))] rfl rfl (by simp only [resultsD, go_sem, ti3, ti9, ti77, ti4, ti35, ti75, ti34, ti32, ti22, ti29, ti30, ti48, isT, h, Bool.false_and]) rfl)
/-- 44: isValue -/
theorem pf44 (n : Int) : Pf E0 44 [.c (.p (.int .i64 n))] (P' (.bool (isVl n))) := by
  refine Pf.body (fn := Tryz.f44) (by kernel_rfl) rfl ?_; simp only [List.map_cons, List.map_nil, List.cons_append, List.nil_append, List.length_cons, List.length_nil, Tryz.ntmps44, List.replicate, Nat.reduceSub, Nat.reduceAdd]
  refine Wc.seq ?_
  refine Wc.reg fun K hK => ?_; simp only [go_sem, ti3, ti9, ti77, ti4, ti35, ti75, ti34, ti32, ti22, ti29, ti30, ti48]; refine hK _ _ ?_; clear hK K
  refine Wc.seq ?_
  by_cases h : -1099511627776 ≤ n
  · refine Wc.reg fun K hK => ?_; simp only [go_sem, ti3, ti9, ti77, ti4, ti35, ti75, ti34, ti32, ti22, ti29, ti30, ti48, h]; refine hK _ _ ?_; clear hK K
    exact Wc.ret (Pf.ret [.tmp 2] [.c (.p (.bool (isVl n)))] rfl rfl (by simp only [resultsD, go_sem, ti3, ti9, ti77, ti4, ti35, ti75, ti34, ti32, ti22, ti29, ti30, ti48, isVl, h, Bool.true_and]) rfl)
  · refine Wc.reg fun K hK => ?_; simp only [go_sem, ti3, ti9, ti77, ti4, ti35, ti75, ti34, ti32, ti22, ti29, ti30, ti48, h]; refine hK _ _ ?_; clear hK K
    exact Wc.ret (Pf.ret [.tmp 2] [.c (.p (.bool (isVl n)))] rfl rfl (by simp only [resultsD, go_sem, ti3, ti9, ti77, ti4, ti35, ti75, ti34, ti32, ti22, ti29, ti30, ti48, isVl, h, Bool.false_and]) rfl)
/-- A zone whose bits are all clear. -/
abbrev zV (c t1 t2 v1 v2 : Int) : V := .agg [.p (pI c), .p (pI t1), .p (pI t2), .p (pI v1), .p (pI v2), .p (.int .u32 0), .p (.int .u32 0), .p (.int .u32 0), .p (.int .u32 0), .p (.int .u32 0), .p (.int .u32 0), .p (.int .u32 0), .p (.int .u32 0)]
/-- 17: Check, of the zone of nothing -/
theorem pf17z : Pf E0 17 [zV 0 0 0 0 0] (P' (.int .i64 0)) := by
  refine Pf.body (fn := Tryz.f17) (by kernel_rfl) rfl ?_; simp only [List.map_cons, List.map_nil, List.cons_append, List.nil_append, List.length_cons, List.length_nil, Tryz.ntmps17, List.replicate, Nat.reduceSub, Nat.reduceAdd]
  refine Wc.seq ?_
  refine Wc.reg fun K hK => ?_; simp only [go_sem, ti3, ti9, ti77, ti4, ti35, ti75, ti34, ti32, ti22, ti29, ti30, ti48]; refine hK _ _ ?_; clear hK K
  refine Wc.seq (Wc.seq ?_)
  refine Wc.reg fun K hK => ?_; simp only [go_sem, ti3, ti9, ti77, ti4, ti35, ti75, ti34, ti32, ti22, ti29, ti30, ti48]; refine hK _ _ ?_; clear hK K
  refine Wc.cond (t := false) (by simp only [go_sem, ti3, ti9, ti77, ti4, ti35, ti75, ti34, ti32, ti22, ti29, ti30, ti48]) (fun hc => by cases hc) (fun _ => ?_)
  refine Wc.skip (Wc.seq (Wc.seq ?_))
  refine Wc.reg fun K hK => ?_; simp only [go_sem, ti3, ti9, ti77, ti4, ti35, ti75, ti34, ti32, ti22, ti29, ti30, ti48]; refine hK _ _ ?_; clear hK K
  refine Wc.cond (t := true) (by simp only [go_sem, ti3, ti9, ti77, ti4, ti35, ti75, ti34, ti32, ti22, ti29, ti30, ti48]) (fun _ => ?_) (fun hc => by cases hc)
  refine Wc.seq (Wc.seq ?_)
  refine Wc.reg fun K hK => ?_; simp only [go_sem, ti3, ti9, ti77, ti4, ti35, ti75, ti34, ti32, ti22, ti29, ti30, ti48, eqL, eqS]; refine hK _ _ ?_; clear hK K
  refine Wc.cond (t := false) (by simp only [go_sem, ti3, ti9, ti77, ti4, ti35, ti75, ti34, ti32, ti22, ti29, ti30, ti48]) (fun hc => by cases hc) (fun _ => ?_)
  refine Wc.skip (Wc.seq ?_)
  refine Wc.reg fun K hK => ?_; simp only [go_sem, ti3, ti9, ti77, ti4, ti35, ti75, ti34, ti32, ti22, ti29, ti30, ti48]; refine hK _ _ ?_; clear hK K
  exact Wc.ret (Pf.ret [.tmp 2] [.c (.p (.int .i64 0))] rfl rfl (by simp only [resultsD, go_sem, ti3, ti9, ti77, ti4, ti35, ti75, ti34, ti32, ti22, ti29, ti30, ti48]) rfl)
structure ZOk (c t1 t2 v1 v2 : Int) : Prop where
  c1 : 1 ≤ c
  c2 : c ≤ 1152921504606846976
  a1 : isT t1 = true
  a2 : isT t2 = true
  a : t1 ≤ t2
  b1 : isVl v1 = true
  b2 : isVl v2 = true
  b : v1 ≤ v2
/-- 17: Check, of a valid zone -/
theorem pf17v {c t1 t2 v1 v2 : Int} (h : ZOk c t1 t2 v1 v2) : Pf E0 17 [zV c t1 t2 v1 v2] (P' (.int .i64 0)) := by
  have b1 : (c < 0) = False := by have := h.c1; simp; omega
  have b2 : (1152921504606846976 < c) = False := by have := h.c2; simp; omega
  have b3 : (c == 0) = false := by have := h.c1; simp; omega
  have b4 : (t2 < t1) = False := by have := h.a; simp; omega
  have b5 : (v2 < v1) = False := by have := h.b; simp; omega
  refine Pf.body (fn := Tryz.f17) (by kernel_rfl) rfl ?_; simp only [List.map_cons, List.map_nil, List.cons_append, List.nil_append, List.length_cons, List.length_nil, Tryz.ntmps17, List.replicate, Nat.reduceSub, Nat.reduceAdd]
  refine Wc.seq ?_
  refine Wc.reg fun K hK => ?_; simp only [go_sem, ti3, ti9, ti77, ti4, ti35, ti75, ti34, ti32, ti22, ti29, ti30, ti48]; refine hK _ _ ?_; clear hK K
  refine Wc.seq (Wc.seq ?_)
  refine Wc.reg fun K hK => ?_; simp only [go_sem, ti3, ti9, ti77, ti4, ti35, ti75, ti34, ti32, ti22, ti29, ti30, ti48, b1, b2]; refine hK _ _ ?_; clear hK K
  refine Wc.cond (t := false) (by simp only [go_sem, ti3, ti9, ti77, ti4, ti35, ti75, ti34, ti32, ti22, ti29, ti30, ti48, b1, b2]) (fun hc => by cases hc) (fun _ => ?_)
  refine Wc.skip (Wc.seq (Wc.seq ?_))
  refine Wc.reg fun K hK => ?_; simp only [go_sem, ti3, ti9, ti77, ti4, ti35, ti75, ti34, ti32, ti22, ti29, ti30, ti48, b3]; refine hK _ _ ?_; clear hK K
  refine Wc.cond (t := false) (by simp only [go_sem, ti3, ti9, ti77, ti4, ti35, ti75, ti34, ti32, ti22, ti29, ti30, ti48, b3]) (fun hc => by cases hc) (fun _ => ?_)
  refine Wc.skip (Wc.seq (Wc.seq ?_))
  refine Wc.reg fun K hK => ?_; simp only [go_sem, ti3, ti9, ti77, ti4, ti35, ti75, ti34, ti32, ti22, ti29, ti30, ti48]
  refine wpCall.pf (pf43 t1) (by kernel_rfl) (by kernel_rfl) rfl rfl ?_
  simp only [go_sem, ti3, ti9, ti77, ti4, ti35, ti75, ti34, ti32, ti22, ti29, ti30, ti48, h.a1]
  refine wpCall.pf (pf43 t2) (by kernel_rfl) (by kernel_rfl) rfl rfl ?_
  simp only [go_sem, ti3, ti9, ti77, ti4, ti35, ti75, ti34, ti32, ti22, ti29, ti30, ti48, h.a2]; refine hK _ _ ?_; clear hK K
  refine Wc.cond (t := false) (by simp only [go_sem, ti3, ti9, ti77, ti4, ti35, ti75, ti34, ti32, ti22, ti29, ti30, ti48, h.a1, h.a2]) (fun hc => by cases hc) (fun _ => ?_)
  refine Wc.skip (Wc.seq (Wc.seq ?_))
  refine Wc.reg fun K hK => ?_; simp only [go_sem, ti3, ti9, ti77, ti4, ti35, ti75, ti34, ti32, ti22, ti29, ti30, ti48, b4]; refine hK _ _ ?_; clear hK K
  refine Wc.cond (t := false) (by simp only [go_sem, ti3, ti9, ti77, ti4, ti35, ti75, ti34, ti32, ti22, ti29, ti30, ti48, b4]) (fun hc => by cases hc) (fun _ => ?_)
  refine Wc.skip (Wc.seq (Wc.seq ?_))
  refine Wc.reg fun K hK => ?_; simp only [go_sem, ti3, ti9, ti77, ti4, ti35, ti75, ti34, ti32, ti22, ti29, ti30, ti48]
  refine wpCall.pf (pf44 v1) (by kernel_rfl) (by kernel_rfl) rfl rfl ?_
  simp only [go_sem, ti3, ti9, ti77, ti4, ti35, ti75, ti34, ti32, ti22, ti29, ti30, ti48, h.b1]
  refine wpCall.pf (pf44 v2) (by kernel_rfl) (by kernel_rfl) rfl rfl ?_
  simp only [go_sem, ti3, ti9, ti77, ti4, ti35, ti75, ti34, ti32, ti22, ti29, ti30, ti48, h.b2]; refine hK _ _ ?_; clear hK K
  refine Wc.cond (t := false) (by simp only [go_sem, ti3, ti9, ti77, ti4, ti35, ti75, ti34, ti32, ti22, ti29, ti30, ti48, h.b1, h.b2]) (fun hc => by cases hc) (fun _ => ?_)
  refine Wc.skip (Wc.seq (Wc.seq ?_))
  refine Wc.reg fun K hK => ?_; simp only [go_sem, ti3, ti9, ti77, ti4, ti35, ti75, ti34, ti32, ti22, ti29, ti30, ti48, b5]; refine hK _ _ ?_; clear hK K
  refine Wc.cond (t := false) (by simp only [go_sem, ti3, ti9, ti77, ti4, ti35, ti75, ti34, ti32, ti22, ti29, ti30, ti48, b5]) (fun hc => by cases hc) (fun _ => ?_)
  refine Wc.skip (Wc.seq ?_)
  refine Wc.reg fun K hK => ?_; simp only [go_sem, ti3, ti9, ti77, ti4, ti35, ti75, ti34, ti32, ti22, ti29, ti30, ti48]; refine hK _ _ ?_; clear hK K
  exact Wc.ret (Pf.ret [.tmp 2] [.c (.p (.int .i64 0))] rfl rfl (by simp only [resultsD, go_sem, ti3, ti9, ti77, ti4, ti35, ti75, ti34, ti32, ti22, ti29, ti30, ti48]) rfl)
end Go.Proofs.YtafaoldmemcigaaGreat.Ab
