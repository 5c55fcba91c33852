/- A part of the proof: an evaluator of the code, its contracts, the law. No condition. -/
import Derived.Test.YtafaoldmemcigaaGreatT19
namespace Go.Proofs.YtafaoldmemcigaaGreat.Ab
set_option maxHeartbeats 4000000
set_option maxRecDepth 10000
set_option linter.unusedSimpArgs false
set_option linter.unusedVariables false
def nbs (s : List UInt8) : Bool := s.all fun b => nb b.toNat
def digit (s : List UInt8) : Bool := match s with
  | [] => false
  | b :: _ => decide (48 ≤ b.toNat ∧ b.toNat ≤ 57)
/-- A name. -/
def nameOK (s : List UInt8) : Bool := decide (1 ≤ s.length ∧ s.length ≤ 60) && !digit s && nbs s
theorem digit_at {s : List UInt8} {b : UInt8} (h : s[0]? = some b) : digit s = decide (48 ≤ b.toNat ∧ b.toNat ≤ 57) := by
  cases s with
  | nil => simp at h
  | cons a r => simp at h; subst h; rfl
theorem nbs_bad {s : List UInt8} {b : UInt8} {i : Nat} (h : s[i]? = some b) (hb : nb b.toNat = false) : nbs s = false := by
  rw [Bool.eq_false_iff]
  intro hs
  have := List.all_eq_true.1 hs b (List.mem_of_getElem? h)
  rw [hb] at this; cases this
theorem nbs_take {s : List UInt8} {b : UInt8} {i : Nat} (h : s[i]? = some b) (hb : nb b.toNat = true) (ht : nbs (s.take i) = true) : nbs (s.take (i + 1)) = true := by
  unfold nbs at *
  rw [take_snoc h, List.all_append, ht]; simp [hb]
/-- 83: isName -/
theorem pf83 (s : List UInt8) : Pf E0 83 [.c (.p (.str s))] (P' (.bool (nameOK s))) := by
  refine Pf.body (fn := Tryz.f83) (by kernel_rfl) rfl ?_; simp only [List.map_cons, List.map_nil, List.cons_append, List.nil_append, List.length_cons, List.length_nil, Tryz.ntmps83, List.replicate, Nat.reduceSub, Nat.reduceAdd]
  refine Wc.seq ?_
  refine Wc.reg fun K hK => ?_; simp only [go_sem, ti3, ti9, ti5, ti4, ti35]; refine hK _ _ ?_; clear hK K
  refine Wc.seqR (fun y => (1 ≤ s.length ∧ s.length ≤ 60 ∧ digit s = false) ∧ y.ds = [] ∧ y.e.length = 33 ∧ y.e.getD 0 .junk = P' (.str s)) ?_ ?_
  · have bad : ¬ (1 ≤ s.length ∧ s.length ≤ 60 ∧ digit s = false) → nameOK s = false := fun h => by
      unfold nameOK
      rw [Bool.and_eq_false_iff, Bool.and_eq_false_iff, decide_eq_false_iff_not]
      by_cases h1 : 1 ≤ s.length ∧ s.length ≤ 60
      · cases hd : digit s with
        | true => exact .inl (.inr rfl)
        | false => exact absurd ⟨h1.1, h1.2, hd⟩ h
      · exact .inl (.inl h1)
    refine Wc.seq ?_
    by_cases h1 : s.length < 1
    · have f1 : ((s.length : Int) < 1) = True := by simp only [eq_iff_iff, iff_true]; omega
      refine Wc.reg fun K hK => ?_; simp only [go_sem, ti3, ti9, ti5, ti4, ti35, f1]; refine hK _ _ ?_; clear hK K
      refine Wc.cond (t := true) (by simp only [go_sem, ti3, ti9, ti5, ti4, ti35, f1]) (fun _ => ?_) (fun hc => by cases hc)
      refine Wc.seq ?_
      refine Wc.reg fun K hK => ?_; simp only [go_sem, ti3, ti9, ti5, ti4, ti35]; refine hK _ _ ?_; clear hK K
      rw [bad (by omega)]
      exact Wc.ret (Pf.ret [.tmp 2] [.c (.p (.bool false))] rfl rfl (by simp only [resultsD, go_sem, ti3, ti9, ti5, ti4, ti35]) rfl)
    have f1 : ((s.length : Int) < 1) = False := by simp only [eq_iff_iff, iff_false]; omega
    by_cases h2 : 60 < s.length
    · have f2 : (60 < (s.length : Int)) = True := by simp only [eq_iff_iff, iff_true]; omega
      refine Wc.reg fun K hK => ?_; simp only [go_sem, ti3, ti9, ti5, ti4, ti35, f1, f2]; refine hK _ _ ?_; clear hK K
      refine Wc.cond (t := true) (by simp only [go_sem, ti3, ti9, ti5, ti4, ti35, f1, f2]) (fun _ => ?_) (fun hc => by cases hc)
      refine Wc.seq ?_
      refine Wc.reg fun K hK => ?_; simp only [go_sem, ti3, ti9, ti5, ti4, ti35]; refine hK _ _ ?_; clear hK K
      rw [bad (by omega)]
      exact Wc.ret (Pf.ret [.tmp 2] [.c (.p (.bool false))] rfl rfl (by simp only [resultsD, go_sem, ti3, ti9, ti5, ti4, ti35]) rfl)
    have f2 : (60 < (s.length : Int)) = False := by simp only [eq_iff_iff, iff_false]; omega
    obtain ⟨b, hb⟩ : ∃ b, s[0]? = some b := ⟨s[0], List.getElem?_eq_getElem (by omega)⟩
    have hd := digit_at hb
    by_cases h3 : 48 ≤ b.toNat
    · have f3 : ((48 : Int) ≤ (b.toNat : Int)) = True := by simp only [eq_iff_iff, iff_true]; omega
      refine Wc.reg fun K hK => ?_; simp only [go_sem, ti3, ti9, ti5, ti4, ti35, f1, f2, f3, hb, pdOfByte]; refine hK _ _ ?_; clear hK K
      refine Wc.cond (t := decide ((b.toNat : Int) ≤ 57)) (by simp only [go_sem, ti3, ti9, ti5, ti4, ti35, f1, f2, f3]) (fun hc => ?_) (fun hc => ?_)
      · have h4 : (b.toNat : Int) ≤ 57 := by simpa using hc
        refine Wc.seq ?_
        refine Wc.reg fun K hK => ?_; simp only [go_sem, ti3, ti9, ti5, ti4, ti35]; refine hK _ _ ?_; clear hK K
        rw [bad (by rw [hd]; simp; omega)]
        exact Wc.ret (Pf.ret [.tmp 2] [.c (.p (.bool false))] rfl rfl (by simp only [resultsD, go_sem, ti3, ti9, ti5, ti4, ti35]) rfl)
      · have h4 : ¬ (b.toNat : Int) ≤ 57 := by simpa using hc
        exact Wc.skip ⟨⟨by omega, by omega, by rw [hd]; simp; omega⟩, rfl, rfl, rfl⟩
    · have f3 : ((48 : Int) ≤ (b.toNat : Int)) = False := by simp only [eq_iff_iff, iff_false]; omega
      refine Wc.reg fun K hK => ?_; simp only [go_sem, ti3, ti9, ti5, ti4, ti35, f1, f2, f3, hb, pdOfByte]; refine hK _ _ ?_; clear hK K
      refine Wc.cond (t := false) (by simp only [go_sem, ti3, ti9, ti5, ti4, ti35, f1, f2, f3]) (fun hc => by cases hc) (fun _ => ?_)
      exact Wc.skip ⟨⟨by omega, by omega, by rw [hd]; simp; omega⟩, rfl, rfl, rfl⟩
  · rintro ⟨e, ds, s1⟩ ⟨⟨h1, h2, h3⟩, rfl, hlen, h0⟩
    simp only at hlen h0
    have e0 : nameOK s = nbs s := by unfold nameOK; rw [h3]; simp [h1, h2]
    rw [e0]
    refine Wc.seq (Wc.seq ?_)
    refine Wc.reg fun K hK => ?_; simp only [go_sem, ti3, ti9, ti5, ti4, ti35, hlen, h0, Int.natCast_zero]; refine hK _ _ ?_; clear hK K
    refine Wc.block (Wc.loop (fun k y => ∃ i : Nat, k = s.length - i ∧ i ≤ s.length ∧ y.ds = [] ∧ y.e.length = 33 ∧ y.e.getD 0 .junk = P' (.str s) ∧ y.e.getD 3 .junk = P' (pI i) ∧ nbs (s.take i) = true) ?_ (k := s.length) ?_)
    · clear hlen h0 e s1
      rintro k ⟨e, ds, s1⟩ ⟨i, rfl, hi, rfl, hlen, h0, h3, hn⟩
      simp only at hlen h0 h3
      refine Wc.seq (Wc.seq ?_)
      refine Wc.reg fun K hK => ?_; simp only [go_sem, ti3, ti9, ti5, ti4, ti35, hlen, h0, h3]; refine hK _ _ ?_; clear hK K
      refine Wc.cond (t := decide ((i : Int) < s.length)) (by simp only [go_sem, ti3, ti9, ti5, ti4, ti35, hlen]) (fun hc => ?_) (fun hc => ?_)
      · have hil : i < s.length := by have : (i : Int) < s.length := by simpa using hc
                                      omega
        obtain ⟨b, hb⟩ : ∃ b, s[i]? = some b := ⟨s[i], List.getElem?_eq_getElem hil⟩
        refine Wc.skip (Wc.seq (Wc.block (Wc.seq ?_)))
        refine Wc.reg fun K hK => ?_; simp only [go_sem, ti3, ti9, ti5, ti4, ti35, hlen, h0, h3, hb, pdOfByte]
        refine wpCall.pf (pf123 b.toNat) (by kernel_rfl) (by kernel_rfl) rfl rfl ?_
        simp only [go_sem, ti3, ti9, ti5, ti4, ti35, hlen, h0, h3]; refine hK _ _ ?_; clear hK K
        refine Wc.cond (t := !(nb b.toNat)) (by simp only [go_sem, ti3, ti9, ti5, ti4, ti35, hlen]) (fun hc => ?_) (fun hc => ?_)
        · have hbf : nb b.toNat = false := by simpa using hc
          refine Wc.seq ?_
          refine Wc.reg fun K hK => ?_; simp only [go_sem, ti3, ti9, ti5, ti4, ti35, hlen]; refine hK _ _ ?_; clear hK K
          rw [nbs_bad hb hbf]
          exact Wc.ret (Pf.ret [.tmp 2] [.c (.p (.bool false))] rfl rfl (by simp only [resultsD, go_sem, ti3, ti9, ti5, ti4, ti35, hlen]) rfl)
        · have hbt : nb b.toNat = true := by simpa using hc
          refine Wc.skip ?_
          refine Wc.reg fun K hK => ?_; simp only [go_sem, ti3, ti9, ti5, ti4, ti35, hlen, h0, h3, i64n i (by omega)]; refine hK _ _ ?_; clear hK K
          exact ⟨s.length - (i + 1), by omega, i + 1, rfl, by omega, rfl, by simp only [go_sem, ti3, ti9, ti5, ti4, ti35, hlen], by simp only [go_sem, ti3, ti9, ti5, ti4, ti35, hlen, h0], by simp only [go_sem, ti3, ti9, ti5, ti4, ti35, hlen], nbs_take hb hbt hn⟩
      · have hil : i = s.length := by have : ¬ (i : Int) < s.length := by simpa using hc
                                      omega
        subst hil
        rw [List.take_length] at hn
        refine Wc.exit (Wc.seq ?_)
        refine Wc.reg fun K hK => ?_; simp only [go_sem, ti3, ti9, ti5, ti4, ti35, hlen]; refine hK _ _ ?_; clear hK K
        rw [hn]
        exact Wc.ret (Pf.ret [.tmp 2] [.c (.p (.bool true))] rfl rfl (by simp only [resultsD, go_sem, ti3, ti9, ti5, ti4, ti35, hlen]) rfl)
    · exact ⟨0, rfl, by omega, rfl, by simp only [go_sem, ti3, ti9, ti5, ti4, ti35, hlen], by simp only [go_sem, ti3, ti9, ti5, ti4, ti35, hlen, h0], by simp only [go_sem, ti3, ti9, ti5, ti4, ti35, hlen]; rfl, rfl⟩
/-- 110: Name -/
theorem pf110 (s : List UInt8) (hs : s.length < 2^60) : Pf E0 110 [.c (.p (.str s))] (P' (.bool (nameOK s))) := by
  refine Pf.body (fn := Tryz.f110) (by kernel_rfl) rfl ?_; simp only [List.map_cons, List.map_nil, List.cons_append, List.nil_append, List.length_cons, List.length_nil, Tryz.ntmps110, List.replicate, Nat.reduceSub, Nat.reduceAdd]
  refine Wc.seq ?_
  refine Wc.reg fun K hK => ?_; simp only [go_sem, ti3, ti9, ti5, ti4, ti35]; refine hK _ _ ?_; clear hK K
  refine Wc.seqR (fun y => nbs s = true ∧ y.ds = [] ∧ y.e.length = 33 ∧ y.e.getD 0 .junk = P' (.str s)) ?_ ?_
  · refine Wc.seq ?_
    refine Wc.reg fun K hK => ?_; simp only [go_sem, ti3, ti9, ti5, ti4, ti35, Int.natCast_zero]; refine hK _ _ ?_; clear hK K
    refine Wc.block (Wc.loop (fun k y => ∃ i : Nat, k = s.length - i ∧ i ≤ s.length ∧ y.ds = [] ∧ y.e.length = 33 ∧ y.e.getD 0 .junk = P' (.str s) ∧ y.e.getD 3 .junk = P' (pI i) ∧ nbs (s.take i) = true) ?_ (k := s.length) ?_)
    · rintro k ⟨e, ds, s1⟩ ⟨i, rfl, hi, rfl, hlen, h0, h3, hn⟩
      simp only at hlen h0 h3
      refine Wc.seq (Wc.seq ?_)
      refine Wc.reg fun K hK => ?_; simp only [go_sem, ti3, ti9, ti5, ti4, ti35, hlen, h0, h3]; refine hK _ _ ?_; clear hK K
      refine Wc.cond (t := decide ((i : Int) < s.length)) (by simp only [go_sem, ti3, ti9, ti5, ti4, ti35, hlen]) (fun hc => ?_) (fun hc => ?_)
      · have hil : i < s.length := by have : (i : Int) < s.length := by simpa using hc
                                      omega
        obtain ⟨b, hb⟩ : ∃ b, s[i]? = some b := ⟨s[i], List.getElem?_eq_getElem hil⟩
        refine Wc.skip (Wc.seq (Wc.block (Wc.seq ?_)))
        refine Wc.reg fun K hK => ?_; simp only [go_sem, ti3, ti9, ti5, ti4, ti35, hlen, h0, h3, hb, pdOfByte]
        refine wpCall.pf (pf131 b.toNat) (by kernel_rfl) (by kernel_rfl) rfl rfl ?_
        simp only [go_sem, ti3, ti9, ti5, ti4, ti35, hlen, h0, h3]; refine hK _ _ ?_; clear hK K
        refine Wc.cond (t := !(nb b.toNat)) (by simp only [go_sem, ti3, ti9, ti5, ti4, ti35, hlen]) (fun hc => ?_) (fun hc => ?_)
        · have hbf : nb b.toNat = false := by simpa using hc
          refine Wc.seq ?_
          refine Wc.reg fun K hK => ?_; simp only [go_sem, ti3, ti9, ti5, ti4, ti35, hlen]; refine hK _ _ ?_; clear hK K
          have e : nameOK s = false := by unfold nameOK; rw [nbs_bad hb hbf]; simp
          rw [e]
          exact Wc.ret (Pf.ret [.tmp 2] [.c (.p (.bool false))] rfl rfl (by simp only [resultsD, go_sem, ti3, ti9, ti5, ti4, ti35, hlen]) rfl)
        · have hbt : nb b.toNat = true := by simpa using hc
          refine Wc.skip ?_
          refine Wc.reg fun K hK => ?_; simp only [go_sem, ti3, ti9, ti5, ti4, ti35, hlen, h0, h3, i64n i (by omega)]; refine hK _ _ ?_; clear hK K
          exact ⟨s.length - (i + 1), by omega, i + 1, rfl, by omega, rfl, by simp only [go_sem, ti3, ti9, ti5, ti4, ti35, hlen], by simp only [go_sem, ti3, ti9, ti5, ti4, ti35, hlen, h0], by simp only [go_sem, ti3, ti9, ti5, ti4, ti35, hlen], nbs_take hb hbt hn⟩
      · have hil : i = s.length := by have : ¬ (i : Int) < s.length := by simpa using hc
                                      omega
        subst hil
        rw [List.take_length] at hn
        exact Wc.exit ⟨hn, rfl, by simp only [go_sem, ti3, ti9, ti5, ti4, ti35, hlen], by simp only [go_sem, ti3, ti9, ti5, ti4, ti35, hlen, h0]⟩
    · exact ⟨0, rfl, by omega, rfl, rfl, rfl, rfl, rfl⟩
  · rintro ⟨e, ds, s1⟩ ⟨hn, rfl, hlen, h0⟩
    simp only at hlen h0
    have e0 : nameOK s = (decide (1 ≤ s.length ∧ s.length ≤ 60) && !digit s) := by unfold nameOK; rw [hn]; simp
    rw [e0]
    refine Wc.seq ?_
    by_cases h1 : s.length < 1
    · have f1 : (0 < (s.length : Int)) = False := by simp only [eq_iff_iff, iff_false]; omega
      refine Wc.reg fun K hK => ?_; simp only [go_sem, ti3, ti9, ti5, ti4, ti35, hlen, h0, f1]; refine hK _ _ ?_; clear hK K
      rw [show (decide (1 ≤ s.length ∧ s.length ≤ 60) && !digit s) = false by simp; omega]
      exact Wc.ret (Pf.ret [.tmp 2] [.c (.p (.bool false))] rfl rfl (by simp only [resultsD, go_sem, ti3, ti9, ti5, ti4, ti35, hlen, f1]) rfl)
    have f1 : (0 < (s.length : Int)) = True := by simp only [eq_iff_iff, iff_true]; omega
    by_cases h2 : 60 < s.length
    · have f2 : ((s.length : Int) ≤ 60) = False := by simp only [eq_iff_iff, iff_false]; omega
      refine Wc.reg fun K hK => ?_; simp only [go_sem, ti3, ti9, ti5, ti4, ti35, hlen, h0, f1, f2]; refine hK _ _ ?_; clear hK K
      rw [show (decide (1 ≤ s.length ∧ s.length ≤ 60) && !digit s) = false by simp; omega]
      exact Wc.ret (Pf.ret [.tmp 2] [.c (.p (.bool false))] rfl rfl (by simp only [resultsD, go_sem, ti3, ti9, ti5, ti4, ti35, hlen, f1, f2]) rfl)
    have f2 : ((s.length : Int) ≤ 60) = True := by simp only [eq_iff_iff, iff_true]; omega
    obtain ⟨b, hb⟩ : ∃ b, s[0]? = some b := ⟨s[0], List.getElem?_eq_getElem (by omega)⟩
    have hd := digit_at hb
    have e1 : (decide (1 ≤ s.length ∧ s.length ≤ 60) && !digit s) = !decide (48 ≤ b.toNat ∧ b.toNat ≤ 57) := by rw [hd, decide_eq_true (by omega), Bool.true_and]
    rw [e1]
    by_cases h3 : b.toNat < 48
    · have f3 : ((b.toNat : Int) < 48) = True := by simp only [eq_iff_iff, iff_true]; omega
      refine Wc.reg fun K hK => ?_; simp only [go_sem, ti3, ti9, ti5, ti4, ti35, hlen, h0, f1, f2, f3, hb, pdOfByte]; refine hK _ _ ?_; clear hK K
      rw [show (!decide (48 ≤ b.toNat ∧ b.toNat ≤ 57)) = true by simp; omega]
      exact Wc.ret (Pf.ret [.tmp 2] [.c (.p (.bool true))] rfl rfl (by simp only [resultsD, go_sem, ti3, ti9, ti5, ti4, ti35, hlen, f1, f2, f3]) rfl)
    · have f3 : ((b.toNat : Int) < 48) = False := by simp only [eq_iff_iff, iff_false]; omega
      refine Wc.reg fun K hK => ?_; simp only [go_sem, ti3, ti9, ti5, ti4, ti35, hlen, h0, f1, f2, f3, hb, pdOfByte]; refine hK _ _ ?_; clear hK K
      rw [show (!decide (48 ≤ b.toNat ∧ b.toNat ≤ 57)) = decide ((57 : Int) < b.toNat) by rw [Bool.eq_iff_iff]; simp; omega]
      exact Wc.ret (Pf.ret [.tmp 2] [.c (.p (.bool (decide ((57 : Int) < b.toNat))))] rfl rfl (by simp only [resultsD, go_sem, ti3, ti9, ti5, ti4, ti35, hlen, f1, f2, f3]) rfl)
end Go.Proofs.YtafaoldmemcigaaGreat.Ab
namespace Go.Proofs.YtafaoldmemcigaaGreat.Ab
set_option maxHeartbeats 4000000
set_option maxRecDepth 10000
set_option linter.unusedSimpArgs false
set_option linter.unusedVariables false
/-- A label: name, value. -/
abbrev Lb := List UInt8 × List UInt8
abbrev lbP (x : Lb) : List Pd := [.str x.1, .str x.2]
def leB (x y : List UInt8) : Bool := Op.bytesLess x y || x == y
/-- Why a list is no label set, behind a name. -/
def lck : Option (List UInt8) → List Lb → Int
  | _, [] => 0
  | p, x :: r => if nameOK x.1 = false then 5 else if x.2 = [] then 1 else if 200 < x.2.length then 4 else match p with
    | some y => if leB x.1 y = true then 9 else lck (some x.1) r
    | none => lck (some x.1) r
def lckA (l : List Lb) : Int := if 16 < l.length then 4 else lck none l
def prevL (l : List Lb) (i : Nat) : Option (List UInt8) := if i = 0 then none else (l[i - 1]?).map (·.1)
theorem lck_step {l : List Lb} {i : Nat} {x : Lb} (h : l[i]? = some x) : lck (prevL l i) (l.drop i) = if nameOK x.1 = false then 5 else if x.2 = [] then 1 else if 200 < x.2.length then 4 else match prevL l i with
    | some y => if leB x.1 y = true then 9 else lck (prevL l (i + 1)) (l.drop (i + 1))
    | none => lck (prevL l (i + 1)) (l.drop (i + 1)) := by
  have hi := (List.getElem?_eq_some_iff.1 h).1
  have hx := (List.getElem?_eq_some_iff.1 h).2
  have hp : prevL l (i + 1) = some x.1 := by simp [prevL, h]
  rw [List.drop_eq_getElem_cons hi, hx, hp]
  cases prevL l i <;> rfl
theorem lck_end (p : Option (List UInt8)) : lck p [] = 0 := by cases p <;> rfl
/-- 45: labels.Check -/
theorem pf45 (l : List Lb) (hl : l.length < 2^40) (hs : ∀ x ∈ l, x.1.length < 2^50 ∧ x.2.length < 2^50) : Pf E0 45 [.c (.p (.lst l.length (l.flatMap lbP)))] (P' (pI (lckA l))) := by
  have hfl : (l.flatMap lbP).length = l.length * 2 := flat_len (k := 2) (fun _ => rfl) l
  refine Pf.body (fn := Tryz.f45) (by kernel_rfl) rfl ?_; simp only [List.map_cons, List.map_nil, List.cons_append, List.nil_append, List.length_cons, List.length_nil, Tryz.ntmps45, List.replicate, Nat.reduceSub, Nat.reduceAdd]
  refine Wc.seq ?_
  refine Wc.reg fun K hK => ?_; simp only [go_sem, ti3, ti9, ti5, ti4, ti35, ti22, ti64]; refine hK _ _ ?_; clear hK K
  refine Wc.seq (Wc.seq ?_)
  refine Wc.reg fun K hK => ?_; simp only [go_sem, ti3, ti9, ti5, ti4, ti35, ti22, ti64]; refine hK _ _ ?_; clear hK K
  refine Wc.cond (t := decide ((16 : Int) < l.length)) (by simp only [go_sem, ti3, ti9, ti5, ti4, ti35, ti22, ti64]) (fun hc => ?_) (fun hc => ?_)
  · have hc' : 16 < l.length := by have : (16 : Int) < l.length := by simpa using hc
                                   omega
    refine Wc.seq ?_
    refine Wc.reg fun K hK => ?_; simp only [go_sem, ti3, ti9, ti5, ti4, ti35, ti22, ti64]; refine hK _ _ ?_; clear hK K
    have e : lckA l = 4 := by unfold lckA; rw [if_pos hc']
    rw [e]
    exact Wc.ret (Pf.ret [.tmp 2] [.c (.p (pI 4))] rfl rfl (by simp only [resultsD, go_sem, ti3, ti9, ti5, ti4, ti35, ti22, ti64]) rfl)
  have hc' : ¬ 16 < l.length := by have : ¬ (16 : Int) < l.length := by simpa using hc
                                   omega
  have e0 : lckA l = lck (prevL l 0) (l.drop 0) := by unfold lckA; rw [if_neg hc']; rfl
  refine Wc.skip (Wc.seqR (fun y => lckA l = 0 ∧ y.ds = [] ∧ y.e.length = 44) ?_ ?_)
  · refine Wc.seq ?_
    refine Wc.reg fun K hK => ?_; simp only [go_sem, ti3, ti9, ti5, ti4, ti35, ti22, ti64, Int.natCast_zero]; refine hK _ _ ?_; clear hK K
    refine Wc.block (Wc.loop (fun k y => ∃ i : Nat, k = l.length - i ∧ i ≤ l.length ∧ y.ds = [] ∧ y.e.length = 44 ∧ y.e.getD 0 .junk = P' (.lst l.length (l.flatMap lbP)) ∧ y.e.getD 8 .junk = P' (.lst l.length (l.flatMap lbP)) ∧ y.e.getD 9 .junk = P' (pI l.length) ∧ y.e.getD 10 .junk = P' (pI i) ∧ lckA l = lck (prevL l i) (l.drop i)) ?_ (k := l.length) ?_)
    · rintro k ⟨e, ds, s1⟩ ⟨i, rfl, hi, rfl, hlen, h0, h8, h9, h10, hch⟩
      simp only at hlen h0 h8 h9 h10
      refine Wc.seq ?_
      refine Wc.reg fun K hK => ?_; simp only [go_sem, ti3, ti9, ti5, ti4, ti35, ti22, ti64, hlen, h0, h8, h9, h10]; refine hK _ _ ?_; clear hK K
      refine Wc.seq (Wc.cond (t := decide ((i : Int) < l.length)) (by simp only [go_sem, ti3, ti9, ti5, ti4, ti35, ti22, ti64, hlen]) (fun hc => ?_) (fun hc => ?_))
      · have hil : i < l.length := by have : (i : Int) < l.length := by simpa using hc
                                      omega
        obtain ⟨x, hx⟩ : ∃ x, l[i]? = some x := ⟨l[i], List.getElem?_eq_getElem hil⟩
        have hxs := hs x (List.mem_of_getElem? hx)
        have hix := ixA ti22 rfl ti64 (j := i) (m := l.length) (cs := l.flatMap lbP) hil hfl (by decide)
        have hca := rpA (off := i * 2) (drop_flat (f := lbP) (k := 2) (fun _ => rfl) hx) (by rw [hfl]; omega)
        rw [lck_step hx] at hch
        refine Wc.skip (Wc.seq (Wc.block (Wc.seq ?_)))
        refine Wc.reg fun K hK => ?_; simp only [go_sem, ti3, ti9, ti5, ti4, ti35, ti22, ti64, hlen, h0, h8, h9, h10, hix, hca]; refine hK _ _ ?_; clear hK K
        refine Wc.block (Wc.seq ?_)
        refine Wc.reg fun K hK => ?_; simp only [go_sem, ti3, ti9, ti5, ti4, ti35, ti22, ti64, hlen, h0, h8, h9, h10]
        refine wpCall.pf (pf83 x.1) (by kernel_rfl) (by kernel_rfl) rfl rfl ?_
        simp only [go_sem, ti3, ti9, ti5, ti4, ti35, ti22, ti64, hlen, h0, h8, h9, h10]; refine hK _ _ ?_; clear hK K
        refine Wc.cond (t := !(nameOK x.1)) (by simp only [go_sem, ti3, ti9, ti5, ti4, ti35, ti22, ti64, hlen]) (fun hc => ?_) (fun hc => ?_)
        · have hn : nameOK x.1 = false := by simpa using hc
          rw [if_pos hn] at hch
          refine Wc.seq ?_
          refine Wc.reg fun K hK => ?_; simp only [go_sem, ti3, ti9, ti5, ti4, ti35, ti22, ti64, hlen]; refine hK _ _ ?_; clear hK K
          rw [hch]
          exact Wc.ret (Pf.ret [.tmp 2] [.c (.p (pI 5))] rfl rfl (by simp only [resultsD, go_sem, ti3, ti9, ti5, ti4, ti35, ti22, ti64, hlen]) rfl)
        have hn : ¬ nameOK x.1 = false := by simpa using hc
        rw [if_neg hn] at hch
        refine Wc.seq ?_
        refine Wc.reg fun K hK => ?_; simp only [go_sem, ti3, ti9, ti5, ti4, ti35, ti22, ti64, hlen, h0, h8, h9, h10]; refine hK _ _ ?_; clear hK K
        refine Wc.cond (t := (x.2 == [])) (by simp only [go_sem, ti3, ti9, ti5, ti4, ti35, ti22, ti64, hlen]) (fun hc => ?_) (fun hc => ?_)
        · have hv : x.2 = [] := by simpa using hc
          rw [if_pos hv] at hch
          refine Wc.seq ?_
          refine Wc.reg fun K hK => ?_; simp only [go_sem, ti3, ti9, ti5, ti4, ti35, ti22, ti64, hlen]; refine hK _ _ ?_; clear hK K
          rw [hch]
          exact Wc.ret (Pf.ret [.tmp 2] [.c (.p (pI 1))] rfl rfl (by simp only [resultsD, go_sem, ti3, ti9, ti5, ti4, ti35, ti22, ti64, hlen]) rfl)
        have hv : ¬ x.2 = [] := by simpa using hc
        rw [if_neg hv] at hch
        refine Wc.seq ?_
        refine Wc.reg fun K hK => ?_; simp only [go_sem, ti3, ti9, ti5, ti4, ti35, ti22, ti64, hlen, h0, h8, h9, h10]; refine hK _ _ ?_; clear hK K
        refine Wc.cond (t := decide ((200 : Int) < x.2.length)) (by simp only [go_sem, ti3, ti9, ti5, ti4, ti35, ti22, ti64, hlen]) (fun hc => ?_) (fun hc => ?_)
        · have hv2 : 200 < x.2.length := by have : (200 : Int) < x.2.length := by simpa using hc
                                            omega
          rw [if_pos hv2] at hch
          refine Wc.seq ?_
          refine Wc.reg fun K hK => ?_; simp only [go_sem, ti3, ti9, ti5, ti4, ti35, ti22, ti64, hlen]; refine hK _ _ ?_; clear hK K
          rw [hch]
          exact Wc.ret (Pf.ret [.tmp 2] [.c (.p (pI 4))] rfl rfl (by simp only [resultsD, go_sem, ti3, ti9, ti5, ti4, ti35, ti22, ti64, hlen]) rfl)
        have hv2 : ¬ 200 < x.2.length := by have : ¬ (200 : Int) < x.2.length := by simpa using hc
                                            omega
        rw [if_neg hv2] at hch
        refine Wc.seq ?_
        by_cases hi0 : 0 < i
        · obtain ⟨y, hy⟩ : ∃ y, l[i - 1]? = some y := ⟨l[i - 1], List.getElem?_eq_getElem (by omega)⟩
          have hiy := ixA ti22 rfl ti64 (j := i - 1) (m := l.length) (cs := l.flatMap lbP) (by omega) hfl (by decide)
          have hcb := rpA (off := (i - 1) * 2) (drop_flat (f := lbP) (k := 2) (fun _ => rfl) hy) (by rw [hfl]; omega)
          have e1 : IntKind.i64.wrap ((i : Int) - 1) = ((i - 1 : Nat) : Int) := by rw [wi64]; omega
          have hd : (0 < (i : Int)) = True := by simp; omega
          have hpr : prevL l i = some y.1 := by unfold prevL; rw [if_neg (by omega), hy]; rfl
          rw [hpr] at hch
          simp only at hch
          refine Wc.regD fun K hK => ?_; simp only [go_sem, ti3, ti9, ti5, ti4, ti35, ti22, ti64, hlen, h0, h8, h9, h10, hiy, hcb, e1, hd]; refine hK _ _ ?_; clear hK K
          refine Wc.cond (t := leB x.1 y.1) (by simp only [go_sem, ti3, ti9, ti5, ti4, ti35, ti22, ti64, hlen, hd]; rfl) (fun hc => ?_) (fun hc => ?_)
          · rw [if_pos hc] at hch
            refine Wc.seq ?_
            refine Wc.reg fun K hK => ?_; simp only [go_sem, ti3, ti9, ti5, ti4, ti35, ti22, ti64, hlen]; refine hK _ _ ?_; clear hK K
            rw [hch]
            exact Wc.ret (Pf.ret [.tmp 2] [.c (.p (pI 9))] rfl rfl (by simp only [resultsD, go_sem, ti3, ti9, ti5, ti4, ti35, ti22, ti64, hlen]) rfl)
          · rw [if_neg (by rw [hc]; decide)] at hch
            refine Wc.skip ?_
            refine Wc.reg fun K hK => ?_; simp only [go_sem, ti3, ti9, ti5, ti4, ti35, ti22, ti64, hlen, h0, h8, h9, h10, i64n i (by omega)]; refine hK _ _ ?_; clear hK K
            exact ⟨l.length - (i + 1), by omega, i + 1, rfl, by omega, rfl, by simp only [go_sem, ti3, ti9, ti5, ti4, ti35, ti22, ti64, hlen], by simp only [go_sem, ti3, ti9, ti5, ti4, ti35, ti22, ti64, hlen, h0], by simp only [go_sem, ti3, ti9, ti5, ti4, ti35, ti22, ti64, hlen, h8], by simp only [go_sem, ti3, ti9, ti5, ti4, ti35, ti22, ti64, hlen, h9], by simp only [go_sem, ti3, ti9, ti5, ti4, ti35, ti22, ti64, hlen], hch⟩
        · have hd : (0 < (i : Int)) = False := by simp; omega
          have hpr : prevL l i = none := by unfold prevL; rw [if_pos (by omega)]
          rw [hpr] at hch
          simp only at hch
          refine Wc.regD fun K hK => ?_; simp only [go_sem, ti3, ti9, ti5, ti4, ti35, ti22, ti64, hlen, h0, h8, h9, h10, hd]; refine hK _ _ ?_; clear hK K
          refine Wc.cond (t := false) (by simp only [go_sem, ti3, ti9, ti5, ti4, ti35, ti22, ti64, hlen, hd]) (fun hc => by cases hc) (fun hc => ?_)
          refine Wc.skip ?_
          refine Wc.reg fun K hK => ?_; simp only [go_sem, ti3, ti9, ti5, ti4, ti35, ti22, ti64, hlen, h0, h8, h9, h10, i64n i (by omega)]; refine hK _ _ ?_; clear hK K
          exact ⟨l.length - (i + 1), by omega, i + 1, rfl, by omega, rfl, by simp only [go_sem, ti3, ti9, ti5, ti4, ti35, ti22, ti64, hlen], by simp only [go_sem, ti3, ti9, ti5, ti4, ti35, ti22, ti64, hlen, h0], by simp only [go_sem, ti3, ti9, ti5, ti4, ti35, ti22, ti64, hlen, h8], by simp only [go_sem, ti3, ti9, ti5, ti4, ti35, ti22, ti64, hlen, h9], by simp only [go_sem, ti3, ti9, ti5, ti4, ti35, ti22, ti64, hlen], hch⟩
      · have hil : i = l.length := by have : ¬ (i : Int) < l.length := by simpa using hc
                                      omega
        rw [hil, List.drop_length, lck_end] at hch
        exact Wc.exit ⟨hch, rfl, by simp only [go_sem, ti3, ti9, ti5, ti4, ti35, ti22, ti64, hlen]⟩
    · exact ⟨0, rfl, by omega, rfl, rfl, rfl, rfl, rfl, rfl, e0⟩
  · rintro ⟨e, ds, s1⟩ ⟨hch, rfl, hlen⟩
    simp only at hlen
    rw [hch]
    refine Wc.seq ?_
    refine Wc.reg fun K hK => ?_; simp only [go_sem, ti3, ti9, ti5, ti4, ti35, ti22, ti64, hlen]; refine hK _ _ ?_; clear hK K
    exact Wc.ret (Pf.ret [.tmp 2] [.c (.p (pI 0))] rfl rfl (by simp only [resultsD, go_sem, ti3, ti9, ti5, ti4, ti35, ti22, ti64, hlen]) rfl)
end Go.Proofs.YtafaoldmemcigaaGreat.Ab
namespace Go.Proofs.YtafaoldmemcigaaGreat.Ab
set_option maxHeartbeats 4000000
set_option maxRecDepth 10000
set_option linter.unusedSimpArgs false
set_option linter.unusedVariables false
/-- 63: the reference's Check of labels -/
theorem pf63 (l : List Lb) (hl : l.length < 2^40) (hs : ∀ x ∈ l, x.1.length < 2^50 ∧ x.2.length < 2^50) : Pf E0 63 [.c (.p (.lst l.length (l.flatMap lbP)))] (P' (pI (lckA l))) := by
  have hfl : (l.flatMap lbP).length = l.length * 2 := flat_len (k := 2) (fun _ => rfl) l
  refine Pf.body (fn := Tryz.f63) (by kernel_rfl) rfl ?_; simp only [List.map_cons, List.map_nil, List.cons_append, List.nil_append, List.length_cons, List.length_nil, Tryz.ntmps63, List.replicate, Nat.reduceSub, Nat.reduceAdd]
  refine Wc.seq ?_
  refine Wc.reg fun K hK => ?_; simp only [go_sem, ti3, ti9, ti5, ti4, ti35, ti22, ti64]; refine hK _ _ ?_; clear hK K
  refine Wc.seq (Wc.seq ?_)
  refine Wc.reg fun K hK => ?_; simp only [go_sem, ti3, ti9, ti5, ti4, ti35, ti22, ti64]; refine hK _ _ ?_; clear hK K
  refine Wc.cond (t := decide ((16 : Int) < l.length)) (by simp only [go_sem, ti3, ti9, ti5, ti4, ti35, ti22, ti64]) (fun hc => ?_) (fun hc => ?_)
  · have hc' : 16 < l.length := by have : (16 : Int) < l.length := by simpa using hc
                                   omega
    refine Wc.seq ?_
    refine Wc.reg fun K hK => ?_; simp only [go_sem, ti3, ti9, ti5, ti4, ti35, ti22, ti64]; refine hK _ _ ?_; clear hK K
    have e : lckA l = 4 := by unfold lckA; rw [if_pos hc']
    rw [e]
    exact Wc.ret (Pf.ret [.tmp 2] [.c (.p (pI 4))] rfl rfl (by simp only [resultsD, go_sem, ti3, ti9, ti5, ti4, ti35, ti22, ti64]) rfl)
  have hc' : ¬ 16 < l.length := by have : ¬ (16 : Int) < l.length := by simpa using hc
                                   omega
  have e0 : lckA l = lck (prevL l 0) (l.drop 0) := by unfold lckA; rw [if_neg hc']; rfl
  refine Wc.skip (Wc.seqR (fun y => lckA l = 0 ∧ y.ds = [] ∧ y.e.length = 49) ?_ ?_)
  · refine Wc.seq ?_
    refine Wc.reg fun K hK => ?_; simp only [go_sem, ti3, ti9, ti5, ti4, ti35, ti22, ti64, Int.natCast_zero]; refine hK _ _ ?_; clear hK K
    refine Wc.block (Wc.loop (fun k y => ∃ i : Nat, k = l.length - i ∧ i ≤ l.length ∧ y.ds = [] ∧ y.e.length = 49 ∧ y.e.getD 0 .junk = P' (.lst l.length (l.flatMap lbP)) ∧ y.e.getD 3 .junk = P' (pI i) ∧ lckA l = lck (prevL l i) (l.drop i)) ?_ (k := l.length) ?_)
    · rintro k ⟨e, ds, s1⟩ ⟨i, rfl, hi, rfl, hlen, h0, h3, hch⟩
      simp only at hlen h0 h3
      refine Wc.seq (Wc.seq ?_)
      refine Wc.reg fun K hK => ?_; simp only [go_sem, ti3, ti9, ti5, ti4, ti35, ti22, ti64, hlen, h0, h3]; refine hK _ _ ?_; clear hK K
      refine Wc.cond (t := decide ((i : Int) < l.length)) (by simp only [go_sem, ti3, ti9, ti5, ti4, ti35, ti22, ti64, hlen]) (fun hc => ?_) (fun hc => ?_)
      · have hil : i < l.length := by have : (i : Int) < l.length := by simpa using hc
                                      omega
        obtain ⟨x, hx⟩ : ∃ x, l[i]? = some x := ⟨l[i], List.getElem?_eq_getElem hil⟩
        have hxs := hs x (List.mem_of_getElem? hx)
        have hix := ixA ti22 rfl ti64 (j := i) (m := l.length) (cs := l.flatMap lbP) hil hfl (by decide)
        have hca := rpA (off := i * 2) (drop_flat (f := lbP) (k := 2) (fun _ => rfl) hx) (by rw [hfl]; omega)
        have hcc := rpA (off := i * 2 + 1) (cs := l.flatMap lbP) (pre := [.str x.2]) (rest := (l.drop (i + 1)).flatMap lbP) (by rw [← List.drop_drop, drop_flat (f := lbP) (k := 2) (fun _ => rfl) hx]; rfl) (by rw [hfl]; omega)
        rw [lck_step hx] at hch
        refine Wc.skip (Wc.seq (Wc.block (Wc.seq (Wc.seq ?_))))
        refine Wc.reg fun K hK => ?_; simp only [go_sem, ti3, ti9, ti5, ti4, ti35, ti22, ti64, hlen, h0, h3, hix, hca]
        refine wpCall.pf (pf110 x.1 (by omega)) (by kernel_rfl) (by kernel_rfl) rfl rfl ?_
        simp only [go_sem, ti3, ti9, ti5, ti4, ti35, ti22, ti64, hlen, h0, h3]; refine hK _ _ ?_; clear hK K
        refine Wc.cond (t := !(nameOK x.1)) (by simp only [go_sem, ti3, ti9, ti5, ti4, ti35, ti22, ti64, hlen]) (fun hc => ?_) (fun hc => ?_)
        · have hn : nameOK x.1 = false := by simpa using hc
          rw [if_pos hn] at hch
          refine Wc.seq ?_
          refine Wc.reg fun K hK => ?_; simp only [go_sem, ti3, ti9, ti5, ti4, ti35, ti22, ti64, hlen]; refine hK _ _ ?_; clear hK K
          rw [hch]
          exact Wc.ret (Pf.ret [.tmp 2] [.c (.p (pI 5))] rfl rfl (by simp only [resultsD, go_sem, ti3, ti9, ti5, ti4, ti35, ti22, ti64, hlen]) rfl)
        have hn : ¬ nameOK x.1 = false := by simpa using hc
        rw [if_neg hn] at hch
        refine Wc.skip (Wc.seq (Wc.seq ?_))
        refine Wc.reg fun K hK => ?_; simp only [go_sem, ti3, ti9, ti5, ti4, ti35, ti22, ti64, hlen, h0, h3, hix, hcc]; refine hK _ _ ?_; clear hK K
        refine Wc.cond (t := (x.2 == [])) (by simp only [go_sem, ti3, ti9, ti5, ti4, ti35, ti22, ti64, hlen]) (fun hc => ?_) (fun hc => ?_)
        · have hv : x.2 = [] := by simpa using hc
          rw [if_pos hv] at hch
          refine Wc.seq ?_
          refine Wc.reg fun K hK => ?_; simp only [go_sem, ti3, ti9, ti5, ti4, ti35, ti22, ti64, hlen]; refine hK _ _ ?_; clear hK K
          rw [hch]
          exact Wc.ret (Pf.ret [.tmp 2] [.c (.p (pI 1))] rfl rfl (by simp only [resultsD, go_sem, ti3, ti9, ti5, ti4, ti35, ti22, ti64, hlen]) rfl)
        have hv : ¬ x.2 = [] := by simpa using hc
        rw [if_neg hv] at hch
        refine Wc.skip (Wc.seq (Wc.seq ?_))
        refine Wc.reg fun K hK => ?_; simp only [go_sem, ti3, ti9, ti5, ti4, ti35, ti22, ti64, hlen, h0, h3, hix, hcc]; refine hK _ _ ?_; clear hK K
        refine Wc.cond (t := decide ((200 : Int) < x.2.length)) (by simp only [go_sem, ti3, ti9, ti5, ti4, ti35, ti22, ti64, hlen]) (fun hc => ?_) (fun hc => ?_)
        · have hv2 : 200 < x.2.length := by have : (200 : Int) < x.2.length := by simpa using hc
                                            omega
          rw [if_pos hv2] at hch
          refine Wc.seq ?_
          refine Wc.reg fun K hK => ?_; simp only [go_sem, ti3, ti9, ti5, ti4, ti35, ti22, ti64, hlen]; refine hK _ _ ?_; clear hK K
          rw [hch]
          exact Wc.ret (Pf.ret [.tmp 2] [.c (.p (pI 4))] rfl rfl (by simp only [resultsD, go_sem, ti3, ti9, ti5, ti4, ti35, ti22, ti64, hlen]) rfl)
        have hv2 : ¬ 200 < x.2.length := by have : ¬ (200 : Int) < x.2.length := by simpa using hc
                                            omega
        rw [if_neg hv2] at hch
        refine Wc.skip (Wc.seq ?_)
        by_cases hi0 : 0 < i
        · obtain ⟨y, hy⟩ : ∃ y, l[i - 1]? = some y := ⟨l[i - 1], List.getElem?_eq_getElem (by omega)⟩
          have hiy := ixA ti22 rfl ti64 (j := i - 1) (m := l.length) (cs := l.flatMap lbP) (by omega) hfl (by decide)
          have hcb := rpA (off := (i - 1) * 2) (drop_flat (f := lbP) (k := 2) (fun _ => rfl) hy) (by rw [hfl]; omega)
          have e1 : IntKind.i64.wrap ((i : Int) - 1) = ((i - 1 : Nat) : Int) := by rw [wi64]; omega
          have hd : (0 < (i : Int)) = True := by simp; omega
          have hpr : prevL l i = some y.1 := by unfold prevL; rw [if_neg (by omega), hy]; rfl
          rw [hpr] at hch
          simp only at hch
          refine Wc.regD fun K hK => ?_; simp only [go_sem, ti3, ti9, ti5, ti4, ti35, ti22, ti64, hlen, h0, h3, hix, hca, hiy, hcb, e1, hd]; refine hK _ _ ?_; clear hK K
          refine Wc.cond (t := leB x.1 y.1) (by simp only [go_sem, ti3, ti9, ti5, ti4, ti35, ti22, ti64, hlen, hd]; rfl) (fun hc => ?_) (fun hc => ?_)
          · rw [if_pos hc] at hch
            refine Wc.seq ?_
            refine Wc.reg fun K hK => ?_; simp only [go_sem, ti3, ti9, ti5, ti4, ti35, ti22, ti64, hlen]; refine hK _ _ ?_; clear hK K
            rw [hch]
            exact Wc.ret (Pf.ret [.tmp 2] [.c (.p (pI 9))] rfl rfl (by simp only [resultsD, go_sem, ti3, ti9, ti5, ti4, ti35, ti22, ti64, hlen]) rfl)
          · rw [if_neg (by rw [hc]; decide)] at hch
            refine Wc.skip ?_
            refine Wc.reg fun K hK => ?_; simp only [go_sem, ti3, ti9, ti5, ti4, ti35, ti22, ti64, hlen, h0, h3, i64n i (by omega)]; refine hK _ _ ?_; clear hK K
            exact ⟨l.length - (i + 1), by omega, i + 1, rfl, by omega, rfl, by simp only [go_sem, ti3, ti9, ti5, ti4, ti35, ti22, ti64, hlen], by simp only [go_sem, ti3, ti9, ti5, ti4, ti35, ti22, ti64, hlen, h0], by simp only [go_sem, ti3, ti9, ti5, ti4, ti35, ti22, ti64, hlen], hch⟩
        · have hd : (0 < (i : Int)) = False := by simp; omega
          have hpr : prevL l i = none := by unfold prevL; rw [if_pos (by omega)]
          rw [hpr] at hch
          simp only at hch
          refine Wc.regD fun K hK => ?_; simp only [go_sem, ti3, ti9, ti5, ti4, ti35, ti22, ti64, hlen, h0, h3, hd]; refine hK _ _ ?_; clear hK K
          refine Wc.cond (t := false) (by simp only [go_sem, ti3, ti9, ti5, ti4, ti35, ti22, ti64, hlen, hd]) (fun hc => by cases hc) (fun hc => ?_)
          refine Wc.skip ?_
          refine Wc.reg fun K hK => ?_; simp only [go_sem, ti3, ti9, ti5, ti4, ti35, ti22, ti64, hlen, h0, h3, i64n i (by omega)]; refine hK _ _ ?_; clear hK K
          exact ⟨l.length - (i + 1), by omega, i + 1, rfl, by omega, rfl, by simp only [go_sem, ti3, ti9, ti5, ti4, ti35, ti22, ti64, hlen], by simp only [go_sem, ti3, ti9, ti5, ti4, ti35, ti22, ti64, hlen, h0], by simp only [go_sem, ti3, ti9, ti5, ti4, ti35, ti22, ti64, hlen], hch⟩
      · have hil : i = l.length := by have : ¬ (i : Int) < l.length := by simpa using hc
                                      omega
        rw [hil, List.drop_length, lck_end] at hch
        exact Wc.exit ⟨hch, rfl, by simp only [go_sem, ti3, ti9, ti5, ti4, ti35, ti22, ti64, hlen]⟩
    · exact ⟨0, rfl, by omega, rfl, rfl, rfl, rfl, e0⟩
  · rintro ⟨e, ds, s1⟩ ⟨hch, rfl, hlen⟩
    simp only at hlen
    rw [hch]
    refine Wc.seq ?_
    refine Wc.reg fun K hK => ?_; simp only [go_sem, ti3, ti9, ti5, ti4, ti35, ti22, ti64, hlen]; refine hK _ _ ?_; clear hK K
    exact Wc.ret (Pf.ret [.tmp 2] [.c (.p (pI 0))] rfl rfl (by simp only [resultsD, go_sem, ti3, ti9, ti5, ti4, ti35, ti22, ti64, hlen]) rfl)
end Go.Proofs.YtafaoldmemcigaaGreat.Ab
