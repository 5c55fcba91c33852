/- A part of the proof: an evaluator of the code, its contracts, the law. No condition. -/
import Derived.Test.YtedcnhbblgmdnaaGreatT16
namespace Go.Proofs.YtedcnhbblgmdnaaGreat.Ab
set_option maxHeartbeats 4000000
set_option maxRecDepth 10000
set_option linter.unusedSimpArgs false
set_option linter.unusedVariables false
/-- A label: name, value. -/
abbrev Lb := List UInt8 × List UInt8
abbrev lbP (x : Lb) : List Pd := [.str x.1, .str x.2]
def leB (x y : List UInt8) : Bool := Op.bytesLess x y || x == y
/-- Why a list is no label set, behind a name. -/
def lck : Option (List UInt8) → List Lb → Int
  | _, [] => 0
  | p, x :: r => if nameOK x.1 = false then 5 else if x.2 = [] then 1 else if 200 < x.2.length then 4 else match p with
    | some y => if leB x.1 y = true then 9 else lck (some x.1) r
    | none => lck (some x.1) r
def lckA (l : List Lb) : Int := if 16 < l.length then 4 else lck none l
def prevL (l : List Lb) (i : Nat) : Option (List UInt8) := if i = 0 then none else (l[i - 1]?).map (·.1)
theorem lck_step {l : List Lb} {i : Nat} {x : Lb} (h : l[i]? = some x) : lck (prevL l i) (l.drop i) = if nameOK x.1 = false then 5 else if x.2 = [] then 1 else if 200 < x.2.length then 4 else match prevL l i with
    | some y => if leB x.1 y = true then 9 else lck (prevL l (i + 1)) (l.drop (i + 1))
    | none => lck (prevL l (i + 1)) (l.drop (i + 1)) := by
  have hi := (List.getElem?_eq_some_iff.1 h).1
  have hx := (List.getElem?_eq_some_iff.1 h).2
  have hp : prevL l (i + 1) = some x.1 := by simp [prevL, h]
  rw [List.drop_eq_getElem_cons hi, hx, hp]
  cases prevL l i <;> rfl
theorem lck_end (p : Option (List UInt8)) : lck p [] = 0 := by cases p <;> rfl
/-- 45: labels.Check -/
theorem pf134 (l : List Lb) (hl : l.length < 2^40) (hs : ∀ x ∈ l, x.1.length < 2^50 ∧ x.2.length < 2^50) : Pf E0 134 [.c (.p (.lst l.length (l.flatMap lbP)))] (P' (pI (lckA l))) := by
  have hfl : (l.flatMap lbP).length = l.length * 2 := flat_len (k := 2) (fun _ => rfl) l
  refine Pf.body (fn := Tryz.f134) (by kernel_rfl) rfl ?_; simp only [List.map_cons, List.map_nil, List.cons_append, List.nil_append, List.length_cons, List.length_nil, Tryz.ntmps134, List.replicate, Nat.reduceSub, Nat.reduceAdd]
  refine Wc.seq ?_
  refine Wc.reg fun K hK => ?_; simp only [go_sem, ti3, ti9, ti5, ti4, ti32, ti22, ti117]; refine hK _ _ ?_; clear hK K
  refine Wc.seq (Wc.seq ?_)
  refine Wc.reg fun K hK => ?_; simp only [go_sem, ti3, ti9, ti5, ti4, ti32, ti22, ti117]; refine hK _ _ ?_; clear hK K
  refine Wc.cond (t := decide ((16 : Int) < l.length)) (by simp only [go_sem, ti3, ti9, ti5, ti4, ti32, ti22, ti117]) (fun hc => ?_) (fun hc => ?_)
  · have hc' : 16 < l.length := by have : (16 : Int) < l.length := by simpa using hc
                                   omega
    refine Wc.seq ?_
    refine Wc.reg fun K hK => ?_; simp only [go_sem, ti3, ti9, ti5, ti4, ti32, ti22, ti117]; refine hK _ _ ?_; clear hK K
    have e : lckA l = 4 := by unfold lckA; rw [if_pos hc']
    rw [e]
    exact Wc.ret (Pf.ret [.tmp 2] [.c (.p (pI 4))] rfl rfl (by simp only [resultsD, go_sem, ti3, ti9, ti5, ti4, ti32, ti22, ti117]) rfl)
  have hc' : ¬ 16 < l.length := by have : ¬ (16 : Int) < l.length := by simpa using hc
                                   omega
  have e0 : lckA l = lck (prevL l 0) (l.drop 0) := by unfold lckA; rw [if_neg hc']; rfl
  refine Wc.skip (Wc.seqR (fun y => lckA l = 0 ∧ y.ds = [] ∧ y.e.length = 44) ?_ ?_)
  · refine Wc.seq ?_
    refine Wc.reg fun K hK => ?_; simp only [go_sem, ti3, ti9, ti5, ti4, ti32, ti22, ti117, Int.natCast_zero]; refine hK _ _ ?_; clear hK K
    refine Wc.block (Wc.loop (fun k y => ∃ i : Nat, k = l.length - i ∧ i ≤ l.length ∧ y.ds = [] ∧ y.e.length = 44 ∧ y.e.getD 0 .junk = P' (.lst l.length (l.flatMap lbP)) ∧ y.e.getD 8 .junk = P' (.lst l.length (l.flatMap lbP)) ∧ y.e.getD 9 .junk = P' (pI l.length) ∧ y.e.getD 10 .junk = P' (pI i) ∧ lckA l = lck (prevL l i) (l.drop i)) ?_ (k := l.length) ?_)
    · rintro k ⟨e, ds, s1⟩ ⟨i, rfl, hi, rfl, hlen, h0, h8, h9, h10, hch⟩
      simp only at hlen h0 h8 h9 h10
      refine Wc.seq ?_
      refine Wc.reg fun K hK => ?_; simp only [go_sem, ti3, ti9, ti5, ti4, ti32, ti22, ti117, hlen, h0, h8, h9, h10]; refine hK _ _ ?_; clear hK K
      refine Wc.seq (Wc.cond (t := decide ((i : Int) < l.length)) (by simp only [go_sem, ti3, ti9, ti5, ti4, ti32, ti22, ti117, hlen]) (fun hc => ?_) (fun hc => ?_))
      · have hil : i < l.length := by have : (i : Int) < l.length := by simpa using hc
                                      omega
        obtain ⟨x, hx⟩ : ∃ x, l[i]? = some x := ⟨l[i], List.getElem?_eq_getElem hil⟩
        have hxs := hs x (List.mem_of_getElem? hx)
        have hix := ixA ti22 rfl ti117 (j := i) (m := l.length) (cs := l.flatMap lbP) hil hfl (by decide)
        have hca := rpA (off := i * 2) (drop_flat (f := lbP) (k := 2) (fun _ => rfl) hx) (by rw [hfl]; omega)
        rw [lck_step hx] at hch
        refine Wc.skip (Wc.seq (Wc.block (Wc.seq ?_)))
        refine Wc.reg fun K hK => ?_; simp only [go_sem, ti3, ti9, ti5, ti4, ti32, ti22, ti117, hlen, h0, h8, h9, h10, hix, hca]; refine hK _ _ ?_; clear hK K
        refine Wc.block (Wc.seq ?_)
        refine Wc.reg fun K hK => ?_; simp only [go_sem, ti3, ti9, ti5, ti4, ti32, ti22, ti117, hlen, h0, h8, h9, h10]
        refine wpCall.pf (pf208 x.1) (by kernel_rfl) (by kernel_rfl) rfl rfl ?_
        simp only [go_sem, ti3, ti9, ti5, ti4, ti32, ti22, ti117, hlen, h0, h8, h9, h10]; refine hK _ _ ?_; clear hK K
        refine Wc.cond (t := !(nameOK x.1)) (by simp only [go_sem, ti3, ti9, ti5, ti4, ti32, ti22, ti117, hlen]) (fun hc => ?_) (fun hc => ?_)
        · have hn : nameOK x.1 = false := by simpa using hc
          rw [if_pos hn] at hch
          refine Wc.seq ?_
          refine Wc.reg fun K hK => ?_; simp only [go_sem, ti3, ti9, ti5, ti4, ti32, ti22, ti117, hlen]; refine hK _ _ ?_; clear hK K
          rw [hch]
          exact Wc.ret (Pf.ret [.tmp 2] [.c (.p (pI 5))] rfl rfl (by simp only [resultsD, go_sem, ti3, ti9, ti5, ti4, ti32, ti22, ti117, hlen]) rfl)
        have hn : ¬ nameOK x.1 = false := by simpa using hc
        rw [if_neg hn] at hch
        refine Wc.seq ?_
        refine Wc.reg fun K hK => ?_; simp only [go_sem, ti3, ti9, ti5, ti4, ti32, ti22, ti117, hlen, h0, h8, h9, h10]; refine hK _ _ ?_; clear hK K
        refine Wc.cond (t := (x.2 == [])) (by simp only [go_sem, ti3, ti9, ti5, ti4, ti32, ti22, ti117, hlen]) (fun hc => ?_) (fun hc => ?_)
        · have hv : x.2 = [] := by simpa using hc
          rw [if_pos hv] at hch
          refine Wc.seq ?_
          refine Wc.reg fun K hK => ?_; simp only [go_sem, ti3, ti9, ti5, ti4, ti32, ti22, ti117, hlen]; refine hK _ _ ?_; clear hK K
          rw [hch]
          exact Wc.ret (Pf.ret [.tmp 2] [.c (.p (pI 1))] rfl rfl (by simp only [resultsD, go_sem, ti3, ti9, ti5, ti4, ti32, ti22, ti117, hlen]) rfl)
        have hv : ¬ x.2 = [] := by simpa using hc
        rw [if_neg hv] at hch
        refine Wc.seq ?_
        refine Wc.reg fun K hK => ?_; simp only [go_sem, ti3, ti9, ti5, ti4, ti32, ti22, ti117, hlen, h0, h8, h9, h10]; refine hK _ _ ?_; clear hK K
        refine Wc.cond (t := decide ((200 : Int) < x.2.length)) (by simp only [go_sem, ti3, ti9, ti5, ti4, ti32, ti22, ti117, hlen]) (fun hc => ?_) (fun hc => ?_)
        · have hv2 : 200 < x.2.length := by have : (200 : Int) < x.2.length := by simpa using hc
                                            omega
          rw [if_pos hv2] at hch
          refine Wc.seq ?_
          refine Wc.reg fun K hK => ?_; simp only [go_sem, ti3, ti9, ti5, ti4, ti32, ti22, ti117, hlen]; refine hK _ _ ?_; clear hK K
          rw [hch]
          exact Wc.ret (Pf.ret [.tmp 2] [.c (.p (pI 4))] rfl rfl (by simp only [resultsD, go_sem, ti3, ti9, ti5, ti4, ti32, ti22, ti117, hlen]) rfl)
        have hv2 : ¬ 200 < x.2.length := by have : ¬ (200 : Int) < x.2.length := by simpa using hc
                                            omega
        rw [if_neg hv2] at hch
        refine Wc.seq ?_
        by_cases hi0 : 0 < i
        · obtain ⟨y, hy⟩ : ∃ y, l[i - 1]? = some y := ⟨l[i - 1], List.getElem?_eq_getElem (by omega)⟩
          have hiy := ixA ti22 rfl ti117 (j := i - 1) (m := l.length) (cs := l.flatMap lbP) (by omega) hfl (by decide)
          have hcb := rpA (off := (i - 1) * 2) (drop_flat (f := lbP) (k := 2) (fun _ => rfl) hy) (by rw [hfl]; omega)
          have e1 : IntKind.i64.wrap ((i : Int) - 1) = ((i - 1 : Nat) : Int) := by rw [wi64]; omega
          have hd : (0 < (i : Int)) = True := by simp; omega
          have hpr : prevL l i = some y.1 := by unfold prevL; rw [if_neg (by omega), hy]; rfl
          rw [hpr] at hch
          simp only at hch
          refine Wc.regD fun K hK => ?_; simp only [go_sem, ti3, ti9, ti5, ti4, ti32, ti22, ti117, hlen, h0, h8, h9, h10, hiy, hcb, e1, hd]; refine hK _ _ ?_; clear hK K
          refine Wc.cond (t := leB x.1 y.1) (by simp only [go_sem, ti3, ti9, ti5, ti4, ti32, ti22, ti117, hlen, hd]; rfl) (fun hc => ?_) (fun hc => ?_)
          · rw [if_pos hc] at hch
            refine Wc.seq ?_
            refine Wc.reg fun K hK => ?_; simp only [go_sem, ti3, ti9, ti5, ti4, ti32, ti22, ti117, hlen]; refine hK _ _ ?_; clear hK K
            rw [hch]
            exact Wc.ret (Pf.ret [.tmp 2] [.c (.p (pI 9))] rfl rfl (by simp only [resultsD, go_sem, ti3, ti9, ti5, ti4, ti32, ti22, ti117, hlen]) rfl)
          · rw [if_neg (by rw [hc]; decide)] at hch
            refine Wc.skip ?_
            refine Wc.reg fun K hK => ?_; simp only [go_sem, ti3, ti9, ti5, ti4, ti32, ti22, ti117, hlen, h0, h8, h9, h10, i64n i (by omega)]; refine hK _ _ ?_; clear hK K
            exact ⟨l.length - (i + 1), by omega, i + 1, rfl, by omega, rfl, by simp only [go_sem, ti3, ti9, ti5, ti4, ti32, ti22, ti117, hlen], by simp only [go_sem, ti3, ti9, ti5, ti4, ti32, ti22, ti117, hlen, h0], by simp only [go_sem, ti3, ti9, ti5, ti4, ti32, ti22, ti117, hlen, h8], by simp only [go_sem, ti3, ti9, ti5, ti4, ti32, ti22, ti117, hlen, h9], by simp only [go_sem, ti3, ti9, ti5, ti4, ti32, ti22, ti117, hlen], hch⟩
        · have hd : (0 < (i : Int)) = False := by simp; omega
          have hpr : prevL l i = none := by unfold prevL; rw [if_pos (by omega)]
          rw [hpr] at hch
          simp only at hch
          refine Wc.regD fun K hK => ?_; simp only [go_sem, ti3, ti9, ti5, ti4, ti32, ti22, ti117, hlen, h0, h8, h9, h10, hd]; refine hK _ _ ?_; clear hK K
          refine Wc.cond (t := false) (by simp only [go_sem, ti3, ti9, ti5, ti4, ti32, ti22, ti117, hlen, hd]) (fun hc => by cases hc) (fun hc => ?_)
          refine Wc.skip ?_
          refine Wc.reg fun K hK => ?_; simp only [go_sem, ti3, ti9, ti5, ti4, ti32, ti22, ti117, hlen, h0, h8, h9, h10, i64n i (by omega)]; refine hK _ _ ?_; clear hK K
          exact ⟨l.length - (i + 1), by omega, i + 1, rfl, by omega, rfl, by simp only [go_sem, ti3, ti9, ti5, ti4, ti32, ti22, ti117, hlen], by simp only [go_sem, ti3, ti9, ti5, ti4, ti32, ti22, ti117, hlen, h0], by simp only [go_sem, ti3, ti9, ti5, ti4, ti32, ti22, ti117, hlen, h8], by simp only [go_sem, ti3, ti9, ti5, ti4, ti32, ti22, ti117, hlen, h9], by simp only [go_sem, ti3, ti9, ti5, ti4, ti32, ti22, ti117, hlen], hch⟩
      · have hil : i = l.length := by have : ¬ (i : Int) < l.length := by simpa using hc
                                      omega
        rw [hil, List.drop_length, lck_end] at hch
        exact Wc.exit ⟨hch, rfl, by simp only [go_sem, ti3, ti9, ti5, ti4, ti32, ti22, ti117, hlen]⟩
    · exact ⟨0, rfl, by omega, rfl, rfl, rfl, rfl, rfl, rfl, e0⟩
  · rintro ⟨e, ds, s1⟩ ⟨hch, rfl, hlen⟩
    simp only at hlen
    rw [hch]
    refine Wc.seq ?_
    refine Wc.reg fun K hK => ?_; simp only [go_sem, ti3, ti9, ti5, ti4, ti32, ti22, ti117, hlen]; refine hK _ _ ?_; clear hK K
    exact Wc.ret (Pf.ret [.tmp 2] [.c (.p (pI 0))] rfl rfl (by simp only [resultsD, go_sem, ti3, ti9, ti5, ti4, ti32, ti22, ti117, hlen]) rfl)
end Go.Proofs.YtedcnhbblgmdnaaGreat.Ab
namespace Go.Proofs.YtedcnhbblgmdnaaGreat.Ab
set_option maxHeartbeats 4000000
set_option maxRecDepth 10000
set_option linter.unusedSimpArgs false
set_option linter.unusedVariables false
/-- 63: the reference's Check of labels -/
theorem pf92 (l : List Lb) (hl : l.length < 2^40) (hs : ∀ x ∈ l, x.1.length < 2^50 ∧ x.2.length < 2^50) : Pf E0 92 [.c (.p (.lst l.length (l.flatMap lbP)))] (P' (pI (lckA l))) := by
  have hfl : (l.flatMap lbP).length = l.length * 2 := flat_len (k := 2) (fun _ => rfl) l
  refine Pf.body (fn := Tryz.f92) (by kernel_rfl) rfl ?_; simp only [List.map_cons, List.map_nil, List.cons_append, List.nil_append, List.length_cons, List.length_nil, Tryz.ntmps92, List.replicate, Nat.reduceSub, Nat.reduceAdd]
  refine Wc.seq ?_
  refine Wc.reg fun K hK => ?_; simp only [go_sem, ti3, ti9, ti5, ti4, ti32, ti22, ti117]; refine hK _ _ ?_; clear hK K
  refine Wc.seq (Wc.seq ?_)
  refine Wc.reg fun K hK => ?_; simp only [go_sem, ti3, ti9, ti5, ti4, ti32, ti22, ti117]; refine hK _ _ ?_; clear hK K
  refine Wc.cond (t := decide ((16 : Int) < l.length)) (by simp only [go_sem, ti3, ti9, ti5, ti4, ti32, ti22, ti117]) (fun hc => ?_) (fun hc => ?_)
  · have hc' : 16 < l.length := by have : (16 : Int) < l.length := by simpa using hc
                                   omega
    refine Wc.seq ?_
    refine Wc.reg fun K hK => ?_; simp only [go_sem, ti3, ti9, ti5, ti4, ti32, ti22, ti117]; refine hK _ _ ?_; clear hK K
    have e : lckA l = 4 := by unfold lckA; rw [if_pos hc']
    rw [e]
    exact Wc.ret (Pf.ret [.tmp 2] [.c (.p (pI 4))] rfl rfl (by simp only [resultsD, go_sem, ti3, ti9, ti5, ti4, ti32, ti22, ti117]) rfl)
  have hc' : ¬ 16 < l.length := by have : ¬ (16 : Int) < l.length := by simpa using hc
                                   omega
  have e0 : lckA l = lck (prevL l 0) (l.drop 0) := by unfold lckA; rw [if_neg hc']; rfl
  refine Wc.skip (Wc.seqR (fun y => lckA l = 0 ∧ y.ds = [] ∧ y.e.length = 49) ?_ ?_)
  · refine Wc.seq ?_
    refine Wc.reg fun K hK => ?_; simp only [go_sem, ti3, ti9, ti5, ti4, ti32, ti22, ti117, Int.natCast_zero]; refine hK _ _ ?_; clear hK K
    refine Wc.block (Wc.loop (fun k y => ∃ i : Nat, k = l.length - i ∧ i ≤ l.length ∧ y.ds = [] ∧ y.e.length = 49 ∧ y.e.getD 0 .junk = P' (.lst l.length (l.flatMap lbP)) ∧ y.e.getD 3 .junk = P' (pI i) ∧ lckA l = lck (prevL l i) (l.drop i)) ?_ (k := l.length) ?_)
    · rintro k ⟨e, ds, s1⟩ ⟨i, rfl, hi, rfl, hlen, h0, h3, hch⟩
      simp only at hlen h0 h3
      refine Wc.seq (Wc.seq ?_)
      refine Wc.reg fun K hK => ?_; simp only [go_sem, ti3, ti9, ti5, ti4, ti32, ti22, ti117, hlen, h0, h3]; refine hK _ _ ?_; clear hK K
      refine Wc.cond (t := decide ((i : Int) < l.length)) (by simp only [go_sem, ti3, ti9, ti5, ti4, ti32, ti22, ti117, hlen]) (fun hc => ?_) (fun hc => ?_)
      · have hil : i < l.length := by have : (i : Int) < l.length := by simpa using hc
                                      omega
        obtain ⟨x, hx⟩ : ∃ x, l[i]? = some x := ⟨l[i], List.getElem?_eq_getElem hil⟩
        have hxs := hs x (List.mem_of_getElem? hx)
        have hix := ixA ti22 rfl ti117 (j := i) (m := l.length) (cs := l.flatMap lbP) hil hfl (by decide)
        have hca := rpA (off := i * 2) (drop_flat (f := lbP) (k := 2) (fun _ => rfl) hx) (by rw [hfl]; omega)
        have hcc := rpA (off := i * 2 + 1) (cs := l.flatMap lbP) (pre := [.str x.2]) (rest := (l.drop (i + 1)).flatMap lbP) (by rw [← List.drop_drop, drop_flat (f := lbP) (k := 2) (fun _ => rfl) hx]; rfl) (by rw [hfl]; omega)
        rw [lck_step hx] at hch
        refine Wc.skip (Wc.seq (Wc.block (Wc.seq (Wc.seq ?_))))
        refine Wc.reg fun K hK => ?_; simp only [go_sem, ti3, ti9, ti5, ti4, ti32, ti22, ti117, hlen, h0, h3, hix, hca]
        refine wpCall.pf (pf149 x.1 (by omega)) (by kernel_rfl) (by kernel_rfl) rfl rfl ?_
        simp only [go_sem, ti3, ti9, ti5, ti4, ti32, ti22, ti117, hlen, h0, h3]; refine hK _ _ ?_; clear hK K
        refine Wc.cond (t := !(nameOK x.1)) (by simp only [go_sem, ti3, ti9, ti5, ti4, ti32, ti22, ti117, hlen]) (fun hc => ?_) (fun hc => ?_)
        · have hn : nameOK x.1 = false := by simpa using hc
          rw [if_pos hn] at hch
          refine Wc.seq ?_
          refine Wc.reg fun K hK => ?_; simp only [go_sem, ti3, ti9, ti5, ti4, ti32, ti22, ti117, hlen]; refine hK _ _ ?_; clear hK K
          rw [hch]
          exact Wc.ret (Pf.ret [.tmp 2] [.c (.p (pI 5))] rfl rfl (by simp only [resultsD, go_sem, ti3, ti9, ti5, ti4, ti32, ti22, ti117, hlen]) rfl)
        have hn : ¬ nameOK x.1 = false := by simpa using hc
        rw [if_neg hn] at hch
        refine Wc.skip (Wc.seq (Wc.seq ?_))
        refine Wc.reg fun K hK => ?_; simp only [go_sem, ti3, ti9, ti5, ti4, ti32, ti22, ti117, hlen, h0, h3, hix, hcc]; refine hK _ _ ?_; clear hK K
        refine Wc.cond (t := (x.2 == [])) (by simp only [go_sem, ti3, ti9, ti5, ti4, ti32, ti22, ti117, hlen]) (fun hc => ?_) (fun hc => ?_)
        · have hv : x.2 = [] := by simpa using hc
          rw [if_pos hv] at hch
          refine Wc.seq ?_
          refine Wc.reg fun K hK => ?_; simp only [go_sem, ti3, ti9, ti5, ti4, ti32, ti22, ti117, hlen]; refine hK _ _ ?_; clear hK K
          rw [hch]
          exact Wc.ret (Pf.ret [.tmp 2] [.c (.p (pI 1))] rfl rfl (by simp only [resultsD, go_sem, ti3, ti9, ti5, ti4, ti32, ti22, ti117, hlen]) rfl)
        have hv : ¬ x.2 = [] := by simpa using hc
        rw [if_neg hv] at hch
        refine Wc.skip (Wc.seq (Wc.seq ?_))
        refine Wc.reg fun K hK => ?_; simp only [go_sem, ti3, ti9, ti5, ti4, ti32, ti22, ti117, hlen, h0, h3, hix, hcc]; refine hK _ _ ?_; clear hK K
        refine Wc.cond (t := decide ((200 : Int) < x.2.length)) (by simp only [go_sem, ti3, ti9, ti5, ti4, ti32, ti22, ti117, hlen]) (fun hc => ?_) (fun hc => ?_)
        · have hv2 : 200 < x.2.length := by have : (200 : Int) < x.2.length := by simpa using hc
                                            omega
          rw [if_pos hv2] at hch
          refine Wc.seq ?_
          refine Wc.reg fun K hK => ?_; simp only [go_sem, ti3, ti9, ti5, ti4, ti32, ti22, ti117, hlen]; refine hK _ _ ?_; clear hK K
          rw [hch]
          exact Wc.ret (Pf.ret [.tmp 2] [.c (.p (pI 4))] rfl rfl (by simp only [resultsD, go_sem, ti3, ti9, ti5, ti4, ti32, ti22, ti117, hlen]) rfl)
        have hv2 : ¬ 200 < x.2.length := by have : ¬ (200 : Int) < x.2.length := by simpa using hc
                                            omega
        rw [if_neg hv2] at hch
        refine Wc.skip (Wc.seq ?_)
        by_cases hi0 : 0 < i
        · obtain ⟨y, hy⟩ : ∃ y, l[i - 1]? = some y := ⟨l[i - 1], List.getElem?_eq_getElem (by omega)⟩
          have hiy := ixA ti22 rfl ti117 (j := i - 1) (m := l.length) (cs := l.flatMap lbP) (by omega) hfl (by decide)
          have hcb := rpA (off := (i - 1) * 2) (drop_flat (f := lbP) (k := 2) (fun _ => rfl) hy) (by rw [hfl]; omega)
          have e1 : IntKind.i64.wrap ((i : Int) - 1) = ((i - 1 : Nat) : Int) := by rw [wi64]; omega
          have hd : (0 < (i : Int)) = True := by simp; omega
          have hpr : prevL l i = some y.1 := by unfold prevL; rw [if_neg (by omega), hy]; rfl
          rw [hpr] at hch
          simp only at hch
          refine Wc.regD fun K hK => ?_; simp only [go_sem, ti3, ti9, ti5, ti4, ti32, ti22, ti117, hlen, h0, h3, hix, hca, hiy, hcb, e1, hd]; refine hK _ _ ?_; clear hK K
          refine Wc.cond (t := leB x.1 y.1) (by simp only [go_sem, ti3, ti9, ti5, ti4, ti32, ti22, ti117, hlen, hd]; rfl) (fun hc => ?_) (fun hc => ?_)
          · rw [if_pos hc] at hch
            refine Wc.seq ?_
            refine Wc.reg fun K hK => ?_; simp only [go_sem, ti3, ti9, ti5, ti4, ti32, ti22, ti117, hlen]; refine hK _ _ ?_; clear hK K
            rw [hch]
            exact Wc.ret (Pf.ret [.tmp 2] [.c (.p (pI 9))] rfl rfl (by simp only [resultsD, go_sem, ti3, ti9, ti5, ti4, ti32, ti22, ti117, hlen]) rfl)
          · rw [if_neg (by rw [hc]; decide)] at hch
            refine Wc.skip ?_
            refine Wc.reg fun K hK => ?_; simp only [go_sem, ti3, ti9, ti5, ti4, ti32, ti22, ti117, hlen, h0, h3, i64n i (by omega)]; refine hK _ _ ?_; clear hK K
            exact ⟨l.length - (i + 1), by omega, i + 1, rfl, by omega, rfl, by simp only [go_sem, ti3, ti9, ti5, ti4, ti32, ti22, ti117, hlen], by simp only [go_sem, ti3, ti9, ti5, ti4, ti32, ti22, ti117, hlen, h0], by simp only [go_sem, ti3, ti9, ti5, ti4, ti32, ti22, ti117, hlen], hch⟩
        · have hd : (0 < (i : Int)) = False := by simp; omega
          have hpr : prevL l i = none := by unfold prevL; rw [if_pos (by omega)]
          rw [hpr] at hch
          simp only at hch
          refine Wc.regD fun K hK => ?_; simp only [go_sem, ti3, ti9, ti5, ti4, ti32, ti22, ti117, hlen, h0, h3, hd]; refine hK _ _ ?_; clear hK K
          refine Wc.cond (t := false) (by simp only [go_sem, ti3, ti9, ti5, ti4, ti32, ti22, ti117, hlen, hd]) (fun hc => by cases hc) (fun hc => ?_)
          refine Wc.skip ?_
          refine Wc.reg fun K hK => ?_; simp only [go_sem, ti3, ti9, ti5, ti4, ti32, ti22, ti117, hlen, h0, h3, i64n i (by omega)]; refine hK _ _ ?_; clear hK K
          exact ⟨l.length - (i + 1), by omega, i + 1, rfl, by omega, rfl, by simp only [go_sem, ti3, ti9, ti5, ti4, ti32, ti22, ti117, hlen], by simp only [go_sem, ti3, ti9, ti5, ti4, ti32, ti22, ti117, hlen, h0], by simp only [go_sem, ti3, ti9, ti5, ti4, ti32, ti22, ti117, hlen], hch⟩
      · have hil : i = l.length := by have : ¬ (i : Int) < l.length := by simpa using hc
                                      omega
        rw [hil, List.drop_length, lck_end] at hch
        exact Wc.exit ⟨hch, rfl, by simp only [go_sem, ti3, ti9, ti5, ti4, ti32, ti22, ti117, hlen]⟩
    · exact ⟨0, rfl, by omega, rfl, rfl, rfl, rfl, e0⟩
  · rintro ⟨e, ds, s1⟩ ⟨hch, rfl, hlen⟩
    simp only at hlen
    rw [hch]
    refine Wc.seq ?_
    refine Wc.reg fun K hK => ?_; simp only [go_sem, ti3, ti9, ti5, ti4, ti32, ti22, ti117, hlen]; refine hK _ _ ?_; clear hK K
    exact Wc.ret (Pf.ret [.tmp 2] [.c (.p (pI 0))] rfl rfl (by simp only [resultsD, go_sem, ti3, ti9, ti5, ti4, ti32, ti22, ti117, hlen]) rfl)
end Go.Proofs.YtedcnhbblgmdnaaGreat.Ab
namespace Go.Proofs.YtedcnhbblgmdnaaGreat.Ab
set_option maxHeartbeats 4000000
set_option maxRecDepth 10000
set_option linter.unusedSimpArgs false
set_option linter.unusedVariables false
/-- A valid sample. -/
def smpOK (x : I2) : Bool := isT x.1 && isVl x.2
/-- 85: a valid sample -/
theorem pf209 (x : I2) : Pf E0 209 [.agg ((p2 x).map .p)] (P' (.bool (smpOK x))) := by
  refine Pf.body (fn := Tryz.f209) (by kernel_rfl) rfl ?_; simp only [List.map_cons, List.map_nil, List.cons_append, List.nil_append, List.length_cons, List.length_nil, Tryz.ntmps209, List.replicate, Nat.reduceSub, Nat.reduceAdd]
  refine Wc.seq ?_
  refine Wc.reg fun K hK => ?_; simp only [go_sem, ti3, ti9, ti5, ti4, ti32, ti23, ti39]; refine hK _ _ ?_; clear hK K
  refine Wc.seq ?_
  by_cases h1 : 1 ≤ x.1
  · by_cases h2 : x.1 ≤ 1099511627776
    · by_cases h3 : -1099511627776 ≤ x.2
      · refine Wc.reg fun K hK => ?_; simp only [go_sem, ti3, ti9, ti5, ti4, ti32, ti23, ti39, h1, h2, h3]; refine hK _ _ ?_; clear hK K
        exact Wc.ret (Pf.ret [.tmp 2] [.c (.p (.bool (smpOK x)))] rfl rfl (by simp only [resultsD, go_sem, ti3, ti9, ti5, ti4, ti32, ti23, ti39, smpOK, isT, isVl, h1, h2, h3]) rfl)
      · refine Wc.reg fun K hK => ?_; simp only [go_sem, ti3, ti9, ti5, ti4, ti32, ti23, ti39, h1, h2, h3]; refine hK _ _ ?_; clear hK K
        exact Wc.ret (Pf.ret [.tmp 2] [.c (.p (.bool (smpOK x)))] rfl rfl (by simp only [resultsD, go_sem, ti3, ti9, ti5, ti4, ti32, ti23, ti39, smpOK, isT, isVl, h1, h2, h3]) rfl)
    · refine Wc.reg fun K hK => ?_; simp only [go_sem, ti3, ti9, ti5, ti4, ti32, ti23, ti39, h1, h2]; refine hK _ _ ?_; clear hK K
      exact Wc.ret (Pf.ret [.tmp 2] [.c (.p (.bool (smpOK x)))] rfl rfl (by simp only [resultsD, go_sem, ti3, ti9, ti5, ti4, ti32, ti23, ti39, smpOK, isT, isVl, h1, h2]) rfl)
  · refine Wc.reg fun K hK => ?_; simp only [go_sem, ti3, ti9, ti5, ti4, ti32, ti23, ti39, h1]; refine hK _ _ ?_; clear hK K
    exact Wc.ret (Pf.ret [.tmp 2] [.c (.p (.bool (smpOK x)))] rfl rfl (by simp only [resultsD, go_sem, ti3, ti9, ti5, ti4, ti32, ti23, ti39, smpOK, isT, isVl, h1]) rfl)
/-- 111: a valid sample -/
theorem pf150 (x : I2) : Pf E0 150 [.agg ((p2 x).map .p)] (P' (.bool (smpOK x))) := by
  refine Pf.body (fn := Tryz.f150) (by kernel_rfl) rfl ?_; simp only [List.map_cons, List.map_nil, List.cons_append, List.nil_append, List.length_cons, List.length_nil, Tryz.ntmps150, List.replicate, Nat.reduceSub, Nat.reduceAdd]
  refine Wc.seq ?_
  refine Wc.reg fun K hK => ?_; simp only [go_sem, ti3, ti9, ti5, ti4, ti32, ti23, ti39]; refine hK _ _ ?_; clear hK K
  refine Wc.seq ?_
  by_cases h1 : 1 ≤ x.1
  · by_cases h2 : x.1 ≤ 1099511627776
    · by_cases h3 : -1099511627776 ≤ x.2
      · refine Wc.reg fun K hK => ?_; simp only [go_sem, ti3, ti9, ti5, ti4, ti32, ti23, ti39, h1, h2, h3]; refine hK _ _ ?_; clear hK K
        exact Wc.ret (Pf.ret [.tmp 2] [.c (.p (.bool (smpOK x)))] rfl rfl (by simp only [resultsD, go_sem, ti3, ti9, ti5, ti4, ti32, ti23, ti39, smpOK, isT, isVl, h1, h2, h3]) rfl)
      · refine Wc.reg fun K hK => ?_; simp only [go_sem, ti3, ti9, ti5, ti4, ti32, ti23, ti39, h1, h2, h3]; refine hK _ _ ?_; clear hK K
        exact Wc.ret (Pf.ret [.tmp 2] [.c (.p (.bool (smpOK x)))] rfl rfl (by simp only [resultsD, go_sem, ti3, ti9, ti5, ti4, ti32, ti23, ti39, smpOK, isT, isVl, h1, h2, h3]) rfl)
    · refine Wc.reg fun K hK => ?_; simp only [go_sem, ti3, ti9, ti5, ti4, ti32, ti23, ti39, h1, h2]; refine hK _ _ ?_; clear hK K
      exact Wc.ret (Pf.ret [.tmp 2] [.c (.p (.bool (smpOK x)))] rfl rfl (by simp only [resultsD, go_sem, ti3, ti9, ti5, ti4, ti32, ti23, ti39, smpOK, isT, isVl, h1, h2]) rfl)
  · refine Wc.reg fun K hK => ?_; simp only [go_sem, ti3, ti9, ti5, ti4, ti32, ti23, ti39, h1]; refine hK _ _ ?_; clear hK K
    exact Wc.ret (Pf.ret [.tmp 2] [.c (.p (.bool (smpOK x)))] rfl rfl (by simp only [resultsD, go_sem, ti3, ti9, ti5, ti4, ti32, ti23, ti39, smpOK, isT, isVl, h1]) rfl)
/-- Why a list is none of a kind's samples, behind a time. -/
def sck (k : Int) : Option Int → List I2 → Int
  | _, [] => 0
  | p, x :: r => if smpOK x = false ∨ (k = 2 ∧ x.2 < 0) then 2 else match p with
    | some y => if x.1 ≤ y then 9 else sck k (some x.1) r
    | none => sck k (some x.1) r
def sckA (k : Int) (l : List I2) : Int := if k ≠ 1 ∧ k ≠ 2 then 8 else if 2000 < l.length then 4 else sck k none l
def prevT (l : List I2) (i : Nat) : Option Int := if i = 0 then none else (l[i - 1]?).map (·.1)
theorem sck_step {k : Int} {l : List I2} {i : Nat} {x : I2} (h : l[i]? = some x) : sck k (prevT l i) (l.drop i) = if smpOK x = false ∨ (k = 2 ∧ x.2 < 0) then 2 else match prevT l i with
    | some y => if x.1 ≤ y then 9 else sck k (prevT l (i + 1)) (l.drop (i + 1))
    | none => sck k (prevT l (i + 1)) (l.drop (i + 1)) := by
  have hi := (List.getElem?_eq_some_iff.1 h).1
  have hx := (List.getElem?_eq_some_iff.1 h).2
  have hp : prevT l (i + 1) = some x.1 := by simp [prevT, h]
  rw [List.drop_eq_getElem_cons hi, hx, hp]
  cases prevT l i <;> rfl
theorem sck_end (k : Int) (p : Option Int) : sck k p [] = 0 := by cases p <;> rfl
def sB (k : Int) (x : I2) : Bool := !(smpOK x) || ((k == 2) && decide (x.2 < 0))
theorem sB_iff {k : Int} {x : I2} : sB k x = true ↔ (smpOK x = false ∨ (k = 2 ∧ x.2 < 0)) := by simp [sB]
/-- 47: samples checked -/
theorem pf135 (k : Int) (l : List I2) (hl : l.length < 2^40) : Pf E0 135 [.c (.p (pI k)), .c (.p (.lst l.length (l.flatMap p2)))] (P' (pI (sckA k l))) := by
  have hfl : (l.flatMap p2).length = l.length * 2 := flat_len (k := 2) (fun _ => rfl) l
  refine Pf.body (fn := Tryz.f135) (by kernel_rfl) rfl ?_; simp only [List.map_cons, List.map_nil, List.cons_append, List.nil_append, List.length_cons, List.length_nil, Tryz.ntmps135, List.replicate, Nat.reduceSub, Nat.reduceAdd]
  refine Wc.seq ?_
  refine Wc.reg fun K hK => ?_; simp only [go_sem, ti3, ti9, ti5, ti4, ti32, ti23, ti39]; refine hK _ _ ?_; clear hK K
  refine Wc.seqR (fun y => (k = 1 ∨ k = 2) ∧ y.ds = [] ∧ y.e.length = 51 ∧ y.e.getD 0 .junk = P' (pI k) ∧ y.e.getD 1 .junk = P' (.lst l.length (l.flatMap p2))) ?_ ?_
  · refine Wc.seq ?_
    by_cases h1 : k = 1
    · have b1 : (k != 1) = false := by simpa using h1
      refine Wc.reg fun K hK => ?_; simp only [go_sem, ti3, ti9, ti5, ti4, ti32, ti23, ti39, b1]; refine hK _ _ ?_; clear hK K
      refine Wc.cond (t := false) (by simp only [go_sem, ti3, ti9, ti5, ti4, ti32, ti23, ti39, b1]) (fun hc => by cases hc) (fun _ => Wc.skip ⟨.inl h1, rfl, rfl, rfl, rfl⟩)
    · have b1 : (k != 1) = true := by simpa using h1
      refine Wc.reg fun K hK => ?_; simp only [go_sem, ti3, ti9, ti5, ti4, ti32, ti23, ti39, b1]; refine hK _ _ ?_; clear hK K
      refine Wc.cond (t := (k != 2)) (by simp only [go_sem, ti3, ti9, ti5, ti4, ti32, ti23, ti39, b1]) (fun hc => ?_) (fun hc => ?_)
      · have h2 : k ≠ 2 := by simpa using hc
        refine Wc.seq ?_
        refine Wc.reg fun K hK => ?_; simp only [go_sem, ti3, ti9, ti5, ti4, ti32, ti23, ti39]; refine hK _ _ ?_; clear hK K
        have e : sckA k l = 8 := by unfold sckA; rw [if_pos ⟨h1, h2⟩]
        rw [e]
        exact Wc.ret (Pf.ret [.tmp 4] [.c (.p (pI 8))] rfl rfl (by simp only [resultsD, go_sem, ti3, ti9, ti5, ti4, ti32, ti23, ti39]) rfl)
      · have h2 : k = 2 := by simpa using hc
        exact Wc.skip ⟨.inr h2, rfl, rfl, rfl, rfl⟩
  rintro ⟨e, ds, s1⟩ ⟨hk, rfl, hlen, h0, h1⟩
  simp only at hlen h0 h1
  have eK : sckA k l = if 2000 < l.length then 4 else sck k none l := by unfold sckA; rw [if_neg (by omega)]
  refine Wc.seq (Wc.seq ?_)
  refine Wc.reg fun K hK => ?_; simp only [go_sem, ti3, ti9, ti5, ti4, ti32, ti23, ti39, hlen, h0, h1]; refine hK _ _ ?_; clear hK K
  refine Wc.cond (t := decide ((2000 : Int) < l.length)) (by simp only [go_sem, ti3, ti9, ti5, ti4, ti32, ti23, ti39, hlen]) (fun hc => ?_) (fun hc => ?_)
  · have hc' : 2000 < l.length := by have : (2000 : Int) < l.length := by simpa using hc
                                     omega
    refine Wc.seq ?_
    refine Wc.reg fun K hK => ?_; simp only [go_sem, ti3, ti9, ti5, ti4, ti32, ti23, ti39, hlen]; refine hK _ _ ?_; clear hK K
    rw [eK, if_pos hc']
    exact Wc.ret (Pf.ret [.tmp 4] [.c (.p (pI 4))] rfl rfl (by simp only [resultsD, go_sem, ti3, ti9, ti5, ti4, ti32, ti23, ti39, hlen]) rfl)
  have hc' : ¬ 2000 < l.length := by have : ¬ (2000 : Int) < l.length := by simpa using hc
                                     omega
  rw [if_neg hc'] at eK
  have e0 : sckA k l = sck k (prevT l 0) (l.drop 0) := eK
  refine Wc.skip (Wc.seqR (fun y => sckA k l = 0 ∧ y.ds = [] ∧ y.e.length = 51) ?_ ?_)
  · refine Wc.seq ?_
    refine Wc.reg fun K hK => ?_; simp only [go_sem, ti3, ti9, ti5, ti4, ti32, ti23, ti39, hlen, h0, h1, Int.natCast_zero]; refine hK _ _ ?_; clear hK K
    refine Wc.block (Wc.loop (fun q y => ∃ i : Nat, q = l.length - i ∧ i ≤ l.length ∧ y.ds = [] ∧ y.e.length = 51 ∧ y.e.getD 0 .junk = P' (pI k) ∧ y.e.getD 1 .junk = P' (.lst l.length (l.flatMap p2)) ∧ y.e.getD 16 .junk = P' (.lst l.length (l.flatMap p2)) ∧ y.e.getD 17 .junk = P' (pI l.length) ∧ y.e.getD 18 .junk = P' (pI i) ∧ sckA k l = sck k (prevT l i) (l.drop i)) ?_ (k := l.length) ?_)
    · clear hlen h0 h1 e s1
      rintro q ⟨e, ds, s1⟩ ⟨i, rfl, hi, rfl, hlen, h0, h1, h16, h17, h18, hch⟩
      simp only at hlen h0 h1 h16 h17 h18
      refine Wc.seq ?_
      refine Wc.reg fun K hK => ?_; simp only [go_sem, ti3, ti9, ti5, ti4, ti32, ti23, ti39, hlen, h0, h1, h16, h17, h18]; refine hK _ _ ?_; clear hK K
      refine Wc.seq (Wc.cond (t := decide ((i : Int) < l.length)) (by simp only [go_sem, ti3, ti9, ti5, ti4, ti32, ti23, ti39, hlen]) (fun hc => ?_) (fun hc => ?_))
      · have hil : i < l.length := by have : (i : Int) < l.length := by simpa using hc
                                      omega
        obtain ⟨x, hx⟩ : ∃ x, l[i]? = some x := ⟨l[i], List.getElem?_eq_getElem hil⟩
        have hix := ixA ti23 rfl ti39 (j := i) (m := l.length) (cs := l.flatMap p2) hil hfl (by decide)
        have hca := rpA (off := i * 2) (drop_flat (f := p2) (k := 2) (fun _ => rfl) hx) (by rw [hfl]; omega)
        rw [sck_step hx] at hch
        have bad : (smpOK x = false ∨ (k = 2 ∧ x.2 < 0)) → sckA k l = 2 := fun h => by rw [hch, if_pos h]
        refine Wc.skip (Wc.seq (Wc.block (Wc.seq ?_)))
        refine Wc.reg fun K hK => ?_; simp only [go_sem, ti3, ti9, ti5, ti4, ti32, ti23, ti39, hlen, h0, h1, h16, h17, h18, hix, hca]; refine hK _ _ ?_; clear hK K
        refine Wc.block (Wc.seqA (fun y => y.ds = [] ∧ y.e.length = 51 ∧ y.e.getD 0 .junk = P' (pI k) ∧ y.e.getD 1 .junk = P' (.lst l.length (l.flatMap p2)) ∧ y.e.getD 16 .junk = P' (.lst l.length (l.flatMap p2)) ∧ y.e.getD 17 .junk = P' (pI l.length) ∧ y.e.getD 18 .junk = P' (pI i) ∧ y.e.getD 5 .junk = P' (pI i) ∧ y.e.getD 6 .junk = .v (.c (.ref (s1.nx + 4) 0)) ∧ y.s.get (s1.nx + 4) = some (.cells ((p2 x).map .p) false) ∧ y.e.getD 23 .junk = P' (.bool (sB k x))) ?_ ?_)
        · refine Wc.reg fun K hK => ?_; simp only [go_sem, ti3, ti9, ti5, ti4, ti32, ti23, ti39, hlen, h0, h1, h16, h17, h18]
          refine wpCall.pf (pf209 x) (by kernel_rfl) (by kernel_rfl) rfl rfl ?_
          cases hsm : smpOK x with
          | false =>
            have hk2 : True := trivial
            simp only [go_sem, ti3, ti9, ti5, ti4, ti32, ti23, ti39, hlen, h0, h1, h16, h17, h18]; refine hK _ _ ?_; clear hK K
            exact ⟨rfl, rfl, by simp only [go_sem, ti3, ti9, ti5, ti4, ti32, ti23, ti39, hlen], by simp only [go_sem, ti3, ti9, ti5, ti4, ti32, ti23, ti39, hlen, h0], by simp only [go_sem, ti3, ti9, ti5, ti4, ti32, ti23, ti39, hlen, h1], by simp only [go_sem, ti3, ti9, ti5, ti4, ti32, ti23, ti39, hlen, h16], by simp only [go_sem, ti3, ti9, ti5, ti4, ti32, ti23, ti39, hlen, h17], by simp only [go_sem, ti3, ti9, ti5, ti4, ti32, ti23, ti39, hlen, h18], by simp only [go_sem, ti3, ti9, ti5, ti4, ti32, ti23, ti39, hlen], by simp only [go_sem, ti3, ti9, ti5, ti4, ti32, ti23, ti39, hlen], by simp only [go_sem, ti3, ti9, ti5, ti4, ti32, ti23, ti39], by simp only [go_sem, ti3, ti9, ti5, ti4, ti32, ti23, ti39, hlen, sB, hsm, hk2, Bool.true_or, Bool.false_or, Bool.or_self]⟩
          | true =>
            by_cases hk3 : k = 2
            · have hk2 : (k == 2) = true := by simpa using hk3
              simp only [go_sem, ti3, ti9, ti5, ti4, ti32, ti23, ti39, hlen, h0, h1, h16, h17, h18, hk2]; refine hK _ _ ?_; clear hK K
              exact ⟨rfl, rfl, by simp only [go_sem, ti3, ti9, ti5, ti4, ti32, ti23, ti39, hlen], by simp only [go_sem, ti3, ti9, ti5, ti4, ti32, ti23, ti39, hlen, h0], by simp only [go_sem, ti3, ti9, ti5, ti4, ti32, ti23, ti39, hlen, h1], by simp only [go_sem, ti3, ti9, ti5, ti4, ti32, ti23, ti39, hlen, h16], by simp only [go_sem, ti3, ti9, ti5, ti4, ti32, ti23, ti39, hlen, h17], by simp only [go_sem, ti3, ti9, ti5, ti4, ti32, ti23, ti39, hlen, h18], by simp only [go_sem, ti3, ti9, ti5, ti4, ti32, ti23, ti39, hlen], by simp only [go_sem, ti3, ti9, ti5, ti4, ti32, ti23, ti39, hlen], by simp only [go_sem, ti3, ti9, ti5, ti4, ti32, ti23, ti39], by simp only [go_sem, ti3, ti9, ti5, ti4, ti32, ti23, ti39, hlen, sB, hsm, hk2, Bool.true_or, Bool.false_or, Bool.or_self]⟩
            · have hk2 : (k == 2) = false := by simpa using hk3
              simp only [go_sem, ti3, ti9, ti5, ti4, ti32, ti23, ti39, hlen, h0, h1, h16, h17, h18, hk2]; refine hK _ _ ?_; clear hK K
              exact ⟨rfl, rfl, by simp only [go_sem, ti3, ti9, ti5, ti4, ti32, ti23, ti39, hlen], by simp only [go_sem, ti3, ti9, ti5, ti4, ti32, ti23, ti39, hlen, h0], by simp only [go_sem, ti3, ti9, ti5, ti4, ti32, ti23, ti39, hlen, h1], by simp only [go_sem, ti3, ti9, ti5, ti4, ti32, ti23, ti39, hlen, h16], by simp only [go_sem, ti3, ti9, ti5, ti4, ti32, ti23, ti39, hlen, h17], by simp only [go_sem, ti3, ti9, ti5, ti4, ti32, ti23, ti39, hlen, h18], by simp only [go_sem, ti3, ti9, ti5, ti4, ti32, ti23, ti39, hlen], by simp only [go_sem, ti3, ti9, ti5, ti4, ti32, ti23, ti39, hlen], by simp only [go_sem, ti3, ti9, ti5, ti4, ti32, ti23, ti39], by simp only [go_sem, ti3, ti9, ti5, ti4, ti32, ti23, ti39, hlen, sB, hsm, hk2, Bool.true_or, Bool.false_or, Bool.or_self]⟩
        · rintro ⟨e, ds, s2⟩ ⟨rfl, hlen, h0, h1, h16, h17, h18, h5, h6, hg, h23⟩
          simp only at hlen h0 h1 h16 h17 h18 h5 h6 hg h23
          refine Wc.cond (t := sB k x) (by simp only [go_sem, ti3, ti9, ti5, ti4, ti32, ti23, ti39, h23]) (fun hc => ?_) (fun hc => ?_)
          · refine Wc.seq ?_
            refine Wc.reg fun K hK => ?_; simp only [go_sem, ti3, ti9, ti5, ti4, ti32, ti23, ti39, hlen]; refine hK _ _ ?_; clear hK K
            rw [bad (sB_iff.1 hc)]
            exact Wc.ret (Pf.ret [.tmp 4] [.c (.p (pI 2))] rfl rfl (by simp only [resultsD, go_sem, ti3, ti9, ti5, ti4, ti32, ti23, ti39, hlen]) rfl)
          rw [if_neg (fun h => by rw [sB_iff.2 h] at hc; cases hc)] at hch
          refine Wc.seq ?_
          by_cases hi0 : 0 < i
          · obtain ⟨y, hy⟩ : ∃ y, l[i - 1]? = some y := ⟨l[i - 1], List.getElem?_eq_getElem (by omega)⟩
            have hiy := ixA ti23 rfl ti39 (j := i - 1) (m := l.length) (cs := l.flatMap p2) (by omega) hfl (by decide)
            have hcb := rpA (off := (i - 1) * 2) (drop_flat (f := p2) (k := 2) (fun _ => rfl) hy) (by rw [hfl]; omega)
            have e1 : IntKind.i64.wrap ((i : Int) - 1) = ((i - 1 : Nat) : Int) := by rw [wi64]; omega
            have hd : (0 < (i : Int)) = True := by simp; omega
            have hpr : prevT l i = some y.1 := by unfold prevT; rw [if_neg (by omega), hy]; rfl
            rw [hpr] at hch
            simp only [List.map_cons, List.map_nil] at hch hg
            refine Wc.regD fun K hK => ?_; simp only [go_sem, ti3, ti9, ti5, ti4, ti32, ti23, ti39, hlen, h0, h1, h16, h17, h18, h5, h6, hg, hiy, hcb, e1, hd]; refine hK _ _ ?_; clear hK K
            refine Wc.cond (t := decide (x.1 ≤ y.1)) (by simp only [go_sem, ti3, ti9, ti5, ti4, ti32, ti23, ti39, hlen, hd]) (fun hc => ?_) (fun hc => ?_)
            · have hxy : x.1 ≤ y.1 := by simpa using hc
              rw [if_pos hxy] at hch
              refine Wc.seq ?_
              refine Wc.reg fun K hK => ?_; simp only [go_sem, ti3, ti9, ti5, ti4, ti32, ti23, ti39, hlen]; refine hK _ _ ?_; clear hK K
              rw [hch]
              exact Wc.ret (Pf.ret [.tmp 4] [.c (.p (pI 9))] rfl rfl (by simp only [resultsD, go_sem, ti3, ti9, ti5, ti4, ti32, ti23, ti39, hlen]) rfl)
            · have hxy : ¬ x.1 ≤ y.1 := by simpa using hc
              rw [if_neg hxy] at hch
              refine Wc.skip ?_
              refine Wc.reg fun K hK => ?_; simp only [go_sem, ti3, ti9, ti5, ti4, ti32, ti23, ti39, hlen, h0, h1, h16, h17, h18, i64n i (by omega)]; refine hK _ _ ?_; clear hK K
              exact ⟨l.length - (i + 1), by omega, i + 1, rfl, by omega, rfl, by simp only [go_sem, ti3, ti9, ti5, ti4, ti32, ti23, ti39, hlen], by simp only [go_sem, ti3, ti9, ti5, ti4, ti32, ti23, ti39, hlen, h0], by simp only [go_sem, ti3, ti9, ti5, ti4, ti32, ti23, ti39, hlen, h1], by simp only [go_sem, ti3, ti9, ti5, ti4, ti32, ti23, ti39, hlen, h16], by simp only [go_sem, ti3, ti9, ti5, ti4, ti32, ti23, ti39, hlen, h17], by simp only [go_sem, ti3, ti9, ti5, ti4, ti32, ti23, ti39, hlen], hch⟩
          · have hd : (0 < (i : Int)) = False := by simp; omega
            have hpr : prevT l i = none := by unfold prevT; rw [if_pos (by omega)]
            rw [hpr] at hch
            simp only at hch
            refine Wc.regD fun K hK => ?_; simp only [go_sem, ti3, ti9, ti5, ti4, ti32, ti23, ti39, hlen, h0, h1, h16, h17, h18, h5, hd]; refine hK _ _ ?_; clear hK K
            refine Wc.cond (t := false) (by simp only [go_sem, ti3, ti9, ti5, ti4, ti32, ti23, ti39, hlen, hd]) (fun hc => by cases hc) (fun hc => ?_)
            refine Wc.skip ?_
            refine Wc.reg fun K hK => ?_; simp only [go_sem, ti3, ti9, ti5, ti4, ti32, ti23, ti39, hlen, h0, h1, h16, h17, h18, i64n i (by omega)]; refine hK _ _ ?_; clear hK K
            exact ⟨l.length - (i + 1), by omega, i + 1, rfl, by omega, rfl, by simp only [go_sem, ti3, ti9, ti5, ti4, ti32, ti23, ti39, hlen], by simp only [go_sem, ti3, ti9, ti5, ti4, ti32, ti23, ti39, hlen, h0], by simp only [go_sem, ti3, ti9, ti5, ti4, ti32, ti23, ti39, hlen, h1], by simp only [go_sem, ti3, ti9, ti5, ti4, ti32, ti23, ti39, hlen, h16], by simp only [go_sem, ti3, ti9, ti5, ti4, ti32, ti23, ti39, hlen, h17], by simp only [go_sem, ti3, ti9, ti5, ti4, ti32, ti23, ti39, hlen], hch⟩
      · have hil : i = l.length := by have : ¬ (i : Int) < l.length := by simpa using hc
                                      omega
        rw [hil, List.drop_length, sck_end] at hch
        exact Wc.exit ⟨hch, rfl, by simp only [go_sem, ti3, ti9, ti5, ti4, ti32, ti23, ti39, hlen]⟩
    · exact ⟨0, rfl, by omega, rfl, by simp only [go_sem, ti3, ti9, ti5, ti4, ti32, ti23, ti39, hlen], by simp only [go_sem, ti3, ti9, ti5, ti4, ti32, ti23, ti39, hlen, h0], by simp only [go_sem, ti3, ti9, ti5, ti4, ti32, ti23, ti39, hlen, h1], by simp only [go_sem, ti3, ti9, ti5, ti4, ti32, ti23, ti39, hlen, h1], by simp only [go_sem, ti3, ti9, ti5, ti4, ti32, ti23, ti39, hlen, h1], by simp only [go_sem, ti3, ti9, ti5, ti4, ti32, ti23, ti39, hlen]; rfl, e0⟩
  · rintro ⟨e, ds, s1⟩ ⟨hch, rfl, hlen⟩
    simp only at hlen
    rw [hch]
    refine Wc.seq ?_
    refine Wc.reg fun K hK => ?_; simp only [go_sem, ti3, ti9, ti5, ti4, ti32, ti23, ti39, hlen]; refine hK _ _ ?_; clear hK K
    exact Wc.ret (Pf.ret [.tmp 4] [.c (.p (pI 0))] rfl rfl (by simp only [resultsD, go_sem, ti3, ti9, ti5, ti4, ti32, ti23, ti39, hlen]) rfl)
/-- 64: samples checked -/
theorem pf93 (k : Int) (l : List I2) (hl : l.length < 2^40) : Pf E0 93 [.c (.p (pI k)), .c (.p (.lst l.length (l.flatMap p2)))] (P' (pI (sckA k l))) := by
  have hfl : (l.flatMap p2).length = l.length * 2 := flat_len (k := 2) (fun _ => rfl) l
  refine Pf.body (fn := Tryz.f93) (by kernel_rfl) rfl ?_; simp only [List.map_cons, List.map_nil, List.cons_append, List.nil_append, List.length_cons, List.length_nil, Tryz.ntmps93, List.replicate, Nat.reduceSub, Nat.reduceAdd]
  refine Wc.seq ?_
  refine Wc.reg fun K hK => ?_; simp only [go_sem, ti3, ti9, ti5, ti4, ti32, ti23, ti39]; refine hK _ _ ?_; clear hK K
  refine Wc.seqR (fun y => (k = 1 ∨ k = 2) ∧ y.ds = [] ∧ y.e.length = 55 ∧ y.e.getD 0 .junk = P' (pI k) ∧ y.e.getD 1 .junk = P' (.lst l.length (l.flatMap p2))) ?_ ?_
  · refine Wc.seq ?_
    by_cases h1 : k = 1
    · have b1 : (k != 1) = false := by simpa using h1
      refine Wc.reg fun K hK => ?_; simp only [go_sem, ti3, ti9, ti5, ti4, ti32, ti23, ti39, b1]; refine hK _ _ ?_; clear hK K
      refine Wc.cond (t := false) (by simp only [go_sem, ti3, ti9, ti5, ti4, ti32, ti23, ti39, b1]) (fun hc => by cases hc) (fun _ => Wc.skip ⟨.inl h1, rfl, rfl, rfl, rfl⟩)
    · have b1 : (k != 1) = true := by simpa using h1
      refine Wc.reg fun K hK => ?_; simp only [go_sem, ti3, ti9, ti5, ti4, ti32, ti23, ti39, b1]; refine hK _ _ ?_; clear hK K
      refine Wc.cond (t := (k != 2)) (by simp only [go_sem, ti3, ti9, ti5, ti4, ti32, ti23, ti39, b1]) (fun hc => ?_) (fun hc => ?_)
      · have h2 : k ≠ 2 := by simpa using hc
        refine Wc.seq ?_
        refine Wc.reg fun K hK => ?_; simp only [go_sem, ti3, ti9, ti5, ti4, ti32, ti23, ti39]; refine hK _ _ ?_; clear hK K
        have e : sckA k l = 8 := by unfold sckA; rw [if_pos ⟨h1, h2⟩]
        rw [e]
        exact Wc.ret (Pf.ret [.tmp 4] [.c (.p (pI 8))] rfl rfl (by simp only [resultsD, go_sem, ti3, ti9, ti5, ti4, ti32, ti23, ti39]) rfl)
      · have h2 : k = 2 := by simpa using hc
        exact Wc.skip ⟨.inr h2, rfl, rfl, rfl, rfl⟩
  rintro ⟨e, ds, s1⟩ ⟨hk, rfl, hlen, h0, h1⟩
  simp only at hlen h0 h1
  have eK : sckA k l = if 2000 < l.length then 4 else sck k none l := by unfold sckA; rw [if_neg (by omega)]
  refine Wc.seq (Wc.seq ?_)
  refine Wc.reg fun K hK => ?_; simp only [go_sem, ti3, ti9, ti5, ti4, ti32, ti23, ti39, hlen, h0, h1]; refine hK _ _ ?_; clear hK K
  refine Wc.cond (t := decide ((2000 : Int) < l.length)) (by simp only [go_sem, ti3, ti9, ti5, ti4, ti32, ti23, ti39, hlen]) (fun hc => ?_) (fun hc => ?_)
  · have hc' : 2000 < l.length := by have : (2000 : Int) < l.length := by simpa using hc
                                     omega
    refine Wc.seq ?_
    refine Wc.reg fun K hK => ?_; simp only [go_sem, ti3, ti9, ti5, ti4, ti32, ti23, ti39, hlen]; refine hK _ _ ?_; clear hK K
    rw [eK, if_pos hc']
    exact Wc.ret (Pf.ret [.tmp 4] [.c (.p (pI 4))] rfl rfl (by simp only [resultsD, go_sem, ti3, ti9, ti5, ti4, ti32, ti23, ti39, hlen]) rfl)
  have hc' : ¬ 2000 < l.length := by have : ¬ (2000 : Int) < l.length := by simpa using hc
                                     omega
  rw [if_neg hc'] at eK
  have e0 : sckA k l = sck k (prevT l 0) (l.drop 0) := eK
  refine Wc.skip (Wc.seqR (fun y => sckA k l = 0 ∧ y.ds = [] ∧ y.e.length = 55) ?_ ?_)
  · refine Wc.seq ?_
    refine Wc.reg fun K hK => ?_; simp only [go_sem, ti3, ti9, ti5, ti4, ti32, ti23, ti39, hlen, h0, h1, Int.natCast_zero]; refine hK _ _ ?_; clear hK K
    refine Wc.block (Wc.loop (fun q y => ∃ i : Nat, q = l.length - i ∧ i ≤ l.length ∧ y.ds = [] ∧ y.e.length = 55 ∧ y.e.getD 0 .junk = P' (pI k) ∧ y.e.getD 1 .junk = P' (.lst l.length (l.flatMap p2)) ∧ y.e.getD 5 .junk = P' (pI i) ∧ sckA k l = sck k (prevT l i) (l.drop i)) ?_ (k := l.length) ?_)
    · clear hlen h0 h1 e s1
      rintro q ⟨e, ds, s1⟩ ⟨i, rfl, hi, rfl, hlen, h0, h1, h5, hch⟩
      simp only at hlen h0 h1 h5
      refine Wc.seq (Wc.seq ?_)
      refine Wc.reg fun K hK => ?_; simp only [go_sem, ti3, ti9, ti5, ti4, ti32, ti23, ti39, hlen, h0, h1, h5]; refine hK _ _ ?_; clear hK K
      refine (Wc.cond (t := decide ((i : Int) < l.length)) (by simp only [go_sem, ti3, ti9, ti5, ti4, ti32, ti23, ti39, hlen]) (fun hc => ?_) (fun hc => ?_))
      · have hil : i < l.length := by have : (i : Int) < l.length := by simpa using hc
                                      omega
        obtain ⟨x, hx⟩ : ∃ x, l[i]? = some x := ⟨l[i], List.getElem?_eq_getElem hil⟩
        have hix := ixA ti23 rfl ti39 (j := i) (m := l.length) (cs := l.flatMap p2) hil hfl (by decide)
        have hca := rpA (off := i * 2) (drop_flat (f := p2) (k := 2) (fun _ => rfl) hx) (by rw [hfl]; omega)
        have hce := rpA (off := i * 2 + 1) (cs := l.flatMap p2) (pre := [pI x.2]) (rest := (l.drop (i + 1)).flatMap p2) (by rw [← List.drop_drop, drop_flat (f := p2) (k := 2) (fun _ => rfl) hx]; rfl) (by rw [hfl]; omega)
        rw [sck_step hx] at hch
        have bad : (smpOK x = false ∨ (k = 2 ∧ x.2 < 0)) → sckA k l = 2 := fun h => by rw [hch, if_pos h]
        refine Wc.skip (Wc.seq (Wc.block (Wc.seq ?_)))
        refine (Wc.seqA (fun y => y.ds = [] ∧ y.e.length = 55 ∧ y.e.getD 0 .junk = P' (pI k) ∧ y.e.getD 1 .junk = P' (.lst l.length (l.flatMap p2)) ∧ y.e.getD 5 .junk = P' (pI i) ∧ y.e.getD 38 .junk = P' (.bool (sB k x))) ?_ ?_)
        · refine Wc.reg fun K hK => ?_; simp only [go_sem, ti3, ti9, ti5, ti4, ti32, ti23, ti39, hlen, h0, h1, h5, hix, hca]
          refine wpCall.pf (pf150 x) (by kernel_rfl) (by kernel_rfl) rfl rfl ?_
          cases hsm : smpOK x with
          | false =>
            have hk2 : True := trivial
            simp only [go_sem, ti3, ti9, ti5, ti4, ti32, ti23, ti39, hlen, h0, h1, h5]; refine hK _ _ ?_; clear hK K
            exact ⟨rfl, rfl, by simp only [go_sem, ti3, ti9, ti5, ti4, ti32, ti23, ti39, hlen], by simp only [go_sem, ti3, ti9, ti5, ti4, ti32, ti23, ti39, hlen, h0], by simp only [go_sem, ti3, ti9, ti5, ti4, ti32, ti23, ti39, hlen, h1], by simp only [go_sem, ti3, ti9, ti5, ti4, ti32, ti23, ti39, hlen, h5], by simp only [go_sem, ti3, ti9, ti5, ti4, ti32, ti23, ti39, hlen, sB, hsm, hk2, Bool.true_or, Bool.false_or, Bool.or_self]⟩
          | true =>
            by_cases hk3 : k = 2
            · have hk2 : (k == 2) = true := by simpa using hk3
              simp only [go_sem, ti3, ti9, ti5, ti4, ti32, ti23, ti39, hlen, h0, h1, h5, hk2, hix, hce]; refine hK _ _ ?_; clear hK K
              exact ⟨rfl, rfl, by simp only [go_sem, ti3, ti9, ti5, ti4, ti32, ti23, ti39, hlen], by simp only [go_sem, ti3, ti9, ti5, ti4, ti32, ti23, ti39, hlen, h0], by simp only [go_sem, ti3, ti9, ti5, ti4, ti32, ti23, ti39, hlen, h1], by simp only [go_sem, ti3, ti9, ti5, ti4, ti32, ti23, ti39, hlen, h5], by simp only [go_sem, ti3, ti9, ti5, ti4, ti32, ti23, ti39, hlen, sB, hsm, hk2, Bool.true_or, Bool.false_or, Bool.or_self]⟩
            · have hk2 : (k == 2) = false := by simpa using hk3
              simp only [go_sem, ti3, ti9, ti5, ti4, ti32, ti23, ti39, hlen, h0, h1, h5, hk2, hix, hce]; refine hK _ _ ?_; clear hK K
              exact ⟨rfl, rfl, by simp only [go_sem, ti3, ti9, ti5, ti4, ti32, ti23, ti39, hlen], by simp only [go_sem, ti3, ti9, ti5, ti4, ti32, ti23, ti39, hlen, h0], by simp only [go_sem, ti3, ti9, ti5, ti4, ti32, ti23, ti39, hlen, h1], by simp only [go_sem, ti3, ti9, ti5, ti4, ti32, ti23, ti39, hlen, h5], by simp only [go_sem, ti3, ti9, ti5, ti4, ti32, ti23, ti39, hlen, sB, hsm, hk2, Bool.true_or, Bool.false_or, Bool.or_self]⟩
        · rintro ⟨e, ds, s2⟩ ⟨rfl, hlen, h0, h1, h5, h23⟩
          simp only at hlen h0 h1 h5 h23
          refine Wc.cond (t := sB k x) (by simp only [go_sem, ti3, ti9, ti5, ti4, ti32, ti23, ti39, h23]) (fun hc => ?_) (fun hc => ?_)
          · refine Wc.seq ?_
            refine Wc.reg fun K hK => ?_; simp only [go_sem, ti3, ti9, ti5, ti4, ti32, ti23, ti39, hlen]; refine hK _ _ ?_; clear hK K
            rw [bad (sB_iff.1 hc)]
            exact Wc.ret (Pf.ret [.tmp 4] [.c (.p (pI 2))] rfl rfl (by simp only [resultsD, go_sem, ti3, ti9, ti5, ti4, ti32, ti23, ti39, hlen]) rfl)
          rw [if_neg (fun h => by rw [sB_iff.2 h] at hc; cases hc)] at hch
          refine Wc.skip (Wc.seq ?_)
          by_cases hi0 : 0 < i
          · obtain ⟨y, hy⟩ : ∃ y, l[i - 1]? = some y := ⟨l[i - 1], List.getElem?_eq_getElem (by omega)⟩
            have hiy := ixA ti23 rfl ti39 (j := i - 1) (m := l.length) (cs := l.flatMap p2) (by omega) hfl (by decide)
            have hcb := rpA (off := (i - 1) * 2) (drop_flat (f := p2) (k := 2) (fun _ => rfl) hy) (by rw [hfl]; omega)
            have e1 : IntKind.i64.wrap ((i : Int) - 1) = ((i - 1 : Nat) : Int) := by rw [wi64]; omega
            have hd : (0 < (i : Int)) = True := by simp; omega
            have hpr : prevT l i = some y.1 := by unfold prevT; rw [if_neg (by omega), hy]; rfl
            rw [hpr] at hch
            simp only at hch
            refine Wc.regD fun K hK => ?_; simp only [go_sem, ti3, ti9, ti5, ti4, ti32, ti23, ti39, hlen, h0, h1, h5, hix, hca, hiy, hcb, e1, hd]; refine hK _ _ ?_; clear hK K
            refine Wc.cond (t := decide (x.1 ≤ y.1)) (by simp only [go_sem, ti3, ti9, ti5, ti4, ti32, ti23, ti39, hlen, hd]) (fun hc => ?_) (fun hc => ?_)
            · have hxy : x.1 ≤ y.1 := by simpa using hc
              rw [if_pos hxy] at hch
              refine Wc.seq ?_
              refine Wc.reg fun K hK => ?_; simp only [go_sem, ti3, ti9, ti5, ti4, ti32, ti23, ti39, hlen]; refine hK _ _ ?_; clear hK K
              rw [hch]
              exact Wc.ret (Pf.ret [.tmp 4] [.c (.p (pI 9))] rfl rfl (by simp only [resultsD, go_sem, ti3, ti9, ti5, ti4, ti32, ti23, ti39, hlen]) rfl)
            · have hxy : ¬ x.1 ≤ y.1 := by simpa using hc
              rw [if_neg hxy] at hch
              refine Wc.skip ?_
              refine Wc.reg fun K hK => ?_; simp only [go_sem, ti3, ti9, ti5, ti4, ti32, ti23, ti39, hlen, h0, h1, h5, i64n i (by omega)]; refine hK _ _ ?_; clear hK K
              exact ⟨l.length - (i + 1), by omega, i + 1, rfl, by omega, rfl, by simp only [go_sem, ti3, ti9, ti5, ti4, ti32, ti23, ti39, hlen], by simp only [go_sem, ti3, ti9, ti5, ti4, ti32, ti23, ti39, hlen, h0], by simp only [go_sem, ti3, ti9, ti5, ti4, ti32, ti23, ti39, hlen, h1], by simp only [go_sem, ti3, ti9, ti5, ti4, ti32, ti23, ti39, hlen], hch⟩
          · have hd : (0 < (i : Int)) = False := by simp; omega
            have hpr : prevT l i = none := by unfold prevT; rw [if_pos (by omega)]
            rw [hpr] at hch
            simp only at hch
            refine Wc.regD fun K hK => ?_; simp only [go_sem, ti3, ti9, ti5, ti4, ti32, ti23, ti39, hlen, h0, h1, h5, hd]; refine hK _ _ ?_; clear hK K
            refine Wc.cond (t := false) (by simp only [go_sem, ti3, ti9, ti5, ti4, ti32, ti23, ti39, hlen, hd]) (fun hc => by cases hc) (fun hc => ?_)
            refine Wc.skip ?_
            refine Wc.reg fun K hK => ?_; simp only [go_sem, ti3, ti9, ti5, ti4, ti32, ti23, ti39, hlen, h0, h1, h5, i64n i (by omega)]; refine hK _ _ ?_; clear hK K
            exact ⟨l.length - (i + 1), by omega, i + 1, rfl, by omega, rfl, by simp only [go_sem, ti3, ti9, ti5, ti4, ti32, ti23, ti39, hlen], by simp only [go_sem, ti3, ti9, ti5, ti4, ti32, ti23, ti39, hlen, h0], by simp only [go_sem, ti3, ti9, ti5, ti4, ti32, ti23, ti39, hlen, h1], by simp only [go_sem, ti3, ti9, ti5, ti4, ti32, ti23, ti39, hlen], hch⟩
      · have hil : i = l.length := by have : ¬ (i : Int) < l.length := by simpa using hc
                                      omega
        rw [hil, List.drop_length, sck_end] at hch
        exact Wc.exit ⟨hch, rfl, by simp only [go_sem, ti3, ti9, ti5, ti4, ti32, ti23, ti39, hlen]⟩
    · exact ⟨0, rfl, by omega, rfl, by simp only [go_sem, ti3, ti9, ti5, ti4, ti32, ti23, ti39, hlen], by simp only [go_sem, ti3, ti9, ti5, ti4, ti32, ti23, ti39, hlen, h0], by simp only [go_sem, ti3, ti9, ti5, ti4, ti32, ti23, ti39, hlen, h1], by simp only [go_sem, ti3, ti9, ti5, ti4, ti32, ti23, ti39, hlen]; rfl, e0⟩
  · rintro ⟨e, ds, s1⟩ ⟨hch, rfl, hlen⟩
    simp only at hlen
    rw [hch]
    refine Wc.seq ?_
    refine Wc.reg fun K hK => ?_; simp only [go_sem, ti3, ti9, ti5, ti4, ti32, ti23, ti39, hlen]; refine hK _ _ ?_; clear hK K
    exact Wc.ret (Pf.ret [.tmp 4] [.c (.p (pI 0))] rfl rfl (by simp only [resultsD, go_sem, ti3, ti9, ti5, ti4, ti32, ti23, ti39, hlen]) rfl)
end Go.Proofs.YtedcnhbblgmdnaaGreat.Ab
