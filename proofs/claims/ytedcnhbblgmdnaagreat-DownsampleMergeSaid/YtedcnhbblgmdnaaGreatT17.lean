/- A part of the proof: an evaluator of the code, its contracts, the law. No condition. -/
import Derived.Test.YtedcnhbblgmdnaaGreatT16
import Derived.KernelRfl
namespace Go.Proofs.YtedcnhbblgmdnaaGreat.Ab
set_option maxHeartbeats 4000000
set_option maxRecDepth 10000
set_option linter.unusedSimpArgs false
set_option linter.unusedVariables false
/-- A label: name, value. -/
abbrev Lb := List UInt8 × List UInt8
abbrev lbP (x : Lb) : List Pd := [.str x.1, .str x.2]
def leB (x y : List UInt8) : Bool := Op.bytesLess x y || x == y
/-- Why a list is no label set, behind a name. -/
def lck : Option (List UInt8) → List Lb → Int
  | _, [] => 0
  | p, x :: r => if nameOK x.1 = false then 5 else if x.2 = [] then 1 else if 200 < x.2.length then 4 else match p with
    | some y => if leB x.1 y = true then 9 else lck (some x.1) r
    | none => lck (some x.1) r
def lckA (l : List Lb) : Int := if 16 < l.length then 4 else lck none l
def prevL (l : List Lb) (i : Nat) : Option (List UInt8) := if i = 0 then none else (l[i - 1]?).map (·.1)
theorem lck_step {l : List Lb} {i : Nat} {x : Lb} (h : l[i]? = some x) : lck (prevL l i) (l.drop i) = if nameOK x.1 = false then 5 else if x.2 = [] then 1 else if 200 < x.2.length then 4 else match prevL l i with
    | some y => if leB x.1 y = true then 9 else lck (prevL l (i + 1)) (l.drop (i + 1))
    | none => lck (prevL l (i + 1)) (l.drop (i + 1)) := by
  have hi := (List.getElem?_eq_some_iff.1 h).1
  have hx := (List.getElem?_eq_some_iff.1 h).2
  have hp : prevL l (i + 1) = some x.1 := by simp [prevL, h]
  rw [List.drop_eq_getElem_cons hi, hx, hp]
  cases prevL l i <;> rfl
theorem lck_end (p : Option (List UInt8)) : lck p [] = 0 := by cases p <;> rfl
/-- 45: labels.Check -/
theorem pf134 (l : List Lb) (hl : l.length < 2^40) (hs : ∀ x ∈ l, x.1.length < 2^50 ∧ x.2.length < 2^50) : Pf E0 134 [.c (.p (.lst l.length (l.flatMap lbP)))] (P' (pI (lckA l))) := by
  have hfl : (l.flatMap lbP).length = l.length * 2 := flat_len (k := 2) (fun _ => rfl) l
  refine Pf.body (fn := Tryz.f134) (by kernel_rfl) rfl ?_; simp only [List.map_cons, List.map_nil, List.cons_append, List.nil_append, List.length_cons, List.length_nil, Tryz.ntmps134, List.replicate, Nat.reduceSub, Nat.reduceAdd]
  refine Wc.seq ?_
  refine Wc.reg fun K hK => ?_; simp only [go_sem, ti3, ti9, ti5, ti4, ti32, ti22, ti117]; refine hK _ _ ?_; clear hK K
  refine Wc.seq (Wc.seq ?_)
  refine Wc.reg fun K hK => ?_; simp only [go_sem, ti3, ti9, ti5, ti4, ti32, ti22, ti117]; refine hK _ _ ?_; clear hK K
  refine Wc.cond (t := decide ((16 : Int) < l.length)) (by simp only [go_sem, ti3, ti9, ti5, ti4, ti32, ti22, ti117]) (fun hc => ?_) (fun hc => ?_)
  · have hc' : 16 < l.length := by have : (16 : Int) < l.length := by simpa using hc
                                   omega
    refine Wc.seq ?_
    refine Wc.reg fun K hK => ?_; simp only [go_sem, ti3, ti9, ti5, ti4, ti32, ti22, ti117]; refine hK _ _ ?_; clear hK K
    have e : lckA l = 4 := by unfold lckA; rw [if_pos hc']
    rw [e]
    exact Wc.ret (Pf.ret [.tmp 2] [.c (.p (pI 4))] rfl rfl (by simp only [resultsD, go_sem, ti3, ti9, ti5, ti4, ti32, ti22, ti117]) rfl)
  have hc' : ¬ 16 < l.length := by have : ¬ (16 : Int) < l.length := by simpa using hc
                                   omega
  have e0 : lckA l = lck (prevL l 0) (l.drop 0) := by unfold lckA; rw [if_neg hc']; rfl
  refine Wc.skip (Wc.seqR (fun y => lckA l = 0 ∧ y.ds = [] ∧ y.e.length = 44) ?_ ?_)
  · refine Wc.seq ?_
    refine Wc.reg fun K hK => ?_; simp only [go_sem, ti3, ti9, ti5, ti4, ti32, ti22, ti117, Int.natCast_zero]; refine hK _ _ ?_; clear hK K
    refine Wc.block (Wc.loop (fun k y => ∃ i : Nat, k = l.length - i ∧ i ≤ l.length ∧ y.ds = [] ∧ y.e.length = 44 ∧ y.e.getD 0 .junk = P' (.lst l.length (l.flatMap lbP)) ∧ y.e.getD 8 .junk = P' (.lst l.length (l.flatMap lbP)) ∧ y.e.getD 9 .junk = P' (pI l.length) ∧ y.e.getD 10 .junk = P' (pI i) ∧ lckA l = lck (prevL l i) (l.drop i)) ?_ (k := l.length) ?_)
    · rintro k ⟨e, ds, s1⟩ ⟨i, rfl, hi, rfl, hlen, h0, h8, h9, h10, hch⟩
      simp only at hlen h0 h8 h9 h10
      refine Wc.seq ?_
      refine Wc.reg fun K hK => ?_; simp only [go_sem, ti3, ti9, ti5, ti4, ti32, ti22, ti117, hlen, h0, h8, h9, h10]; refine hK _ _ ?_; clear hK K
      refine Wc.seq (Wc.cond (t := decide ((i : Int) < l.length)) (by simp only [go_sem, ti3, ti9, ti5, ti4, ti32, ti22, ti117, hlen]) (fun hc => ?_) (fun hc => ?_))
      · have hil : i < l.length := by have : (i : Int) < l.length := by simpa using hc
                                      omega
        obtain ⟨x, hx⟩ : ∃ x, l[i]? = some x := ⟨l[i], List.getElem?_eq_getElem hil⟩
        have hxs := hs x (List.mem_of_getElem? hx)
        have hix := ixA ti22 rfl ti117 (j := i) (m := l.length) (cs := l.flatMap lbP) hil hfl (by decide)
        have hca := rpA (off := i * 2) (drop_flat (f := lbP) (k := 2) (fun _ => rfl) hx) (by rw [hfl]; omega)
        rw [lck_step hx] at hch
        refine Wc.skip (Wc.seq (Wc.block (Wc.seq ?_)))
        refine Wc.reg fun K hK => ?_; simp only [go_sem, ti3, ti9, ti5, ti4, ti32, ti22, ti117, hlen, h0, h8, h9, h10, hix, hca]; refine hK _ _ ?_; clear hK K
        refine Wc.block (Wc.seq ?_)
        refine Wc.reg fun K hK => ?_; simp only [go_sem, ti3, ti9, ti5, ti4, ti32, ti22, ti117, hlen, h0, h8, h9, h10]
        refine wpCall.pf (pf208 x.1) (by kernel_rfl) (by kernel_rfl) rfl rfl ?_
        simp only [go_sem, ti3, ti9, ti5, ti4, ti32, ti22, ti117, hlen, h0, h8, h9, h10]; refine hK _ _ ?_; clear hK K
        refine Wc.cond (t := !(nameOK x.1)) (by simp only [go_sem, ti3, ti9, ti5, ti4, ti32, ti22, ti117, hlen]) (fun hc => ?_) (fun hc => ?_)
        · have hn : nameOK x.1 = false := by simpa using hc
          rw [if_pos hn] at hch
          refine Wc.seq ?_
          refine Wc.reg fun K hK => ?_; simp only [go_sem, ti3, ti9, ti5, ti4, ti32, ti22, ti117, hlen]; refine hK _ _ ?_; clear hK K
          rw [hch]
          exact Wc.ret (Pf.ret [.tmp 2] [.c (.p (pI 5))] rfl rfl (by simp only [resultsD, go_sem, ti3, ti9, ti5, ti4, ti32, ti22, ti117, hlen]) rfl)
        have hn : ¬ nameOK x.1 = false := by simpa using hc
        rw [if_neg hn] at hch
        refine Wc.seq ?_
        refine Wc.reg fun K hK => ?_; simp only [go_sem, ti3, ti9, ti5, ti4, ti32, ti22, ti117, hlen, h0, h8, h9, h10]; refine hK _ _ ?_; clear hK K
        refine Wc.cond (t := (x.2 == [])) (by simp only [go_sem, ti3, ti9, ti5, ti4, ti32, ti22, ti117, hlen]) (fun hc => ?_) (fun hc => ?_)
        · have hv : x.2 = [] := by simpa using hc
          rw [if_pos hv] at hch
          refine Wc.seq ?_
          refine Wc.reg fun K hK => ?_; simp only [go_sem, ti3, ti9, ti5, ti4, ti32, ti22, ti117, hlen]; refine hK _ _ ?_; clear hK K
          rw [hch]
          exact Wc.ret (Pf.ret [.tmp 2] [.c (.p (pI 1))] rfl rfl (by simp only [resultsD, go_sem, ti3, ti9, ti5, ti4, ti32, ti22, ti117, hlen]) rfl)
        have hv : ¬ x.2 = [] := by simpa using hc
        rw [if_neg hv] at hch
        refine Wc.seq ?_
        refine Wc.reg fun K hK => ?_; simp only [go_sem, ti3, ti9, ti5, ti4, ti32, ti22, ti117, hlen, h0, h8, h9, h10]; refine hK _ _ ?_; clear hK K
        refine Wc.cond (t := decide ((200 : Int) < x.2.length)) (by simp only [go_sem, ti3, ti9, ti5, ti4, ti32, ti22, ti117, hlen]) (fun hc => ?_) (fun hc => ?_)
        · have hv2 : 200 < x.2.length := by have : (200 : Int) < x.2.length := by simpa using hc
                                            omega
          rw [if_pos hv2] at hch
          refine Wc.seq ?_
          refine Wc.reg fun K hK => ?_; simp only [go_sem, ti3, ti9, ti5, ti4, ti32, ti22, ti117, hlen]; refine hK _ _ ?_; clear hK K
          rw [hch]
          exact Wc.ret (Pf.ret [.tmp 2] [.c (.p (pI 4))] rfl rfl (by simp only [resultsD, go_sem, ti3, ti9, ti5, ti4, ti32, ti22, ti117, hlen]) rfl)
        have hv2 : ¬ 200 < x.2.length := by have : ¬ (200 : Int) < x.2.length := by simpa using hc
                                            omega
        rw [if_neg hv2] at hch
        refine Wc.seq ?_
        by_cases hi0 : 0 < i
        · obtain ⟨y, hy⟩ : ∃ y, l[i - 1]? = some y := ⟨l[i - 1], List.getElem?_eq_getElem (by omega)⟩
          have hiy := ixA ti22 rfl ti117 (j := i - 1) (m := l.length) (cs := l.flatMap lbP) (by omega) hfl (by decide)
          have hcb := rpA (off := (i - 1) * 2) (drop_flat (f := lbP) (k := 2) (fun _ => rfl) hy) (by rw [hfl]; omega)
          have e1 : IntKind.i64.wrap ((i : Int) - 1) = ((i - 1 : Nat) : Int) := by rw [wi64]; omega
          have hd : (0 < (i : Int)) = True := by simp; omega
          have hpr : prevL l i = some y.1 := by unfold prevL; rw [if_neg (by omega), hy]; rfl
          rw [hpr] at hch
          simp only at hch
          refine Wc.regD fun K hK => ?_; simp only [go_sem, ti3, ti9, ti5, ti4, ti32, ti22, ti117, hlen, h0, h8, h9, h10, hiy, hcb, e1, hd]; refine hK _ _ ?_; clear hK K
          refine Wc.cond (t := leB x.1 y.1) (by simp only [go_sem, ti3, ti9, ti5, ti4, ti32, ti22, ti117, hlen, hd]; rfl) (fun hc => ?_) (fun hc => ?_)
          · rw [if_pos hc] at hch
            refine Wc.seq ?_
            refine Wc.reg fun K hK => ?_; simp only [go_sem, ti3, ti9, ti5, ti4, ti32, ti22, ti117, hlen]; refine hK _ _ ?_; clear hK K
            rw [hch]
            exact Wc.ret (Pf.ret [.tmp 2] [.c (.p (pI 9))] rfl rfl (by simp only [resultsD, go_sem, ti3, ti9, ti5, ti4, ti32, ti22, ti117, hlen]) rfl)
          · rw [if_neg (by rw [hc]; decide)] at hch
            refine Wc.skip ?_
            refine Wc.reg fun K hK => ?_; simp only [go_sem, ti3, ti9, ti5, ti4, ti32, ti22, ti117, hlen, h0, h8, h9, h10, i64n i (by omega)]; refine hK _ _ ?_; clear hK K
            exact ⟨l.length - (i + 1), by omega, i + 1, rfl, by omega, rfl, by simp only [go_sem, ti3, ti9, ti5, ti4, ti32, ti22, ti117, hlen], by simp only [go_sem, ti3, ti9, ti5, ti4, ti32, ti22, ti117, hlen, h0], by simp only [go_sem, ti3, ti9, ti5, ti4, ti32, ti22, ti117, hlen, h8], by simp only [go_sem, ti3, ti9, ti5, ti4, ti32, ti22, ti117, hlen, h9], by simp only [go_sem, ti3, ti9, ti5, ti4, ti32, ti22, ti117, hlen], hch⟩
        · have hd : (0 < (i : Int)) = False := by simp; omega
          have hpr : prevL l i = none := by unfold prevL; rw [if_pos (by omega)]
          rw [hpr] at hch
          simp only at hch
          refine Wc.regD fun K hK => ?_; simp only [go_sem, ti3, ti9, ti5, ti4, ti32, ti22, ti117, hlen, h0, h8, h9, h10, hd]; refine hK _ _ ?_; clear hK K
          refine Wc.cond (t := false) (by simp only [go_sem, ti3, ti9, ti5, ti4, ti32, ti22, ti117, hlen, hd]) (fun hc => by cases hc) (fun hc => ?_)
          refine Wc.skip ?_
          refine Wc.reg fun K hK => ?_; simp only [go_sem, ti3, ti9, ti5, ti4, ti32, ti22, ti117, hlen, h0, h8, h9, h10, i64n i (by omega)]; refine hK _ _ ?_; clear hK K
          exact ⟨l.length - (i + 1), by omega, i + 1, rfl, by omega, rfl, by simp only [go_sem, ti3, ti9, ti5, ti4, ti32, ti22, ti117, hlen], by simp only [go_sem, ti3, ti9, ti5, ti4, ti32, ti22, ti117, hlen, h0], by simp only [go_sem, ti3, ti9, ti5, ti4, ti32, ti22, ti117, hlen, h8], by simp only [go_sem, ti3, ti9, ti5, ti4, ti32, ti22, ti117, hlen, h9], by simp only [go_sem, ti3, ti9, ti5, ti4, ti32, ti22, ti117, hlen], hch⟩
      · have hil : i = l.length := by have : ¬ (i : Int) < l.length := by simpa using hc
                                      omega
        rw [hil, List.drop_length, lck_end] at hch
        exact Wc.exit ⟨hch, rfl, by simp only [go_sem, ti3, ti9, ti5, ti4, ti32, ti22, ti117, hlen]⟩
    · exact ⟨0, rfl, by omega, rfl, rfl, rfl, rfl, rfl, rfl, e0⟩
  · rintro ⟨e, ds, s1⟩ ⟨hch, rfl, hlen⟩
    simp only at hlen
    rw [hch]
    refine Wc.seq ?_
    refine Wc.reg fun K hK => ?_; simp only [go_sem, ti3, ti9, ti5, ti4, ti32, ti22, ti117, hlen]; refine hK _ _ ?_; clear hK K
    exact Wc.ret (Pf.ret [.tmp 2] [.c (.p (pI 0))] rfl rfl (by simp only [resultsD, go_sem, ti3, ti9, ti5, ti4, ti32, ti22, ti117, hlen]) rfl)
end Go.Proofs.YtedcnhbblgmdnaaGreat.Ab
namespace Go.Proofs.YtedcnhbblgmdnaaGreat.Ab
set_option maxHeartbeats 4000000
set_option maxRecDepth 10000
set_option linter.unusedSimpArgs false
set_option linter.unusedVariables false
/-- 63: the reference's Check of labels -/
theorem pf92 (l : List Lb) (hl : l.length < 2^40) (hs : ∀ x ∈ l, x.1.length < 2^50 ∧ x.2.length < 2^50) : Pf E0 92 [.c (.p (.lst l.length (l.flatMap lbP)))] (P' (pI (lckA l))) := by
  have hfl : (l.flatMap lbP).length = l.length * 2 := flat_len (k := 2) (fun _ => rfl) l
  refine Pf.body (fn := Tryz.f92) (by kernel_rfl) rfl ?_; simp only [List.map_cons, List.map_nil, List.cons_append, List.nil_append, List.length_cons, List.length_nil, Tryz.ntmps92, List.replicate, Nat.reduceSub, Nat.reduceAdd]
  refine Wc.seq ?_
  refine Wc.reg fun K hK => ?_; simp only [go_sem, ti3, ti9, ti5, ti4, ti32, ti22, ti117]; refine hK _ _ ?_; clear hK K
  refine Wc.seq (Wc.seq ?_)
  refine Wc.reg fun K hK => ?_; simp only [go_sem, ti3, ti9, ti5, ti4, ti32, ti22, ti117]; refine hK _ _ ?_; clear hK K
  refine Wc.cond (t := decide ((16 : Int) < l.length)) (by simp only [go_sem, ti3, ti9, ti5, ti4, ti32, ti22, ti117]) (fun hc => ?_) (fun hc => ?_)
  · have hc' : 16 < l.length := by have : (16 : Int) < l.length := by simpa using hc
                                   omega
    refine Wc.seq ?_
    refine Wc.reg fun K hK => ?_; simp only [go_sem, ti3, ti9, ti5, ti4, ti32, ti22, ti117]; refine hK _ _ ?_; clear hK K
    have e : lckA l = 4 := by unfold lckA; rw [if_pos hc']
    rw [e]
    exact Wc.ret (Pf.ret [.tmp 2] [.c (.p (pI 4))] rfl rfl (by simp only [resultsD, go_sem, ti3, ti9, ti5, ti4, ti32, ti22, ti117]) rfl)
  have hc' : ¬ 16 < l.length := by have : ¬ (16 : Int) < l.length := by simpa using hc
                                   omega
  have e0 : lckA l = lck (prevL l 0) (l.drop 0) := by unfold lckA; rw [if_neg hc']; rfl
  refine Wc.skip (Wc.seqR (fun y => lckA l = 0 ∧ y.ds = [] ∧ y.e.length = 49) ?_ ?_)
  · refine Wc.seq ?_
    refine Wc.reg fun K hK => ?_; simp only [go_sem, ti3, ti9, ti5, ti4, ti32, ti22, ti117, Int.natCast_zero]; refine hK _ _ ?_; clear hK K
    refine Wc.block (Wc.loop (fun k y => ∃ i : Nat, k = l.length - i ∧ i ≤ l.length ∧ y.ds = [] ∧ y.e.length = 49 ∧ y.e.getD 0 .junk = P' (.lst l.length (l.flatMap lbP)) ∧ y.e.getD 3 .junk = P' (pI i) ∧ lckA l = lck (prevL l i) (l.drop i)) ?_ (k := l.length) ?_)
    · rintro k ⟨e, ds, s1⟩ ⟨i, rfl, hi, rfl, hlen, h0, h3, hch⟩
      simp only at hlen h0 h3
      refine Wc.seq (Wc.seq ?_)
      refine Wc.reg fun K hK => ?_; simp only [go_sem, ti3, ti9, ti5, ti4, ti32, ti22, ti117, hlen, h0, h3]; refine hK _ _ ?_; clear hK K
      refine Wc.cond (t := decide ((i : Int) < l.length)) (by simp only [go_sem, ti3, ti9, ti5, ti4, ti32, ti22, ti117, hlen]) (fun hc => ?_) (fun hc => ?_)
      · have hil : i < l.length := by have : (i : Int) < l.length := by simpa using hc
                                      omega
        obtain ⟨x, hx⟩ : ∃ x, l[i]? = some x := ⟨l[i], List.getElem?_eq_getElem hil⟩
        have hxs := hs x (List.mem_of_getElem? hx)
        have hix := ixA ti22 rfl ti117 (j := i) (m := l.length) (cs := l.flatMap lbP) hil hfl (by decide)
        have hca := rpA (off := i * 2) (drop_flat (f := lbP) (k := 2) (fun _ => rfl) hx) (by rw [hfl]; omega)
        have hcc := rpA (off := i * 2 + 1) (cs := l.flatMap lbP) (pre := [.str x.2]) (rest := (l.drop (i + 1)).flatMap lbP) (by rw [← List.drop_drop, drop_flat (f := lbP) (k := 2) (fun _ => rfl) hx]; rfl) (by rw [hfl]; omega)
        rw [lck_step hx] at hch
        refine Wc.skip (Wc.seq (Wc.block (Wc.seq (Wc.seq ?_))))
        refine Wc.reg fun K hK => ?_; simp only [go_sem, ti3, ti9, ti5, ti4, ti32, ti22, ti117, hlen, h0, h3, hix, hca]
        refine wpCall.pf (pf149 x.1 (by omega)) (by kernel_rfl) (by kernel_rfl) rfl rfl ?_
        simp only [go_sem, ti3, ti9, ti5, ti4, ti32, ti22, ti117, hlen, h0, h3]; refine hK _ _ ?_; clear hK K
        refine Wc.cond (t := !(nameOK x.1)) (by simp only [go_sem, ti3, ti9, ti5, ti4, ti32, ti22, ti117, hlen]) (fun hc => ?_) (fun hc => ?_)
        · have hn : nameOK x.1 = false := by simpa using hc
          rw [if_pos hn] at hch
          refine Wc.seq ?_
          refine Wc.reg fun K hK => ?_; simp only [go_sem, ti3, ti9, ti5, ti4, ti32, ti22, ti117, hlen]; refine hK _ _ ?_; clear hK K
          rw [hch]
          exact Wc.ret (Pf.ret [.tmp 2] [.c (.p (pI 5))] rfl rfl (by simp only [resultsD, go_sem, ti3, ti9, ti5, ti4, ti32, ti22, ti117, hlen]) rfl)
        have hn : ¬ nameOK x.1 = false := by simpa using hc
        rw [if_neg hn] at hch
        refine Wc.skip (Wc.seq (Wc.seq ?_))
        refine Wc.reg fun K hK => ?_; simp only [go_sem, ti3, ti9, ti5, ti4, ti32, ti22, ti117, hlen, h0, h3, hix, hcc]; refine hK _ _ ?_; clear hK K
        refine Wc.cond (t := (x.2 == [])) (by simp only [go_sem, ti3, ti9, ti5, ti4, ti32, ti22, ti117, hlen]) (fun hc => ?_) (fun hc => ?_)
        · have hv : x.2 = [] := by simpa using hc
          rw [if_pos hv] at hch
          refine Wc.seq ?_
          refine Wc.reg fun K hK => ?_; simp only [go_sem, ti3, ti9, ti5, ti4, ti32, ti22, ti117, hlen]; refine hK _ _ ?_; clear hK K
          rw [hch]
          exact Wc.ret (Pf.ret [.tmp 2] [.c (.p (pI 1))] rfl rfl (by simp only [resultsD, go_sem, ti3, ti9, ti5, ti4, ti32, ti22, ti117, hlen]) rfl)
        have hv : ¬ x.2 = [] := by simpa using hc
        rw [if_neg hv] at hch
        refine Wc.skip (Wc.seq (Wc.seq ?_))
        refine Wc.reg fun K hK => ?_; simp only [go_sem, ti3, ti9, ti5, ti4, ti32, ti22, ti117, hlen, h0, h3, hix, hcc]; refine hK _ _ ?_; clear hK K
        refine Wc.cond (t := decide ((200 : Int) < x.2.length)) (by simp only [go_sem, ti3, ti9, ti5, ti4, ti32, ti22, ti117, hlen]) (fun hc => ?_) (fun hc => ?_)
        · have hv2 : 200 < x.2.length := by have : (200 : Int) < x.2.length := by simpa using hc
                                            omega
          rw [if_pos hv2] at hch
          refine Wc.seq ?_
          refine Wc.reg fun K hK => ?_; simp only [go_sem, ti3, ti9, ti5, ti4, ti32, ti22, ti117, hlen]; refine hK _ _ ?_; clear hK K
          rw [hch]
          exact Wc.ret (Pf.ret [.tmp 2] [.c (.p (pI 4))] rfl rfl (by simp only [resultsD, go_sem, ti3, ti9, ti5, ti4, ti32, ti22, ti117, hlen]) rfl)
        have hv2 : ¬ 200 < x.2.length := by have : ¬ (200 : Int) < x.2.length := by simpa using hc
                                            omega
        rw [if_neg hv2] at hch
        refine Wc.skip (Wc.seq ?_)
        by_cases hi0 : 0 < i
        · obtain ⟨y, hy⟩ : ∃ y, l[i - 1]? = some y := ⟨l[i - 1], List.getElem?_eq_getElem (by omega)⟩
          have hiy := ixA ti22 rfl ti117 (j := i - 1) (m := l.length) (cs := l.flatMap lbP) (by omega) hfl (by decide)
          have hcb := rpA (off := (i - 1) * 2) (drop_flat (f := lbP) (k := 2) (fun _ => rfl) hy) (by rw [hfl]; omega)
          have e1 : IntKind.i64.wrap ((i : Int) - 1) = ((i - 1 : Nat) : Int) := by rw [wi64]; omega
          have hd : (0 < (i : Int)) = True := by simp; omega
          have hpr : prevL l i = some y.1 := by unfold prevL; rw [if_neg (by omega), hy]; rfl
          rw [hpr] at hch
          simp only at hch
          refine Wc.regD fun K hK => ?_; simp only [go_sem, ti3, ti9, ti5, ti4, ti32, ti22, ti117, hlen, h0, h3, hix, hca, hiy, hcb, e1, hd]; refine hK _ _ ?_; clear hK K
          refine Wc.cond (t := leB x.1 y.1) (by simp only [go_sem, ti3, ti9, ti5, ti4, ti32, ti22, ti117, hlen, hd]; rfl) (fun hc => ?_) (fun hc => ?_)
          · rw [if_pos hc] at hch
            refine Wc.seq ?_
            refine Wc.reg fun K hK => ?_; simp only [go_sem, ti3, ti9, ti5, ti4, ti32, ti22, ti117, hlen]; refine hK _ _ ?_; clear hK K
            rw [hch]
            exact Wc.ret (Pf.ret [.tmp 2] [.c (.p (pI 9))] rfl rfl (by simp only [resultsD, go_sem, ti3, ti9, ti5, ti4, ti32, ti22, ti117, hlen]) rfl)
          · rw [if_neg (by rw [hc]; decide)] at hch
            refine Wc.skip ?_
            refine Wc.reg fun K hK => ?_; simp only [go_sem, ti3, ti9, ti5, ti4, ti32, ti22, ti117, hlen, h0, h3, i64n i (by omega)]; refine hK _ _ ?_; clear hK K
            exact ⟨l.length - (i + 1), by omega, i + 1, rfl, by omega, rfl, by simp only [go_sem, ti3, ti9, ti5, ti4, ti32, ti22, ti117, hlen], by simp only [go_sem, ti3, ti9, ti5, ti4, ti32, ti22, ti117, hlen, h0], by simp only [go_sem, ti3, ti9, ti5, ti4, ti32, ti22, ti117, hlen], hch⟩
        · have hd : (0 < (i : Int)) = False := by simp; omega
          have hpr : prevL l i = none := by unfold prevL; rw [if_pos (by omega)]
          rw [hpr] at hch
          simp only at hch
          refine Wc.regD fun K hK => ?_; simp only [go_sem, ti3, ti9, ti5, ti4, ti32, ti22, ti117, hlen, h0, h3, hd]; refine hK _ _ ?_; clear hK K
          refine Wc.cond (t := false) (by simp only [go_sem, ti3, ti9, ti5, ti4, ti32, ti22, ti117, hlen, hd]) (fun hc => by cases hc) (fun hc => ?_)
          refine Wc.skip ?_
          refine Wc.reg fun K hK => ?_; simp only [go_sem, ti3, ti9, ti5, ti4, ti32, ti22, ti117, hlen, h0, h3, i64n i (by omega)]; refine hK _ _ ?_; clear hK K
          exact ⟨l.length - (i + 1), by omega, i + 1, rfl, by omega, rfl, by simp only [go_sem, ti3, ti9, ti5, ti4, ti32, ti22, ti117, hlen], by simp only [go_sem, ti3, ti9, ti5, ti4, ti32, ti22, ti117, hlen, h0], by simp only [go_sem, ti3, ti9, ti5, ti4, ti32, ti22, ti117, hlen], hch⟩
      · have hil : i = l.length := by have : ¬ (i : Int) < l.length := by simpa using hc
                                      omega
        rw [hil, List.drop_length, lck_end] at hch
        exact Wc.exit ⟨hch, rfl, by simp only [go_sem, ti3, ti9, ti5, ti4, ti32, ti22, ti117, hlen]⟩
    · exact ⟨0, rfl, by omega, rfl, rfl, rfl, rfl, e0⟩
  · rintro ⟨e, ds, s1⟩ ⟨hch, rfl, hlen⟩
    simp only at hlen
    rw [hch]
    refine Wc.seq ?_
    refine Wc.reg fun K hK => ?_; simp only [go_sem, ti3, ti9, ti5, ti4, ti32, ti22, ti117, hlen]; refine hK _ _ ?_; clear hK K
    exact Wc.ret (Pf.ret [.tmp 2] [.c (.p (pI 0))] rfl rfl (by simp only [resultsD, go_sem, ti3, ti9, ti5, ti4, ti32, ti22, ti117, hlen]) rfl)
end Go.Proofs.YtedcnhbblgmdnaaGreat.Ab
namespace Go.Proofs.YtedcnhbblgmdnaaGreat.Ab
set_option maxHeartbeats 4000000
set_option maxRecDepth 10000
set_option linter.unusedSimpArgs false
set_option linter.unusedVariables false
/-- A valid sample. -/
def smpOK (x : I2) : Bool := isT x.1 && isVl x.2
/-- Why a list is none of a kind's samples, behind a time. -/
def sck (k : Int) : Option Int → List I2 → Int
  | _, [] => 0
  | p, x :: r => if smpOK x = false ∨ (k = 2 ∧ x.2 < 0) then 2 else match p with
    | some y => if x.1 ≤ y then 9 else sck k (some x.1) r
    | none => sck k (some x.1) r
def sckA (k : Int) (l : List I2) : Int := if k ≠ 1 ∧ k ≠ 2 then 8 else if 2000 < l.length then 4 else sck k none l
def prevT (l : List I2) (i : Nat) : Option Int := if i = 0 then none else (l[i - 1]?).map (·.1)
def sB (k : Int) (x : I2) : Bool := !(smpOK x) || ((k == 2) && decide (x.2 < 0))
end Go.Proofs.YtedcnhbblgmdnaaGreat.Ab
/- Histograms' buckets: the plain law of their bounds. -/
namespace Go.Proofs.YtedcnhbblgmdnaaGreat.Ab
set_option linter.unusedVariables false
set_option linter.unusedSimpArgs false
/-- The number of bits. -/
def blen (v : Nat) : Nat := if v = 0 then 0 else v.log2 + 1
theorem blen_pos {v : Nat} (h : 0 < v) : ∃ m, blen v = m + 1 ∧ 2 ^ m ≤ v ∧ v < 2 ^ (m + 1) := by
  refine ⟨v.log2, ?_, ?_⟩
  · unfold blen; rw [if_neg (by omega)]
  · exact (Nat.log2_eq_iff (by omega)).1 rfl
/-- The index of a value's bucket. -/
def ix (q v : Nat) : Nat := if v < 2 ^ (q + 1) then v else 2 ^ q + ix q (v / 2)
termination_by v
decreasing_by
  have := Nat.two_pow_pos (q + 1)
  omega
theorem ix_lt {q v : Nat} (h : v < 2 ^ (q + 1)) : ix q v = v := by rw [ix, if_pos h]
theorem ix_ge {q v : Nat} (h : 2 ^ (q + 1) ≤ v) : ix q v = 2 ^ q + ix q (v / 2) := by rw [ix, if_neg (by omega)]
theorem ix_closed (q : Nat) : ∀ k v, 2 ^ (q + k) ≤ v → v < 2 ^ (q + k + 1) → ix q v = k * 2 ^ q + v / 2 ^ k
  | 0, v, h1, h2 => by rw [ix_lt (by simpa using h2)]; simp
  | k + 1, v, h1, h2 => by
    have e1 : 2 ^ (q + (k + 1)) = 2 ^ (q + k) * 2 := by rw [← Nat.add_assoc, Nat.pow_succ]
    have e2 : 2 ^ (q + (k + 1) + 1) = 2 ^ (q + k + 1) * 2 := by rw [Nat.pow_succ, ← Nat.add_assoc]
    have h3 : 2 ^ (q + 1) ≤ v := Nat.le_trans (Nat.pow_le_pow_right (by decide) (by omega)) h1
    rw [ix_ge h3, ix_closed q k (v / 2) (by omega) (by omega), Nat.div_div_eq_div_mul, Nat.add_mul, Nat.pow_succ, Nat.mul_comm 2]
    omega
/-- How often a bucket's width is doubled. -/
def kf (q i : Nat) : Nat := i / 2 ^ q - 1
def lo (q i : Nat) : Nat := (i - kf q i * 2 ^ q) * 2 ^ kf q i
def hiU (q i : Nat) : Nat := lo q i + 2 ^ kf q i - 1
def hi (q i : Nat) : Nat := min (hiU q i) 1099511627776
theorem kf_of {q k r : Nat} (h1 : 2 ^ q ≤ r) (h2 : r < 2 ^ q * 2) : kf q (k * 2 ^ q + r) = k := by
  have hp := Nat.two_pow_pos q
  unfold kf
  have : (k * 2 ^ q + r) / 2 ^ q = k + 1 := by
    rw [Nat.div_eq_iff hp]
    rw [Nat.add_mul]
    omega
  omega
theorem lo_of {q k r : Nat} (h1 : 2 ^ q ≤ r) (h2 : r < 2 ^ q * 2) : lo q (k * 2 ^ q + r) = r * 2 ^ k := by
  unfold lo; rw [kf_of h1 h2, Nat.add_sub_cancel_left]
theorem lo_small {q i : Nat} (h : i < 2 ^ q) : lo q i = i ∧ kf q i = 0 := by
  have : kf q i = 0 := by unfold kf; rw [Nat.div_eq_of_lt h]
  exact ⟨by unfold lo; rw [this]; simp, this⟩
/-- Every index is one of the two. -/
theorem ix_form (q i : Nat) : i < 2 ^ q ∨ ∃ k r, i = k * 2 ^ q + r ∧ 2 ^ q ≤ r ∧ r < 2 ^ q * 2 := by
  have hp := Nat.two_pow_pos q
  rcases Nat.lt_or_ge i (2 ^ q) with h | h
  · exact .inl h
  · refine .inr ⟨i / 2 ^ q - 1, 2 ^ q + i % 2 ^ q, ?_, by omega, by have := Nat.mod_lt i hp; omega⟩
    have h1 : 1 ≤ i / 2 ^ q := (Nat.le_div_iff_mul_le hp).2 (by omega)
    have h2 := Nat.div_add_mod i (2 ^ q)
    have h3 : (i / 2 ^ q - 1) * 2 ^ q + 2 ^ q = 2 ^ q * (i / 2 ^ q) := by
      rw [Nat.sub_mul, Nat.one_mul, Nat.mul_comm (2 ^ q)]
      have : 1 * 2 ^ q ≤ i / 2 ^ q * 2 ^ q := Nat.mul_le_mul_right _ h1
      omega
    omega
theorem hiU_succ (q i : Nat) : hiU q i + 1 = lo q (i + 1) := by
  have hp := Nat.two_pow_pos q
  rcases ix_form q i with h | ⟨k, r, rfl, h1, h2⟩
  · obtain ⟨h3, h4⟩ := lo_small h
    have : lo q (i + 1) = i + 1 := by
      rcases Nat.lt_or_ge (i + 1) (2 ^ q) with h5 | h5
      · exact (lo_small h5).1
      · have h6 : i + 1 = 0 * 2 ^ q + 2 ^ q := by omega
        rw [h6, lo_of (Nat.le_refl _) (by omega)]; simp
    unfold hiU
    rw [h3, h4, this]; simp
  · have hk := Nat.two_pow_pos k
    have e : hiU q (k * 2 ^ q + r) + 1 = (r + 1) * 2 ^ k := by
      unfold hiU; rw [lo_of h1 h2, kf_of h1 h2, Nat.add_mul]; omega
    rw [e]
    rcases Nat.lt_or_ge (r + 1) (2 ^ q * 2) with h5 | h5
    · rw [Nat.add_assoc, lo_of (by omega) h5]
    · have h6 : k * 2 ^ q + r + 1 = (k + 1) * 2 ^ q + 2 ^ q := by rw [Nat.add_mul]; omega
      have h7 : r + 1 = 2 ^ q * 2 := by omega
      rw [h6, lo_of (Nat.le_refl _) (by omega), h7, Nat.pow_succ, Nat.mul_assoc, Nat.mul_comm 2]
theorem lo_hiU (q i : Nat) : lo q i ≤ hiU q i := by
  have := Nat.two_pow_pos (kf q i)
  unfold hiU; omega
theorem lo_mono {q i j : Nat} (h : i ≤ j) : lo q i ≤ lo q j := by
  induction h with
  | refl => exact Nat.le_refl _
  | step _ ih => have := hiU_succ q; rename_i m _; have h1 := this m; have h2 := lo_hiU q m; simp only [Nat.succ_eq_add_one]; omega
/-- A value lies in its bucket. -/
theorem lo_ix (q v : Nat) : lo q (ix q v) ≤ v ∧ v ≤ hiU q (ix q v) := by
  have hp := Nat.two_pow_pos q
  rcases Nat.lt_or_ge v (2 ^ q) with h | h
  · rw [ix_lt (by rw [Nat.pow_succ]; omega)]
    obtain ⟨h3, h4⟩ := lo_small h
    unfold hiU
    rw [h3, h4]; simp
  · obtain ⟨m, _, h1, h2⟩ := blen_pos (v := v) (by omega)
    have hqm : q ≤ m := by
      rcases Nat.lt_or_ge m q with h3 | h3
      · exfalso
        have : 2 ^ (m + 1) ≤ 2 ^ q := Nat.pow_le_pow_right (by decide) h3
        omega
      · exact h3
    obtain ⟨k, rfl⟩ := Nat.exists_eq_add_of_le hqm
    have hk := Nat.two_pow_pos k
    rw [ix_closed q k v h1 h2]
    have a1 : 2 ^ q ≤ v / 2 ^ k := (Nat.le_div_iff_mul_le hk).2 (by rw [← Nat.pow_add]; exact h1)
    have a2 : v / 2 ^ k < 2 ^ q * 2 := by
      rw [Nat.div_lt_iff_lt_mul hk, ← Nat.pow_succ, ← Nat.pow_add]
      have e : q.succ + k = q + k + 1 := by omega
      rw [e]; exact h2
    unfold hiU
    rw [lo_of a1 a2, kf_of a1 a2]
    have := Nat.div_add_mod v (2 ^ k)
    have h5 := Nat.mod_lt v hk
    rw [Nat.mul_comm (v / 2 ^ k)]
    omega
/-- The last index. -/
theorem ix_last : ∀ q, q ≤ 8 → ix q 1099511627776 = (41 - q) * 2 ^ q := by
  intro q hq
  have e1 : q + (40 - q) = 40 := by omega
  have h := ix_closed q (40 - q) 1099511627776 (by rw [e1]; decide) (by rw [e1]; decide)
  rw [h]
  have : q = 0 ∨ q = 1 ∨ q = 2 ∨ q = 3 ∨ q = 4 ∨ q = 5 ∨ q = 6 ∨ q = 7 ∨ q = 8 := by omega
  rcases this with rfl | rfl | rfl | rfl | rfl | rfl | rfl | rfl | rfl <;> decide
theorem lo_last {q i : Nat} (hq : q ≤ 8) (h : i ≤ (41 - q) * 2 ^ q) : lo q i ≤ 1099511627776 := by
  refine Nat.le_trans (lo_mono h) ?_
  rw [← ix_last q hq]
  exact (lo_ix q 1099511627776).1
end Go.Proofs.YtedcnhbblgmdnaaGreat.Ab
namespace Go.Proofs.YtedcnhbblgmdnaaGreat.Ab
set_option maxHeartbeats 4000000
set_option maxRecDepth 10000
set_option linter.unusedSimpArgs false
set_option linter.unusedVariables false
abbrev ltab : List UInt8 := (([0, 1, 2, 2, 3, 3, 3, 3, 4, 4, 4, 4, 4, 4, 4, 4, 5, 5, 5, 5, 5, 5, 5, 5, 5, 5, 5, 5, 5, 5, 5, 5, 6, 6, 6, 6, 6, 6, 6, 6, 6, 6, 6, 6, 6, 6, 6, 6, 6, 6, 6, 6, 6, 6, 6, 6, 6, 6, 6, 6, 6, 6, 6, 6].append [7, 7, 7, 7, 7, 7, 7, 7, 7, 7, 7, 7, 7, 7, 7, 7, 7, 7, 7, 7, 7, 7, 7, 7, 7, 7, 7, 7, 7, 7, 7, 7, 7, 7, 7, 7, 7, 7, 7, 7, 7, 7, 7, 7, 7, 7, 7, 7, 7, 7, 7, 7, 7, 7, 7, 7, 7, 7, 7, 7, 7, 7, 7, 7]).append ([8, 8, 8, 8, 8, 8, 8, 8, 8, 8, 8, 8, 8, 8, 8, 8, 8, 8, 8, 8, 8, 8, 8, 8, 8, 8, 8, 8, 8, 8, 8, 8, 8, 8, 8, 8, 8, 8, 8, 8, 8, 8, 8, 8, 8, 8, 8, 8, 8, 8, 8, 8, 8, 8, 8, 8, 8, 8, 8, 8, 8, 8, 8, 8].append [8, 8, 8, 8, 8, 8, 8, 8, 8, 8, 8, 8, 8, 8, 8, 8, 8, 8, 8, 8, 8, 8, 8, 8, 8, 8, 8, 8, 8, 8, 8, 8, 8, 8, 8, 8, 8, 8, 8, 8, 8, 8, 8, 8, 8, 8, 8, 8, 8, 8, 8, 8, 8, 8, 8, 8, 8, 8, 8, 8, 8, 8, 8, 8]))
end Go.Proofs.YtedcnhbblgmdnaaGreat.Ab
namespace Go.Proofs.YtedcnhbblgmdnaaGreat.Ab
set_option maxHeartbeats 4000000
set_option maxRecDepth 10000
set_option linter.unusedSimpArgs false
set_option linter.unusedVariables false
end Go.Proofs.YtedcnhbblgmdnaaGreat.Ab
namespace Go.Proofs.YtedcnhbblgmdnaaGreat.Ab
set_option maxHeartbeats 4000000
set_option maxRecDepth 10000
set_option linter.unusedSimpArgs false
set_option linter.unusedVariables false
theorem min2 (a b : Int) : foldO minD (.v (.c (.p (.int .i64 a)))) [.v (.c (.p (.int .i64 b)))] = some (.v (.c (.p (.int .i64 (min a b))))) := by
  simp only [foldO, minD, P', if_true, Option.some.injEq, D.v.injEq, V.c.injEq, C.p.injEq, Pd.int.injEq, true_and, decide_eq_true_eq]
  split <;> omega
theorem max2 (a b : Int) : foldO maxD (.v (.c (.p (.int .i64 a)))) [.v (.c (.p (.int .i64 b)))] = some (.v (.c (.p (.int .i64 (max a b))))) := by
  simp only [foldO, maxD, P', if_true, Option.some.injEq, D.v.injEq, V.c.injEq, C.p.injEq, Pd.int.injEq, true_and, decide_eq_true_eq]
  split <;> omega
end Go.Proofs.YtedcnhbblgmdnaaGreat.Ab
/- Histograms: the two ways to tell whether there are values with a histogram's numbers come to the same. -/
namespace Go.Proofs.YtedcnhbblgmdnaaGreat.Ab
set_option linter.unusedVariables false
set_option linter.unusedSimpArgs false
def sumI (f : Nat → Int × Int → Int) : Nat → List (Int × Int) → Int
  | _, [] => 0
  | i, b :: r => f i b + sumI f (i + 1) r
/-- How many values there are. -/
def cnt (l : List (Int × Int)) : Int := sumI (fun _ b => b.2) 0 l
theorem sumI_bound {f : Nat → Int × Int → Int} {m : Int} : ∀ {l : List (Int × Int)} {i : Nat}, (∀ j b, l[j]? = some b → 0 ≤ f (i + j) b ∧ f (i + j) b ≤ m * b.2) → 0 ≤ sumI f i l ∧ sumI f i l ≤ m * sumI (fun _ b => b.2) i l
  | [], i, h => by simp [sumI]
  | b :: r, i, h => by
    have h1 := h 0 b rfl
    have h2 := sumI_bound (f := f) (m := m) (l := r) (i := i + 1) fun j c hj => by
      have := h (j + 1) c (by simpa using hj)
      have e : i + 1 + j = i + (j + 1) := by omega
      rw [e]; exact this
    simp only [sumI, Int.mul_add]
    simp only [Nat.add_zero] at h1
    omega
abbrev mxv : Int := 1099511627776
def leastP (q : Nat) (mn mx : Int) (bs : List (Int × Int)) (last : Int × Int) : Int := sumI (fun _ b => max (lo q b.1.toNat : Int) mn * b.2) 0 bs + (mx - max (lo q last.1.toNat : Int) mn)
def greatP (q : Nat) (mn mx : Int) (bs : List (Int × Int)) (first : Int × Int) : Int := sumI (fun _ b => min (hi q b.1.toNat : Int) mx * b.2) 0 bs - (min (hi q first.1.toNat : Int) mx - mn)
def lowR (q : Nat) (mn : Int) (i : Nat) (b : Int × Int) : Int := if i = 0 then mn else (lo q b.1.toNat : Int)
def highR (q : Nat) (mx : Int) (n i : Nat) (b : Int × Int) : Int := if i + 1 = n then mx else (hi q b.1.toNat : Int)
def termL (q : Nat) (mn : Int) (n i : Nat) (b : Int × Int) : Int := lowR q mn i b * b.2 + (if i + 1 = n then mn - lowR q mn i b else 0)
def termM (q : Nat) (mx : Int) (n i : Nat) (b : Int × Int) : Int := highR q mx n i b * b.2 + (if i = 0 then mx - highR q mx n i b else 0)
def leastR (q : Nat) (mn mx : Int) (bs : List (Int × Int)) : Int := (mx - mn) + sumI (termL q mn bs.length) 0 bs
def mostR (q : Nat) (mn mx : Int) (bs : List (Int × Int)) : Int := (mn - mx) + sumI (termM q mx bs.length) 0 bs
/-- What is told of the buckets. -/
structure BsOK (q : Nat) (bs : List (Int × Int)) : Prop where
  lo0 : ∀ b ∈ bs, 0 ≤ b.1 ∧ b.1 ≤ ((41 - q) * 2 ^ q : Nat)
  cn : ∀ b ∈ bs, 1 ≤ b.2
  asc : ∀ (i j : Nat) (b c : Int × Int), i < j → bs[i]? = some b → bs[j]? = some c → b.1 < c.1
section
variable {q : Nat} {bs : List (Int × Int)} {mn mx : Int} {f l : Int × Int}
end
/-- The program's way. -/
def agr1 (q : Nat) (s mn mx : Int) (bs : List (Int × Int)) (f l : Int × Int) (t : Int) : Bool :=
  if mn < 0 ∨ mxv < mn ∨ mx < 0 ∨ mxv < mx ∨ mx < mn then false
  else if (ix q mn.toNat : Int) ≠ f.1 ∨ (ix q mx.toNat : Int) ≠ l.1 then false
  else if t = 1 ∧ mn ≠ mx then false
  else decide (leastP q mn mx bs l ≤ s) && decide (s ≤ greatP q mn mx bs f)
/-- The reference's way. -/
def fit1 (q : Nat) (s mn mx : Int) (bs : List (Int × Int)) (f l : Int × Int) (t : Int) : Bool :=
  if mn < 0 ∨ mxv < mx ∨ mx < mn then false
  else if (ix q mn.toNat : Int) ≠ f.1 ∨ (ix q mx.toNat : Int) ≠ l.1 then false
  else if t = 1 then decide (mn = mx) && decide (s = mn)
  else decide (leastR q mn mx bs ≤ s) && decide (s ≤ mostR q mn mx bs)
end Go.Proofs.YtedcnhbblgmdnaaGreat.Ab
namespace Go.Proofs.YtedcnhbblgmdnaaGreat.Ab
set_option maxHeartbeats 4000000
set_option maxRecDepth 10000
set_option linter.unusedSimpArgs false
set_option linter.unusedVariables false
end Go.Proofs.YtedcnhbblgmdnaaGreat.Ab
namespace Go.Proofs.YtedcnhbblgmdnaaGreat.Ab
set_option maxHeartbeats 8000000
set_option maxRecDepth 10000
set_option linter.unusedSimpArgs false
set_option linter.unusedVariables false
/-- Whether there are values with a histogram's numbers. -/
def agrB (h : Hst) (q : Nat) (t : Int) : Bool := if h.c ≠ t then false else if t = 0 then decide (h.s = 0) && (decide (h.mn = 0) && decide (h.mx = 0)) else match h.bs[0]?, h.bs[h.bs.length - 1]? with
  | some f, some l => agr1 q h.s h.mn h.mx h.bs f l t
  | _, _ => false
theorem OA.permM {b : Nat} {s : St} {L : List (Nat × D × Nat × List Pd)} {M M' : List (Nat × Ob)} (h : OA b s L M) (hp : M.Perm M') : OA b s L M' :=
  ⟨h.free, h.own, h.dis, fun y hy => h.at_ y (hp.mem_iff.2 hy), fun y hy => h.nof y (hp.mem_iff.2 hy), (hp.pairwise_iff (fun hxy e => hxy e.symm)).1 h.dism⟩
theorem St.adv_adv (s : St) (m n : Nat) : (s.adv m).adv n = s.adv (m + n) := by simp [St.adv, Nat.add_assoc]
end Go.Proofs.YtedcnhbblgmdnaaGreat.Ab
namespace Go.Proofs.YtedcnhbblgmdnaaGreat.Ab
set_option maxHeartbeats 8000000
set_option maxRecDepth 10000
set_option linter.unusedSimpArgs false
set_option linter.unusedVariables false
/-- Why a list is no list of buckets, behind an index. -/
def bck (last : Int) : Int → List I2 → Int
  | _, [] => 0
  | p, b :: r => if b.1 < 0 ∨ last < b.1 ∨ b.2 < 1 ∨ 1048576 < b.2 then 2 else if b.1 ≤ p then 9 else bck last b.1 r
def prevB (l : List I2) (i : Nat) : Int := if i = 0 then -1 else ((l[i - 1]?).map (·.1)).getD 0
/-- Why a histogram is not valid. -/
def hck (h : Hst) : Int := if h.p < 0 ∨ 8 < h.p then 2 else if 500 < h.bs.length then 4 else if bck (ix h.p.toNat 1099511627776) (-1) h.bs ≠ 0 then bck (ix h.p.toNat 1099511627776) (-1) h.bs else if 1048576 < cnt h.bs then 4 else if agrB h h.p.toNat (cnt h.bs) = false then 10 else 0
end Go.Proofs.YtedcnhbblgmdnaaGreat.Ab
namespace Go.Proofs.YtedcnhbblgmdnaaGreat.Ab
set_option maxHeartbeats 8000000
set_option maxRecDepth 10000
set_option linter.unusedSimpArgs false
set_option linter.unusedVariables false
/-- What a histogram's reference functions ask. -/
structure HCx (h : Hst) (q : Nat) : Prop where
  q8 : q ≤ 8
  p : h.p = q
  bs : BsOK q h.bs
  n : h.bs.length ≤ 500
  c : cnt h.bs ≤ 1048576
  a : 0 ≤ h.mn
  b : h.mn ≤ h.mx
  d : h.mx ≤ 1099511627776
theorem HCx.lo {h : Hst} {q : Nat} (x : HCx h q) {b : I2} (hb : b ∈ h.bs) : b.1.toNat ≤ (41 - q) * 2 ^ q ∧ (Go.Proofs.YtedcnhbblgmdnaaGreat.Ab.lo q b.1.toNat : Int) ≤ 1099511627776 ∧ (hi q b.1.toNat : Int) ≤ 1099511627776 ∧ 1 ≤ b.2 ∧ 0 ≤ b.1 := by
  have h0 := x.bs.lo0 b hb
  have h1 : b.1.toNat ≤ (41 - q) * 2 ^ q := by omega
  have h2 := lo_last x.q8 h1
  have h3 : hi q b.1.toNat ≤ 1099511627776 := Nat.min_le_right _ _
  have h4 := x.bs.cn b hb
  omega
theorem HCx.lowR {h : Hst} {q : Nat} (x : HCx h q) {i : Nat} {b : I2} (hb : b ∈ h.bs) : 0 ≤ lowR q h.mn i b ∧ lowR q h.mn i b ≤ 1099511627776 := by
  have h1 := x.lo hb
  have := x.a; have := x.b; have := x.d
  unfold Go.Proofs.YtedcnhbblgmdnaaGreat.Ab.lowR
  split <;> omega
theorem HCx.highR {h : Hst} {q : Nat} (x : HCx h q) {i : Nat} {b : I2} (hb : b ∈ h.bs) : 0 ≤ highR q h.mx h.bs.length i b ∧ highR q h.mx h.bs.length i b ≤ 1099511627776 := by
  have h1 := x.lo hb
  have := x.a; have := x.b; have := x.d
  unfold Go.Proofs.YtedcnhbblgmdnaaGreat.Ab.highR
  split <;> omega
theorem HCx.mulB {h : Hst} {q : Nat} (x : HCx h q) {g : Nat → I2 → Int} (hg : ∀ (i : Nat) (b : I2), b ∈ h.bs → 0 ≤ g i b ∧ g i b ≤ 1099511627776) (i : Nat) : 0 ≤ sumI (fun i b => g i b * b.2) 0 (h.bs.take i) ∧ sumI (fun i b => g i b * b.2) 0 (h.bs.take i) ≤ 1099511627776 * cnt (h.bs.take i) := by
  refine sumI_bound (m := 1099511627776) fun j c hc => ?_
  have hcm := List.mem_of_mem_take (List.mem_of_getElem? hc)
  have h1 := hg (0 + j) c hcm
  have h2 := x.bs.cn c hcm
  exact ⟨Int.mul_nonneg h1.1 (by omega), Int.mul_le_mul_of_nonneg_right h1.2 (by omega)⟩
end Go.Proofs.YtedcnhbblgmdnaaGreat.Ab
namespace Go.Proofs.YtedcnhbblgmdnaaGreat.Ab
set_option maxHeartbeats 8000000
set_option maxRecDepth 10000
set_option linter.unusedSimpArgs false
set_option linter.unusedVariables false
end Go.Proofs.YtedcnhbblgmdnaaGreat.Ab
namespace Go.Proofs.YtedcnhbblgmdnaaGreat.Ab
set_option maxHeartbeats 8000000
set_option maxRecDepth 10000
set_option linter.unusedSimpArgs false
set_option linter.unusedVariables false
end Go.Proofs.YtedcnhbblgmdnaaGreat.Ab
namespace Go.Proofs.YtedcnhbblgmdnaaGreat.Ab
set_option maxHeartbeats 8000000
set_option maxRecDepth 10000
set_option linter.unusedSimpArgs false
set_option linter.unusedVariables false
/-- Whether a list is one of valid histograms, behind a time. -/
def vh : Int → List HSm → Bool
  | _, [] => true
  | p, x :: r => if x.t ≤ p ∨ 1099511627776 < x.t ∨ hck x.h ≠ 0 then false else vh x.t r
def validH (l : List HSm) : Bool := !(l.length == 0) && decide (l.length ≤ 2000) && vh 0 l
def prevH (l : List HSm) (i : Nat) : Int := if i = 0 then 0 else ((l[i - 1]?).map (·.t)).getD 0
/-- A series: labels, kind, samples, histograms. -/
structure Ser where
  lb : List Lb
  k : Int
  sm : List I2
  hs : List HSm
abbrev Ser.pd (x : Ser) : List Pd := [.lst x.lb.length (x.lb.flatMap lbP), pI x.k, .lst x.sm.length (x.sm.flatMap p2), .lst x.hs.length (x.hs.flatMap HSm.pd)]
/-- A series that isn't too long for the machine. -/
structure Ser.Sz (x : Ser) : Prop where
  lb : x.lb.length < 2^40
  ls : ∀ y ∈ x.lb, y.1.length < 2^50 ∧ y.2.length < 2^50
  sm : x.sm.length < 2^40
  hs : x.hs.length < 2^40
  hb : ∀ y ∈ x.hs, y.h.bs.length < 2^60
def serOK (x : Ser) : Bool := if lckA x.lb ≠ 0 then false else if x.k = 3 then (x.sm.length == 0) && validH x.hs else (x.hs.length == 0) && (!(x.sm.length == 0) && (sckA x.k x.sm == 0))
end Go.Proofs.YtedcnhbblgmdnaaGreat.Ab
namespace Go.Proofs.YtedcnhbblgmdnaaGreat.Ab
set_option maxHeartbeats 8000000
set_option maxRecDepth 10000
set_option linter.unusedSimpArgs false
set_option linter.unusedVariables false
end Go.Proofs.YtedcnhbblgmdnaaGreat.Ab
namespace Go.Proofs.YtedcnhbblgmdnaaGreat.Ab
set_option maxHeartbeats 4000000
set_option linter.unusedSimpArgs false
set_option linter.unusedVariables false
theorem encT_len {l : List Int} (h : (encT l).2 = 0) : (encT l).1.length ≤ 40 + 20 * l.length := by
  unfold encT at *
  by_cases hc : chkT l = 0
  · rw [if_pos hc]
    obtain ⟨hl2, hV⟩ := chkT_ok hc
    have hR : ∀ x ∈ l, inR x = true := fun x hx => by have := hV x hx; simp [inR]; omega
    have hD := diffs_mem hV
    have hDR : ∀ x ∈ diffs l, inR x = true := fun x hx => by have := hD x hx; simp [inR]; omega
    have hDD := diffs_mem hD
    have hDDR : (diffs (diffs l)).all inR = true := List.all_eq_true.2 fun d hd => by have := hDD d hd; simp [inR]; omega
    have hdl := diffs_len l
    have hddl := diffs_len (diffs l)
    have hrl := runE_len _ (diffs (diffs l)) (Nat.le_refl _) hDDR (by omega)
    have f1 := first1_len hR
    have f2 := first1_len hDR
    have hvl := vb_len10 (n := l.length) (by omega)
    simp only [List.length_append]
    omega
  · rw [if_neg hc] at h
    exact absurd h hc
theorem encV_len2 {l : List Int} (h : (encV l).2 = 0) : (encV l).1.length ≤ 40 + 20 * l.length := by
  unfold encV at *
  by_cases h1 : 20000 < l.length
  · rw [if_pos h1] at h; cases h
  rw [if_neg h1] at h ⊢
  by_cases h2 : l.all inV = true
  · rw [if_pos h2]
    have hV := inV_all h2
    have hR : ∀ x ∈ l, inR x = true := fun x hx => inV_R (List.all_eq_true.1 h2 x hx)
    have hdR : (diffs l).all inR = true := List.all_eq_true.2 fun d hd => by have := diffs_mem hV d hd; simp [inR]; omega
    have hdl := diffs_len l
    have hrl := runE_len _ (diffs l) (Nat.le_refl _) hdR (by omega)
    have f1 := first1_len hR
    have hvl := vb_len10 (n := l.length) (by omega)
    simp only [List.length_append]
    omega
  · rw [if_neg h2] at h; cases h
theorem encI_len2 {l : List Int} (h : (encI l).2 = 0) : (encI l).1.length ≤ 40 + 20 * l.length := by
  unfold encI at *
  by_cases h1 : 20000 < l.length
  · rw [if_pos h1] at h; cases h
  rw [if_neg h1] at h ⊢
  by_cases h2 : l.all inR = true
  · rw [if_pos h2]
    have hvl := vb_len10 (n := l.length) (by omega)
    have := encL_len l h2
    simp only [List.length_append]
    omega
  · rw [if_neg h2] at h; cases h
theorem encF_len {f : Int} {l : List Int} (h : (encF f l).2 = 0) : (encF f l).1.length ≤ 40 + 20 * l.length := by
  unfold encF at *
  split at h
  · rename_i h0; rw [if_pos h0]; exact encT_len h
  · split at h
    · rename_i h0 h1; rw [if_neg h0, if_pos h1]; exact encV_len2 h
    · rename_i h0 h1; rw [if_neg h0, if_neg h1]; exact encI_len2 h
/-- Encoded columns; none: one is too long. -/
def colsOK (cs : List (List UInt8 × Int)) : Option (List (List UInt8)) := if cs.all (fun c => c.2 == 0) then some (cs.map (·.1)) else none
theorem colsOK_cons (c : List UInt8 × Int) (r : List (List UInt8 × Int)) : colsOK (c :: r) = if c.2 = 0 then (match colsOK r with
    | some ss => some (c.1 :: ss)
    | none => none) else none := by
  unfold colsOK
  by_cases h : c.2 = 0
  · have hb : (c.2 == 0) = true := by simpa using h
    rw [if_pos h, List.all_cons, hb, Bool.true_and, List.map_cons]
    cases r.all (fun c => c.2 == 0) <;> rfl
  · have hb : (c.2 == 0) = false := by simpa using h
    rw [if_neg h, List.all_cons, hb, Bool.false_and]; rfl
theorem packE_cols {A : Type} (l : List A) : ∀ cols : List (Col A), packE l cols = colsOK (cols.map fun c => encF c.f (l.map c.get))
  | [] => rfl
  | c :: r => by rw [List.map_cons, colsOK_cons, packE, packE_cols l r]; rfl
def smpCs (l : List I2) : List (List UInt8 × Int) := [encT (l.map (·.1)), encV (l.map (·.2))]
def hstCs (l : List HSm) : List (List UInt8 × Int) :=
  [encT (l.map (·.t)), encV (l.map (·.h.p)), encV (l.map (·.h.c)), encV (l.map (·.h.mn)), encV (l.map (·.h.mx)), encV (l.map fun x => (x.h.bs.length : Int)), encV ((l.flatMap (·.h.bs)).map (·.1)), encV ((l.flatMap (·.h.bs)).map (·.2)), encI (l.map (·.h.s))]
/-! ### the parts, one behind the other -/
def flatP (ss : List (List UInt8)) : List UInt8 := ss.flatMap fun s => vb s.length ++ s
/-- What both encoders come to, out of the columns. -/
def encC (sig : Int) (lab : Pd) (z : List Pd) (t : List UInt8) (cs : List (List UInt8 × Int)) : D := match colsOK cs with
  | none => .tup [noCh, .c (.p (pI 4))]
  | some ss => finE sig lab z (jn t ss)
/-! ### zones -/
def zfold (l : List I2) : Zo := l.foldl (fun z p => z.add p.1 p.2) Zo.none
/-! ### what a valid series is -/
def serCs (x : Ser) : List (List UInt8 × Int) := if x.k = 3 then hstCs x.hs else smpCs x.sm
def serZ (x : Ser) : Zo := if x.k = 3 then zfold (x.hs.map fun y => (y.t, y.h.c)) else zfold x.sm
/-- The cells of a zone whose bits are clear. -/
abbrev Zo.pd (z : Zo) : List Pd := [pI z.c, pI z.t1, pI z.t2, pI z.v1, pI z.v2, .int .u32 0, .int .u32 0, .int .u32 0, .int .u32 0, .int .u32 0, .int .u32 0, .int .u32 0, .int .u32 0]
/-- What Encode comes to. -/
def encS (x : Ser) : D := if serOK x = false then .tup [noCh, .c (.p (pI 1))] else encC 1 (.lst x.lb.length (x.lb.flatMap lbP)) (serZ x).pd (appV [] x.k).1 (serCs x)
end Go.Proofs.YtedcnhbblgmdnaaGreat.Ab
namespace Go.Proofs.YtedcnhbblgmdnaaGreat.Ab
set_option maxHeartbeats 8000000
set_option maxRecDepth 10000
set_option linter.unusedSimpArgs false
set_option linter.unusedVariables false
theorem jn_pre {cs : List (List UInt8 × Int)} {ss : List (List UInt8)} {m : Nat} (h : colsOK cs = some ss) (hl : ∀ c ∈ cs, c.2 = 0 → c.1.length ≤ m) : ∀ s ∈ ss, s.length ≤ m := by
  unfold colsOK at h
  split at h
  · rename_i ha
    cases h
    intro s hs
    obtain ⟨c, hc, rfl⟩ := List.mem_map.1 hs
    exact hl c hc (by simpa using List.all_eq_true.1 ha c hc)
  · cases h
end Go.Proofs.YtedcnhbblgmdnaaGreat.Ab
namespace Go.Proofs.YtedcnhbblgmdnaaGreat.Ab
set_option maxHeartbeats 4000000
set_option maxRecDepth 10000
set_option linter.unusedSimpArgs false
set_option linter.unusedVariables false
/-- What is known of a frame. -/
def Fs (e : List D) (n : Nat) : List (Nat × D) → Prop
  | [] => e.length = n
  | (j, d) :: r => e.getD j .junk = d ∧ Fs e n r
theorem OA.newB {s : St} {c k : Nat} {o : Ob} {L : List (Nat × D × Nat × List Pd)} {M : List (Nat × Ob)} (h : OA k s L M) (hc : k < c) (hf : o.isFront = false) : OA c (s.put k o) L ((k, o) :: M) :=
  (h.new (Nat.le_refl _) hf).mono hc
theorem OA.advB {s : St} {c n : Nat} {L : List (Nat × D × Nat × List Pd)} {M : List (Nat × Ob)} (h : OA c s L M) : OA c (s.adv n) L M := h.adv
/-- One object is laid anew. -/
def OAs (c : Nat) (s : St) (L : List (Nat × D × Nat × List Pd)) (M1 : List (Nat × Ob)) (k : Nat) (M2 : List (Nat × Ob)) : Prop := ∃ o, OA c s L (M1 ++ (k, o) :: M2)
theorem OAs.adv {c n : Nat} {s : St} {L : List (Nat × D × Nat × List Pd)} {M1 M2 : List (Nat × Ob)} {k : Nat} (h : OAs c s L M1 k M2) : OAs c (s.adv n) L M1 k M2 := by
  obtain ⟨o, h⟩ := h; exact ⟨o, h.adv⟩
theorem OAs.put {c : Nat} {s : St} {L : List (Nat × D × Nat × List Pd)} {M1 M2 : List (Nat × Ob)} {k : Nat} {o' : Ob} (h : OAs c s L M1 k M2) (hf : o'.isFront = false := by rfl) : OAs c (s.put k o') L M1 k M2 := by
  obtain ⟨o, h⟩ := h; exact ⟨o', h.set hf⟩
theorem OA.ofS {c : Nat} {s : St} {L : List (Nat × D × Nat × List Pd)} {M1 M2 : List (Nat × Ob)} {k : Nat} {o' : Ob} (h : OAs c s L M1 k M2) (hf : o'.isFront = false := by rfl) : OA c (s.put k o') L (M1 ++ (k, o') :: M2) := by
  obtain ⟨o, h⟩ := h; exact h.set hf
attribute [go_sem] St.put_put
/-- An iterator whose rounds may also end it. -/
def IterG (g : Nat) (cap : List C) (H : St → Prop) (step : Nat → Nat → List V → Prop) (last : Nat → Prop) : Prop :=
  ∃ fn c, E0.fn g = some fn ∧ fn.body = some c ∧ ∀ (l : Nat) (J : Nat → St → Prop) (Z : St → Prop), (∀ i s n, J i s → J i (s.adv n)) → (∀ i s n k o, J i s → s.nx ≤ k → k < s.nx + n → J i ((s.adv n).put k o)) → (∀ s n, Z s → Z (s.adv n)) → (∀ i s, J i s → H s) →
    (∀ i k a s, J i s → step i k a → wpCall E0 (.v (.c (.fn (.yield l) [] []))) (a.map .v) s (fun d s' => (d = P' (.bool true) ∧ J k s') ∨ (d = P' (.bool false) ∧ Z s'))) →
    ∀ s, J 0 s → ∀ Q : D → St → Prop, (∀ d s' i, last i → J i s' → Q d s') → (∀ d s', Z s' → Q d s') →
      Wc E0 none c { e := (V.c (.fn (.yield l) [] []) :: cap.map .c).map .v ++ List.replicate (fn.ntmps - (V.c (.fn (.yield l) [] []) :: cap.map .c).length) (.tup []), ds := [], s := s } (bodyQ E0 fn Q)
/-- How a round ends. -/
def endG (R Z : Prop) : Ex → Prop
  | .normal => R
  | _ => Z
end Go.Proofs.YtedcnhbblgmdnaaGreat.Ab
namespace Go.Proofs.YtedcnhbblgmdnaaGreat.Ab
set_option maxHeartbeats 4000000
set_option linter.unusedSimpArgs false
set_option linter.unusedVariables false
/-! ### buckets of samples -/
structure Bkt where
  st : Int
  c : Int
  s : Int
  mn : Int
  mx : Int
  f : Int
  l : Int
  ft : Int
  lt : Int
  inc : Int
abbrev Bkt.pd (b : Bkt) : List Pd := [pI b.st, pI b.c, pI b.s, pI b.mn, pI b.mx, pI b.f, pI b.l, pI b.ft, pI b.lt, pI b.inc]
def stepV (a b : Int) : Int := if b < a then b else b - a
def startOf (w t : Int) : Int := (t - 1).tdiv w * w
def single (w : Int) (x : I2) : Bkt := ⟨startOf w x.1, 1, x.2, x.2, x.2, x.2, x.2, x.1, x.1, 0⟩
def minI (a b : Int) : Int := if b < a then b else a
def maxI (a b : Int) : Int := if b > a then b else a
def joinB (k : Int) (a b : Bkt) : Bkt := ⟨a.st, a.c + b.c, a.s + b.s, minI a.mn b.mn, maxI a.mx b.mx, a.f, b.l, a.ft, b.lt, if k = 2 then a.inc + b.inc + stepV a.l b.f else a.inc⟩
/-- Buckets with one more, which is later than all others. -/
def appB (k : Int) (l : List Bkt) (b : Bkt) : List Bkt := match l.getLast? with
  | none => [b]
  | some a => if a.st = b.st then l.dropLast ++ [joinB k a b] else l ++ [b]
def ofB (k w : Int) (l : List I2) : List Bkt := l.foldl (fun acc x => appB k acc (single w x)) []
/-- The samples of each bucket. -/
def pieces (w : Int) : List I2 → List (Int × List I2)
  | [] => []
  | x :: r => (startOf w x.1, x :: r.takeWhile fun y => decide (y.1 - startOf w x.1 ≤ w)) :: pieces w (r.dropWhile fun y => decide (y.1 - startOf w x.1 ≤ w))
termination_by l => l.length
decreasing_by
  have := (List.dropWhile_sublist (p := fun y : I2 => decide (y.1 - startOf w x.1 ≤ w)) (l := r)).length_le
  simp only [List.length_cons]
  omega
def incV : List I2 → Int
  | x :: y :: r => stepV x.2 y.2 + incV (y :: r)
  | _ => 0
def sumV (l : List I2) : Int := l.foldl (fun s x => s + x.2) 0
def sumB (k st : Int) (x : I2) (r : List I2) : Bkt := ⟨st, (x :: r).length, sumV (x :: r), (x :: r).foldl (fun m y => minI m y.2) x.2, (x :: r).foldl (fun m y => maxI m y.2) x.2, x.2, ((x :: r).getLast (by simp)).2, x.1, ((x :: r).getLast (by simp)).1, if k = 2 then incV (x :: r) else 0⟩
def sumP (k : Int) (p : Int × List I2) : List Bkt := match p.2 with
  | [] => []
  | x :: r => [sumB k p.1 x r]
def rollB (k w : Int) (l : List I2) : List Bkt := (pieces w l).flatMap (sumP k)
theorem appB_same {k : Int} {acc : List Bkt} {a b : Bkt} (h : a.st = b.st) : appB k (acc ++ [a]) b = acc ++ [joinB k a b] := by
  simp [appB, h]
theorem appB_new {k : Int} {acc : List Bkt} {b : Bkt} (h : ∀ a, acc.getLast? = some a → a.st ≠ b.st) : appB k acc b = acc ++ [b] := by
  unfold appB
  cases hl : acc.getLast? with
  | none => have := List.getLast?_eq_none_iff.1 hl; subst this; rfl
  | some a => simp only; rw [if_neg (h a hl)]
end Go.Proofs.YtedcnhbblgmdnaaGreat.Ab
