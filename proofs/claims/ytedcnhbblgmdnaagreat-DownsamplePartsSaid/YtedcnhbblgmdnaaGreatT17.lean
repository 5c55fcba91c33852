/- A part of the proof: an evaluator of the code, its contracts, the law. No condition. -/
import Derived.Test.YtedcnhbblgmdnaaGreatT16
import Derived.KernelRfl
namespace Go.Proofs.YtedcnhbblgmdnaaGreat.Ab
set_option maxHeartbeats 4000000
set_option maxRecDepth 10000
set_option linter.unusedSimpArgs false
set_option linter.unusedVariables false
/-- A valid sample. -/
def smpOK (x : I2) : Bool := isT x.1 && isVl x.2
/-- 85: a valid sample -/
theorem pf209 (x : I2) : Pf E0 209 [.agg ((p2 x).map .p)] (P' (.bool (smpOK x))) := by
  refine Pf.body (fn := Tryz.f209) (by kernel_rfl) rfl ?_; simp only [List.map_cons, List.map_nil, List.cons_append, List.nil_append, List.length_cons, List.length_nil, Tryz.ntmps209, List.replicate, Nat.reduceSub, Nat.reduceAdd]
  refine Wc.seq ?_
  refine Wc.reg fun K hK => ?_; simp only [go_sem, ti3, ti9, ti5, ti4, ti32, ti23, ti39]; refine hK _ _ ?_; clear hK K
  refine Wc.seq ?_
  by_cases h1 : 1 ≤ x.1
  · by_cases h2 : x.1 ≤ 1099511627776
    · by_cases h3 : -1099511627776 ≤ x.2
      · refine Wc.reg fun K hK => ?_; simp only [go_sem, ti3, ti9, ti5, ti4, ti32, ti23, ti39, h1, h2, h3]; refine hK _ _ ?_; clear hK K
        exact Wc.ret (Pf.ret [.tmp 2] [.c (.p (.bool (smpOK x)))] rfl rfl (by simp only [resultsD, go_sem, ti3, ti9, ti5, ti4, ti32, ti23, ti39, smpOK, isT, isVl, h1, h2, h3]) rfl)
      · refine Wc.reg fun K hK => ?_; simp only [go_sem, ti3, ti9, ti5, ti4, ti32, ti23, ti39, h1, h2, h3]; refine hK _ _ ?_; clear hK K
        exact Wc.ret (Pf.ret [.tmp 2] [.c (.p (.bool (smpOK x)))] rfl rfl (by simp only [resultsD, go_sem, ti3, ti9, ti5, ti4, ti32, ti23, ti39, smpOK, isT, isVl, h1, h2, h3]) rfl)
    · refine Wc.reg fun K hK => ?_; simp only [go_sem, ti3, ti9, ti5, ti4, ti32, ti23, ti39, h1, h2]; refine hK _ _ ?_; clear hK K
      exact Wc.ret (Pf.ret [.tmp 2] [.c (.p (.bool (smpOK x)))] rfl rfl (by simp only [resultsD, go_sem, ti3, ti9, ti5, ti4, ti32, ti23, ti39, smpOK, isT, isVl, h1, h2]) rfl)
  · refine Wc.reg fun K hK => ?_; simp only [go_sem, ti3, ti9, ti5, ti4, ti32, ti23, ti39, h1]; refine hK _ _ ?_; clear hK K
    exact Wc.ret (Pf.ret [.tmp 2] [.c (.p (.bool (smpOK x)))] rfl rfl (by simp only [resultsD, go_sem, ti3, ti9, ti5, ti4, ti32, ti23, ti39, smpOK, isT, isVl, h1]) rfl)
/-- Why a list is none of a kind's samples, behind a time. -/
def sck (k : Int) : Option Int → List I2 → Int
  | _, [] => 0
  | p, x :: r => if smpOK x = false ∨ (k = 2 ∧ x.2 < 0) then 2 else match p with
    | some y => if x.1 ≤ y then 9 else sck k (some x.1) r
    | none => sck k (some x.1) r
def sckA (k : Int) (l : List I2) : Int := if k ≠ 1 ∧ k ≠ 2 then 8 else if 2000 < l.length then 4 else sck k none l
def prevT (l : List I2) (i : Nat) : Option Int := if i = 0 then none else (l[i - 1]?).map (·.1)
theorem sck_step {k : Int} {l : List I2} {i : Nat} {x : I2} (h : l[i]? = some x) : sck k (prevT l i) (l.drop i) = if smpOK x = false ∨ (k = 2 ∧ x.2 < 0) then 2 else match prevT l i with
    | some y => if x.1 ≤ y then 9 else sck k (prevT l (i + 1)) (l.drop (i + 1))
    | none => sck k (prevT l (i + 1)) (l.drop (i + 1)) := by
  have hi := (List.getElem?_eq_some_iff.1 h).1
  have hx := (List.getElem?_eq_some_iff.1 h).2
  have hp : prevT l (i + 1) = some x.1 := by simp [prevT, h]
  rw [List.drop_eq_getElem_cons hi, hx, hp]
  cases prevT l i <;> rfl
theorem sck_end (k : Int) (p : Option Int) : sck k p [] = 0 := by cases p <;> rfl
def sB (k : Int) (x : I2) : Bool := !(smpOK x) || ((k == 2) && decide (x.2 < 0))
theorem sB_iff {k : Int} {x : I2} : sB k x = true ↔ (smpOK x = false ∨ (k = 2 ∧ x.2 < 0)) := by simp [sB]
/-- 47: samples checked -/
theorem pf135 (k : Int) (l : List I2) (hl : l.length < 2^40) : Pf E0 135 [.c (.p (pI k)), .c (.p (.lst l.length (l.flatMap p2)))] (P' (pI (sckA k l))) := by
  have hfl : (l.flatMap p2).length = l.length * 2 := flat_len (k := 2) (fun _ => rfl) l
  refine Pf.body (fn := Tryz.f135) (by kernel_rfl) rfl ?_; simp only [List.map_cons, List.map_nil, List.cons_append, List.nil_append, List.length_cons, List.length_nil, Tryz.ntmps135, List.replicate, Nat.reduceSub, Nat.reduceAdd]
  refine Wc.seq ?_
  refine Wc.reg fun K hK => ?_; simp only [go_sem, ti3, ti9, ti5, ti4, ti32, ti23, ti39]; refine hK _ _ ?_; clear hK K
  refine Wc.seqR (fun y => (k = 1 ∨ k = 2) ∧ y.ds = [] ∧ y.e.length = 51 ∧ y.e.getD 0 .junk = P' (pI k) ∧ y.e.getD 1 .junk = P' (.lst l.length (l.flatMap p2))) ?_ ?_
  · refine Wc.seq ?_
    by_cases h1 : k = 1
    · have b1 : (k != 1) = false := by simpa using h1
      refine Wc.reg fun K hK => ?_; simp only [go_sem, ti3, ti9, ti5, ti4, ti32, ti23, ti39, b1]; refine hK _ _ ?_; clear hK K
      refine Wc.cond (t := false) (by simp only [go_sem, ti3, ti9, ti5, ti4, ti32, ti23, ti39, b1]) (fun hc => by cases hc) (fun _ => Wc.skip ⟨.inl h1, rfl, rfl, rfl, rfl⟩)
    · have b1 : (k != 1) = true := by simpa using h1
      refine Wc.reg fun K hK => ?_; simp only [go_sem, ti3, ti9, ti5, ti4, ti32, ti23, ti39, b1]; refine hK _ _ ?_; clear hK K
      refine Wc.cond (t := (k != 2)) (by simp only [go_sem, ti3, ti9, ti5, ti4, ti32, ti23, ti39, b1]) (fun hc => ?_) (fun hc => ?_)
      · have h2 : k ≠ 2 := by simpa using hc
        refine Wc.seq ?_
        refine Wc.reg fun K hK => ?_; simp only [go_sem, ti3, ti9, ti5, ti4, ti32, ti23, ti39]; refine hK _ _ ?_; clear hK K
        have e : sckA k l = 8 := by unfold sckA; rw [if_pos ⟨h1, h2⟩]
        rw [e]
        exact Wc.ret (Pf.ret [.tmp 4] [.c (.p (pI 8))] rfl rfl (by simp only [resultsD, go_sem, ti3, ti9, ti5, ti4, ti32, ti23, ti39]) rfl)
      · have h2 : k = 2 := by simpa using hc
        exact Wc.skip ⟨.inr h2, rfl, rfl, rfl, rfl⟩
  rintro ⟨e, ds, s1⟩ ⟨hk, rfl, hlen, h0, h1⟩
  simp only at hlen h0 h1
  have eK : sckA k l = if 2000 < l.length then 4 else sck k none l := by unfold sckA; rw [if_neg (by omega)]
  refine Wc.seq (Wc.seq ?_)
  refine Wc.reg fun K hK => ?_; simp only [go_sem, ti3, ti9, ti5, ti4, ti32, ti23, ti39, hlen, h0, h1]; refine hK _ _ ?_; clear hK K
  refine Wc.cond (t := decide ((2000 : Int) < l.length)) (by simp only [go_sem, ti3, ti9, ti5, ti4, ti32, ti23, ti39, hlen]) (fun hc => ?_) (fun hc => ?_)
  · have hc' : 2000 < l.length := by have : (2000 : Int) < l.length := by simpa using hc
                                     omega
    refine Wc.seq ?_
    refine Wc.reg fun K hK => ?_; simp only [go_sem, ti3, ti9, ti5, ti4, ti32, ti23, ti39, hlen]; refine hK _ _ ?_; clear hK K
    rw [eK, if_pos hc']
    exact Wc.ret (Pf.ret [.tmp 4] [.c (.p (pI 4))] rfl rfl (by simp only [resultsD, go_sem, ti3, ti9, ti5, ti4, ti32, ti23, ti39, hlen]) rfl)
  have hc' : ¬ 2000 < l.length := by have : ¬ (2000 : Int) < l.length := by simpa using hc
                                     omega
  rw [if_neg hc'] at eK
  have e0 : sckA k l = sck k (prevT l 0) (l.drop 0) := eK
  refine Wc.skip (Wc.seqR (fun y => sckA k l = 0 ∧ y.ds = [] ∧ y.e.length = 51) ?_ ?_)
  · refine Wc.seq ?_
    refine Wc.reg fun K hK => ?_; simp only [go_sem, ti3, ti9, ti5, ti4, ti32, ti23, ti39, hlen, h0, h1, Int.natCast_zero]; refine hK _ _ ?_; clear hK K
    refine Wc.block (Wc.loop (fun q y => ∃ i : Nat, q = l.length - i ∧ i ≤ l.length ∧ y.ds = [] ∧ y.e.length = 51 ∧ y.e.getD 0 .junk = P' (pI k) ∧ y.e.getD 1 .junk = P' (.lst l.length (l.flatMap p2)) ∧ y.e.getD 16 .junk = P' (.lst l.length (l.flatMap p2)) ∧ y.e.getD 17 .junk = P' (pI l.length) ∧ y.e.getD 18 .junk = P' (pI i) ∧ sckA k l = sck k (prevT l i) (l.drop i)) ?_ (k := l.length) ?_)
    · clear hlen h0 h1 e s1
      rintro q ⟨e, ds, s1⟩ ⟨i, rfl, hi, rfl, hlen, h0, h1, h16, h17, h18, hch⟩
      simp only at hlen h0 h1 h16 h17 h18
      refine Wc.seq ?_
      refine Wc.reg fun K hK => ?_; simp only [go_sem, ti3, ti9, ti5, ti4, ti32, ti23, ti39, hlen, h0, h1, h16, h17, h18]; refine hK _ _ ?_; clear hK K
      refine Wc.seq (Wc.cond (t := decide ((i : Int) < l.length)) (by simp only [go_sem, ti3, ti9, ti5, ti4, ti32, ti23, ti39, hlen]) (fun hc => ?_) (fun hc => ?_))
      · have hil : i < l.length := by have : (i : Int) < l.length := by simpa using hc
                                      omega
        obtain ⟨x, hx⟩ : ∃ x, l[i]? = some x := ⟨l[i], List.getElem?_eq_getElem hil⟩
        have hix := ixA ti23 rfl ti39 (j := i) (m := l.length) (cs := l.flatMap p2) hil hfl (by decide)
        have hca := rpA (off := i * 2) (drop_flat (f := p2) (k := 2) (fun _ => rfl) hx) (by rw [hfl]; omega)
        rw [sck_step hx] at hch
        have bad : (smpOK x = false ∨ (k = 2 ∧ x.2 < 0)) → sckA k l = 2 := fun h => by rw [hch, if_pos h]
        refine Wc.skip (Wc.seq (Wc.block (Wc.seq ?_)))
        refine Wc.reg fun K hK => ?_; simp only [go_sem, ti3, ti9, ti5, ti4, ti32, ti23, ti39, hlen, h0, h1, h16, h17, h18, hix, hca]; refine hK _ _ ?_; clear hK K
        refine Wc.block (Wc.seqA (fun y => y.ds = [] ∧ y.e.length = 51 ∧ y.e.getD 0 .junk = P' (pI k) ∧ y.e.getD 1 .junk = P' (.lst l.length (l.flatMap p2)) ∧ y.e.getD 16 .junk = P' (.lst l.length (l.flatMap p2)) ∧ y.e.getD 17 .junk = P' (pI l.length) ∧ y.e.getD 18 .junk = P' (pI i) ∧ y.e.getD 5 .junk = P' (pI i) ∧ y.e.getD 6 .junk = .v (.c (.ref (s1.nx + 4) 0)) ∧ y.s.get (s1.nx + 4) = some (.cells ((p2 x).map .p) false) ∧ y.e.getD 23 .junk = P' (.bool (sB k x))) ?_ ?_)
        · refine Wc.reg fun K hK => ?_; simp only [go_sem, ti3, ti9, ti5, ti4, ti32, ti23, ti39, hlen, h0, h1, h16, h17, h18]
          refine wpCall.pf (pf209 x) (by kernel_rfl) (by kernel_rfl) rfl rfl ?_
          cases hsm : smpOK x with
          | false =>
            have hk2 : True := trivial
            simp only [go_sem, ti3, ti9, ti5, ti4, ti32, ti23, ti39, hlen, h0, h1, h16, h17, h18]; refine hK _ _ ?_; clear hK K
            exact ⟨rfl, rfl, by simp only [go_sem, ti3, ti9, ti5, ti4, ti32, ti23, ti39, hlen], by simp only [go_sem, ti3, ti9, ti5, ti4, ti32, ti23, ti39, hlen, h0], by simp only [go_sem, ti3, ti9, ti5, ti4, ti32, ti23, ti39, hlen, h1], by simp only [go_sem, ti3, ti9, ti5, ti4, ti32, ti23, ti39, hlen, h16], by simp only [go_sem, ti3, ti9, ti5, ti4, ti32, ti23, ti39, hlen, h17], by simp only [go_sem, ti3, ti9, ti5, ti4, ti32, ti23, ti39, hlen, h18], by simp only [go_sem, ti3, ti9, ti5, ti4, ti32, ti23, ti39, hlen], by simp only [go_sem, ti3, ti9, ti5, ti4, ti32, ti23, ti39, hlen], by simp only [go_sem, ti3, ti9, ti5, ti4, ti32, ti23, ti39], by simp only [go_sem, ti3, ti9, ti5, ti4, ti32, ti23, ti39, hlen, sB, hsm, hk2, Bool.true_or, Bool.false_or, Bool.or_self]⟩
          | true =>
            by_cases hk3 : k = 2
            · have hk2 : (k == 2) = true := by simpa using hk3
              simp only [go_sem, ti3, ti9, ti5, ti4, ti32, ti23, ti39, hlen, h0, h1, h16, h17, h18, hk2]; refine hK _ _ ?_; clear hK K
              exact ⟨rfl, rfl, by simp only [go_sem, ti3, ti9, ti5, ti4, ti32, ti23, ti39, hlen], by simp only [go_sem, ti3, ti9, ti5, ti4, ti32, ti23, ti39, hlen, h0], by simp only [go_sem, ti3, ti9, ti5, ti4, ti32, ti23, ti39, hlen, h1], by simp only [go_sem, ti3, ti9, ti5, ti4, ti32, ti23, ti39, hlen, h16], by simp only [go_sem, ti3, ti9, ti5, ti4, ti32, ti23, ti39, hlen, h17], by simp only [go_sem, ti3, ti9, ti5, ti4, ti32, ti23, ti39, hlen, h18], by simp only [go_sem, ti3, ti9, ti5, ti4, ti32, ti23, ti39, hlen], by simp only [go_sem, ti3, ti9, ti5, ti4, ti32, ti23, ti39, hlen], by simp only [go_sem, ti3, ti9, ti5, ti4, ti32, ti23, ti39], by simp only [go_sem, ti3, ti9, ti5, ti4, ti32, ti23, ti39, hlen, sB, hsm, hk2, Bool.true_or, Bool.false_or, Bool.or_self]⟩
            · have hk2 : (k == 2) = false := by simpa using hk3
              simp only [go_sem, ti3, ti9, ti5, ti4, ti32, ti23, ti39, hlen, h0, h1, h16, h17, h18, hk2]; refine hK _ _ ?_; clear hK K
              exact ⟨rfl, rfl, by simp only [go_sem, ti3, ti9, ti5, ti4, ti32, ti23, ti39, hlen], by simp only [go_sem, ti3, ti9, ti5, ti4, ti32, ti23, ti39, hlen, h0], by simp only [go_sem, ti3, ti9, ti5, ti4, ti32, ti23, ti39, hlen, h1], by simp only [go_sem, ti3, ti9, ti5, ti4, ti32, ti23, ti39, hlen, h16], by simp only [go_sem, ti3, ti9, ti5, ti4, ti32, ti23, ti39, hlen, h17], by simp only [go_sem, ti3, ti9, ti5, ti4, ti32, ti23, ti39, hlen, h18], by simp only [go_sem, ti3, ti9, ti5, ti4, ti32, ti23, ti39, hlen], by simp only [go_sem, ti3, ti9, ti5, ti4, ti32, ti23, ti39, hlen], by simp only [go_sem, ti3, ti9, ti5, ti4, ti32, ti23, ti39], by simp only [go_sem, ti3, ti9, ti5, ti4, ti32, ti23, ti39, hlen, sB, hsm, hk2, Bool.true_or, Bool.false_or, Bool.or_self]⟩
        · rintro ⟨e, ds, s2⟩ ⟨rfl, hlen, h0, h1, h16, h17, h18, h5, h6, hg, h23⟩
          simp only at hlen h0 h1 h16 h17 h18 h5 h6 hg h23
          refine Wc.cond (t := sB k x) (by simp only [go_sem, ti3, ti9, ti5, ti4, ti32, ti23, ti39, h23]) (fun hc => ?_) (fun hc => ?_)
          · refine Wc.seq ?_
            refine Wc.reg fun K hK => ?_; simp only [go_sem, ti3, ti9, ti5, ti4, ti32, ti23, ti39, hlen]; refine hK _ _ ?_; clear hK K
            rw [bad (sB_iff.1 hc)]
            exact Wc.ret (Pf.ret [.tmp 4] [.c (.p (pI 2))] rfl rfl (by simp only [resultsD, go_sem, ti3, ti9, ti5, ti4, ti32, ti23, ti39, hlen]) rfl)
          rw [if_neg (fun h => by rw [sB_iff.2 h] at hc; cases hc)] at hch
          refine Wc.seq ?_
          by_cases hi0 : 0 < i
          · obtain ⟨y, hy⟩ : ∃ y, l[i - 1]? = some y := ⟨l[i - 1], List.getElem?_eq_getElem (by omega)⟩
            have hiy := ixA ti23 rfl ti39 (j := i - 1) (m := l.length) (cs := l.flatMap p2) (by omega) hfl (by decide)
            have hcb := rpA (off := (i - 1) * 2) (drop_flat (f := p2) (k := 2) (fun _ => rfl) hy) (by rw [hfl]; omega)
            have e1 : IntKind.i64.wrap ((i : Int) - 1) = ((i - 1 : Nat) : Int) := by rw [wi64]; omega
            have hd : (0 < (i : Int)) = True := by simp; omega
            have hpr : prevT l i = some y.1 := by unfold prevT; rw [if_neg (by omega), hy]; rfl
            rw [hpr] at hch
            simp only [List.map_cons, List.map_nil] at hch hg
            refine Wc.regD fun K hK => ?_; simp only [go_sem, ti3, ti9, ti5, ti4, ti32, ti23, ti39, hlen, h0, h1, h16, h17, h18, h5, h6, hg, hiy, hcb, e1, hd]; refine hK _ _ ?_; clear hK K
            refine Wc.cond (t := decide (x.1 ≤ y.1)) (by simp only [go_sem, ti3, ti9, ti5, ti4, ti32, ti23, ti39, hlen, hd]) (fun hc => ?_) (fun hc => ?_)
            · have hxy : x.1 ≤ y.1 := by simpa using hc
              rw [if_pos hxy] at hch
              refine Wc.seq ?_
              refine Wc.reg fun K hK => ?_; simp only [go_sem, ti3, ti9, ti5, ti4, ti32, ti23, ti39, hlen]; refine hK _ _ ?_; clear hK K
              rw [hch]
              exact Wc.ret (Pf.ret [.tmp 4] [.c (.p (pI 9))] rfl rfl (by simp only [resultsD, go_sem, ti3, ti9, ti5, ti4, ti32, ti23, ti39, hlen]) rfl)
            · have hxy : ¬ x.1 ≤ y.1 := by simpa using hc
              rw [if_neg hxy] at hch
              refine Wc.skip ?_
              refine Wc.reg fun K hK => ?_; simp only [go_sem, ti3, ti9, ti5, ti4, ti32, ti23, ti39, hlen, h0, h1, h16, h17, h18, i64n i (by omega)]; refine hK _ _ ?_; clear hK K
              exact ⟨l.length - (i + 1), by omega, i + 1, rfl, by omega, rfl, by simp only [go_sem, ti3, ti9, ti5, ti4, ti32, ti23, ti39, hlen], by simp only [go_sem, ti3, ti9, ti5, ti4, ti32, ti23, ti39, hlen, h0], by simp only [go_sem, ti3, ti9, ti5, ti4, ti32, ti23, ti39, hlen, h1], by simp only [go_sem, ti3, ti9, ti5, ti4, ti32, ti23, ti39, hlen, h16], by simp only [go_sem, ti3, ti9, ti5, ti4, ti32, ti23, ti39, hlen, h17], by simp only [go_sem, ti3, ti9, ti5, ti4, ti32, ti23, ti39, hlen], hch⟩
          · have hd : (0 < (i : Int)) = False := by simp; omega
            have hpr : prevT l i = none := by unfold prevT; rw [if_pos (by omega)]
            rw [hpr] at hch
            simp only at hch
            refine Wc.regD fun K hK => ?_; simp only [go_sem, ti3, ti9, ti5, ti4, ti32, ti23, ti39, hlen, h0, h1, h16, h17, h18, h5, hd]; refine hK _ _ ?_; clear hK K
            refine Wc.cond (t := false) (by simp only [go_sem, ti3, ti9, ti5, ti4, ti32, ti23, ti39, hlen, hd]) (fun hc => by cases hc) (fun hc => ?_)
            refine Wc.skip ?_
            refine Wc.reg fun K hK => ?_; simp only [go_sem, ti3, ti9, ti5, ti4, ti32, ti23, ti39, hlen, h0, h1, h16, h17, h18, i64n i (by omega)]; refine hK _ _ ?_; clear hK K
            exact ⟨l.length - (i + 1), by omega, i + 1, rfl, by omega, rfl, by simp only [go_sem, ti3, ti9, ti5, ti4, ti32, ti23, ti39, hlen], by simp only [go_sem, ti3, ti9, ti5, ti4, ti32, ti23, ti39, hlen, h0], by simp only [go_sem, ti3, ti9, ti5, ti4, ti32, ti23, ti39, hlen, h1], by simp only [go_sem, ti3, ti9, ti5, ti4, ti32, ti23, ti39, hlen, h16], by simp only [go_sem, ti3, ti9, ti5, ti4, ti32, ti23, ti39, hlen, h17], by simp only [go_sem, ti3, ti9, ti5, ti4, ti32, ti23, ti39, hlen], hch⟩
      · have hil : i = l.length := by have : ¬ (i : Int) < l.length := by simpa using hc
                                      omega
        rw [hil, List.drop_length, sck_end] at hch
        exact Wc.exit ⟨hch, rfl, by simp only [go_sem, ti3, ti9, ti5, ti4, ti32, ti23, ti39, hlen]⟩
    · exact ⟨0, rfl, by omega, rfl, by simp only [go_sem, ti3, ti9, ti5, ti4, ti32, ti23, ti39, hlen], by simp only [go_sem, ti3, ti9, ti5, ti4, ti32, ti23, ti39, hlen, h0], by simp only [go_sem, ti3, ti9, ti5, ti4, ti32, ti23, ti39, hlen, h1], by simp only [go_sem, ti3, ti9, ti5, ti4, ti32, ti23, ti39, hlen, h1], by simp only [go_sem, ti3, ti9, ti5, ti4, ti32, ti23, ti39, hlen, h1], by simp only [go_sem, ti3, ti9, ti5, ti4, ti32, ti23, ti39, hlen]; rfl, e0⟩
  · rintro ⟨e, ds, s1⟩ ⟨hch, rfl, hlen⟩
    simp only at hlen
    rw [hch]
    refine Wc.seq ?_
    refine Wc.reg fun K hK => ?_; simp only [go_sem, ti3, ti9, ti5, ti4, ti32, ti23, ti39, hlen]; refine hK _ _ ?_; clear hK K
    exact Wc.ret (Pf.ret [.tmp 4] [.c (.p (pI 0))] rfl rfl (by simp only [resultsD, go_sem, ti3, ti9, ti5, ti4, ti32, ti23, ti39, hlen]) rfl)
end Go.Proofs.YtedcnhbblgmdnaaGreat.Ab
/- Histograms' buckets: the plain law of their bounds. -/
namespace Go.Proofs.YtedcnhbblgmdnaaGreat.Ab
set_option linter.unusedVariables false
set_option linter.unusedSimpArgs false
/-- The number of bits. -/
def blen (v : Nat) : Nat := if v = 0 then 0 else v.log2 + 1
theorem blen_iff {v m : Nat} : blen v = m + 1 ↔ 2 ^ m ≤ v ∧ v < 2 ^ (m + 1) := by
  unfold blen
  by_cases h : v = 0
  · subst h
    simp only [if_true]
    constructor
    · intro h; omega
    · rintro ⟨h1, _⟩
      have := Nat.two_pow_pos m
      omega
  · rw [if_neg h, Nat.add_right_cancel_iff]
    exact Nat.log2_eq_iff h
theorem blen_pos {v : Nat} (h : 0 < v) : ∃ m, blen v = m + 1 ∧ 2 ^ m ≤ v ∧ v < 2 ^ (m + 1) := by
  refine ⟨v.log2, ?_, ?_⟩
  · unfold blen; rw [if_neg (by omega)]
  · exact (Nat.log2_eq_iff (by omega)).1 rfl
theorem blen_shift {v n : Nat} (h : 2 ^ n ≤ v) : blen v = n + blen (v / 2 ^ n) := by
  have hp := Nat.two_pow_pos n
  obtain ⟨m, h1, h2, h3⟩ := blen_pos (Nat.div_pos h hp)
  rw [h1, ← Nat.add_assoc]
  refine blen_iff.2 ⟨?_, ?_⟩
  · rw [Nat.pow_add, Nat.mul_comm]
    exact (Nat.le_div_iff_mul_le hp).1 h2
  · rw [Nat.add_assoc, Nat.pow_add, Nat.mul_comm]
    exact (Nat.div_lt_iff_lt_mul hp).1 h3
/-- The index of a value's bucket. -/
def ix (q v : Nat) : Nat := if v < 2 ^ (q + 1) then v else 2 ^ q + ix q (v / 2)
termination_by v
decreasing_by
  have := Nat.two_pow_pos (q + 1)
  omega
theorem ix_lt {q v : Nat} (h : v < 2 ^ (q + 1)) : ix q v = v := by rw [ix, if_pos h]
theorem ix_ge {q v : Nat} (h : 2 ^ (q + 1) ≤ v) : ix q v = 2 ^ q + ix q (v / 2) := by rw [ix, if_neg (by omega)]
theorem ix_closed (q : Nat) : ∀ k v, 2 ^ (q + k) ≤ v → v < 2 ^ (q + k + 1) → ix q v = k * 2 ^ q + v / 2 ^ k
  | 0, v, h1, h2 => by rw [ix_lt (by simpa using h2)]; simp
  | k + 1, v, h1, h2 => by
    have e1 : 2 ^ (q + (k + 1)) = 2 ^ (q + k) * 2 := by rw [← Nat.add_assoc, Nat.pow_succ]
    have e2 : 2 ^ (q + (k + 1) + 1) = 2 ^ (q + k + 1) * 2 := by rw [Nat.pow_succ, ← Nat.add_assoc]
    have h3 : 2 ^ (q + 1) ≤ v := Nat.le_trans (Nat.pow_le_pow_right (by decide) (by omega)) h1
    rw [ix_ge h3, ix_closed q k (v / 2) (by omega) (by omega), Nat.div_div_eq_div_mul, Nat.add_mul, Nat.pow_succ, Nat.mul_comm 2]
    omega
/-- How often a bucket's width is doubled. -/
def kf (q i : Nat) : Nat := i / 2 ^ q - 1
def lo (q i : Nat) : Nat := (i - kf q i * 2 ^ q) * 2 ^ kf q i
def hiU (q i : Nat) : Nat := lo q i + 2 ^ kf q i - 1
def hi (q i : Nat) : Nat := min (hiU q i) 1099511627776
theorem kf_of {q k r : Nat} (h1 : 2 ^ q ≤ r) (h2 : r < 2 ^ q * 2) : kf q (k * 2 ^ q + r) = k := by
  have hp := Nat.two_pow_pos q
  unfold kf
  have : (k * 2 ^ q + r) / 2 ^ q = k + 1 := by
    rw [Nat.div_eq_iff hp]
    rw [Nat.add_mul]
    omega
  omega
theorem lo_of {q k r : Nat} (h1 : 2 ^ q ≤ r) (h2 : r < 2 ^ q * 2) : lo q (k * 2 ^ q + r) = r * 2 ^ k := by
  unfold lo; rw [kf_of h1 h2, Nat.add_sub_cancel_left]
theorem lo_small {q i : Nat} (h : i < 2 ^ q) : lo q i = i ∧ kf q i = 0 := by
  have : kf q i = 0 := by unfold kf; rw [Nat.div_eq_of_lt h]
  exact ⟨by unfold lo; rw [this]; simp, this⟩
/-- Every index is one of the two. -/
theorem ix_form (q i : Nat) : i < 2 ^ q ∨ ∃ k r, i = k * 2 ^ q + r ∧ 2 ^ q ≤ r ∧ r < 2 ^ q * 2 := by
  have hp := Nat.two_pow_pos q
  rcases Nat.lt_or_ge i (2 ^ q) with h | h
  · exact .inl h
  · refine .inr ⟨i / 2 ^ q - 1, 2 ^ q + i % 2 ^ q, ?_, by omega, by have := Nat.mod_lt i hp; omega⟩
    have h1 : 1 ≤ i / 2 ^ q := (Nat.le_div_iff_mul_le hp).2 (by omega)
    have h2 := Nat.div_add_mod i (2 ^ q)
    have h3 : (i / 2 ^ q - 1) * 2 ^ q + 2 ^ q = 2 ^ q * (i / 2 ^ q) := by
      rw [Nat.sub_mul, Nat.one_mul, Nat.mul_comm (2 ^ q)]
      have : 1 * 2 ^ q ≤ i / 2 ^ q * 2 ^ q := Nat.mul_le_mul_right _ h1
      omega
    omega
theorem hiU_succ (q i : Nat) : hiU q i + 1 = lo q (i + 1) := by
  have hp := Nat.two_pow_pos q
  rcases ix_form q i with h | ⟨k, r, rfl, h1, h2⟩
  · obtain ⟨h3, h4⟩ := lo_small h
    have : lo q (i + 1) = i + 1 := by
      rcases Nat.lt_or_ge (i + 1) (2 ^ q) with h5 | h5
      · exact (lo_small h5).1
      · have h6 : i + 1 = 0 * 2 ^ q + 2 ^ q := by omega
        rw [h6, lo_of (Nat.le_refl _) (by omega)]; simp
    unfold hiU
    rw [h3, h4, this]; simp
  · have hk := Nat.two_pow_pos k
    have e : hiU q (k * 2 ^ q + r) + 1 = (r + 1) * 2 ^ k := by
      unfold hiU; rw [lo_of h1 h2, kf_of h1 h2, Nat.add_mul]; omega
    rw [e]
    rcases Nat.lt_or_ge (r + 1) (2 ^ q * 2) with h5 | h5
    · rw [Nat.add_assoc, lo_of (by omega) h5]
    · have h6 : k * 2 ^ q + r + 1 = (k + 1) * 2 ^ q + 2 ^ q := by rw [Nat.add_mul]; omega
      have h7 : r + 1 = 2 ^ q * 2 := by omega
      rw [h6, lo_of (Nat.le_refl _) (by omega), h7, Nat.pow_succ, Nat.mul_assoc, Nat.mul_comm 2]
theorem lo_hiU (q i : Nat) : lo q i ≤ hiU q i := by
  have := Nat.two_pow_pos (kf q i)
  unfold hiU; omega
theorem lo_mono {q i j : Nat} (h : i ≤ j) : lo q i ≤ lo q j := by
  induction h with
  | refl => exact Nat.le_refl _
  | step _ ih => have := hiU_succ q; rename_i m _; have h1 := this m; have h2 := lo_hiU q m; simp only [Nat.succ_eq_add_one]; omega
/-- A value lies in its bucket. -/
theorem lo_ix (q v : Nat) : lo q (ix q v) ≤ v ∧ v ≤ hiU q (ix q v) := by
  have hp := Nat.two_pow_pos q
  rcases Nat.lt_or_ge v (2 ^ q) with h | h
  · rw [ix_lt (by rw [Nat.pow_succ]; omega)]
    obtain ⟨h3, h4⟩ := lo_small h
    unfold hiU
    rw [h3, h4]; simp
  · obtain ⟨m, _, h1, h2⟩ := blen_pos (v := v) (by omega)
    have hqm : q ≤ m := by
      rcases Nat.lt_or_ge m q with h3 | h3
      · exfalso
        have : 2 ^ (m + 1) ≤ 2 ^ q := Nat.pow_le_pow_right (by decide) h3
        omega
      · exact h3
    obtain ⟨k, rfl⟩ := Nat.exists_eq_add_of_le hqm
    have hk := Nat.two_pow_pos k
    rw [ix_closed q k v h1 h2]
    have a1 : 2 ^ q ≤ v / 2 ^ k := (Nat.le_div_iff_mul_le hk).2 (by rw [← Nat.pow_add]; exact h1)
    have a2 : v / 2 ^ k < 2 ^ q * 2 := by
      rw [Nat.div_lt_iff_lt_mul hk, ← Nat.pow_succ, ← Nat.pow_add]
      have e : q.succ + k = q + k + 1 := by omega
      rw [e]; exact h2
    unfold hiU
    rw [lo_of a1 a2, kf_of a1 a2]
    have := Nat.div_add_mod v (2 ^ k)
    have h5 := Nat.mod_lt v hk
    rw [Nat.mul_comm (v / 2 ^ k)]
    omega
/-- The last index. -/
theorem ix_last : ∀ q, q ≤ 8 → ix q 1099511627776 = (41 - q) * 2 ^ q := by
  intro q hq
  have e1 : q + (40 - q) = 40 := by omega
  have h := ix_closed q (40 - q) 1099511627776 (by rw [e1]; decide) (by rw [e1]; decide)
  rw [h]
  have : q = 0 ∨ q = 1 ∨ q = 2 ∨ q = 3 ∨ q = 4 ∨ q = 5 ∨ q = 6 ∨ q = 7 ∨ q = 8 := by omega
  rcases this with rfl | rfl | rfl | rfl | rfl | rfl | rfl | rfl | rfl <;> decide
theorem lo_last {q i : Nat} (hq : q ≤ 8) (h : i ≤ (41 - q) * 2 ^ q) : lo q i ≤ 1099511627776 := by
  refine Nat.le_trans (lo_mono h) ?_
  rw [← ix_last q hq]
  exact (lo_ix q 1099511627776).1
end Go.Proofs.YtedcnhbblgmdnaaGreat.Ab
namespace Go.Proofs.YtedcnhbblgmdnaaGreat.Ab
set_option maxHeartbeats 4000000
set_option maxRecDepth 10000
set_option linter.unusedSimpArgs false
set_option linter.unusedVariables false
theorem shrN (k : IntKind) (v n : Nat) (h : n ≤ k.bits) : shrI k (v : Int) (n : Int) = ((v / 2 ^ n : Nat) : Int) := by
  unfold shrI
  rw [Int.toNat_natCast, Nat.min_eq_left h, Int.fdiv_eq_ediv_of_nonneg _ (by exact_mod_cast Nat.zero_le _)]
  exact_mod_cast rfl
theorem shlN (v n : Nat) (h : n ≤ 64) (hb : v * 2 ^ n < 2 ^ 63) : shlI .i64 (v : Int) (n : Int) = ((v * 2 ^ n : Nat) : Int) := by
  unfold shlI
  rw [Int.toNat_natCast, Nat.min_eq_left (show n ≤ IntKind.i64.bits from h), wi64]
  have : ((v : Int) * 2 ^ n) = ((v * 2 ^ n : Nat) : Int) := by exact_mod_cast rfl
  rw [this]; omega
abbrev ltab : List UInt8 := (([0, 1, 2, 2, 3, 3, 3, 3, 4, 4, 4, 4, 4, 4, 4, 4, 5, 5, 5, 5, 5, 5, 5, 5, 5, 5, 5, 5, 5, 5, 5, 5, 6, 6, 6, 6, 6, 6, 6, 6, 6, 6, 6, 6, 6, 6, 6, 6, 6, 6, 6, 6, 6, 6, 6, 6, 6, 6, 6, 6, 6, 6, 6, 6].append [7, 7, 7, 7, 7, 7, 7, 7, 7, 7, 7, 7, 7, 7, 7, 7, 7, 7, 7, 7, 7, 7, 7, 7, 7, 7, 7, 7, 7, 7, 7, 7, 7, 7, 7, 7, 7, 7, 7, 7, 7, 7, 7, 7, 7, 7, 7, 7, 7, 7, 7, 7, 7, 7, 7, 7, 7, 7, 7, 7, 7, 7, 7, 7]).append ([8, 8, 8, 8, 8, 8, 8, 8, 8, 8, 8, 8, 8, 8, 8, 8, 8, 8, 8, 8, 8, 8, 8, 8, 8, 8, 8, 8, 8, 8, 8, 8, 8, 8, 8, 8, 8, 8, 8, 8, 8, 8, 8, 8, 8, 8, 8, 8, 8, 8, 8, 8, 8, 8, 8, 8, 8, 8, 8, 8, 8, 8, 8, 8].append [8, 8, 8, 8, 8, 8, 8, 8, 8, 8, 8, 8, 8, 8, 8, 8, 8, 8, 8, 8, 8, 8, 8, 8, 8, 8, 8, 8, 8, 8, 8, 8, 8, 8, 8, 8, 8, 8, 8, 8, 8, 8, 8, 8, 8, 8, 8, 8, 8, 8, 8, 8, 8, 8, 8, 8, 8, 8, 8, 8, 8, 8, 8, 8]))
theorem ltab_get : ∀ w : Fin 256, ltab[w.val]? = some (UInt8.ofNat (blen w.val)) := by decide +kernel
theorem blen_le8 : ∀ w : Fin 256, blen w.val ≤ 8 := by decide +kernel
/-- 159: Len64 -/
theorem pf287 (v : Nat) (hv : v < 2^64) : Pf E0 287 [.c (.p (.int .u64 v))] (P' (pI (blen v))) := by
  refine Pf.body (fn := Tryz.f287) (by kernel_rfl) rfl ?_; simp only [List.map_cons, List.map_nil, List.cons_append, List.nil_append, List.length_cons, List.length_nil, Tryz.ntmps287, List.replicate, Nat.reduceSub, Nat.reduceAdd]
  refine Wc.seq ?_
  refine Wc.reg fun K hK => ?_; simp only [go_sem, ti3, ti9, ti5, ti4, ti32, ti216, ti232, ti91, Int.natCast_zero]; refine hK _ _ ?_; clear hK K
  have step : ∀ (w k n : Nat), blen v = n + blen w → 2 ^ k ≤ w → blen v = (n + k) + blen (w / 2 ^ k) := fun w k n h1 h2 => by rw [h1, blen_shift h2]; omega
  refine Wc.seqA (fun y => ∃ w n, y.ds = [] ∧ y.e.length = 25 ∧ y.e.getD 0 .junk = P' (.int .u64 (w : Nat)) ∧ y.e.getD 2 .junk = P' (pI (n : Nat)) ∧ blen v = n + blen w ∧ w < 2^32 ∧ n ≤ 32) ?_ ?_
  · refine Wc.seq ?_
    refine Wc.reg fun K hK => ?_; simp only [go_sem, ti3, ti9, ti5, ti4, ti32, ti216, ti232, ti91]; refine hK _ _ ?_; clear hK K
    refine Wc.cond (t := decide ((4294967296 : Int) ≤ (v : Int))) (by simp only [go_sem, ti3, ti9, ti5, ti4, ti32, ti216, ti232, ti91]) (fun hc => ?_) (fun hc => ?_)
    · have hge : 4294967296 ≤ v := by have : (4294967296 : Int) ≤ v := by simpa using hc
                                      omega
      have e1 : shrI .u64 (v : Int) 32 = ((v / 2 ^ 32 : Nat) : Int) := shrN .u64 v 32 (by decide)
      refine Wc.seq ?_
      refine Wc.reg fun K hK => ?_; simp only [go_sem, ti3, ti9, ti5, ti4, ti32, ti216, ti232, ti91, e1]; refine hK _ _ ?_; clear hK K
      refine Wc.reg fun K hK => ?_; simp only [go_sem, ti3, ti9, ti5, ti4, ti32, ti216, ti232, ti91]; refine hK _ _ ?_; clear hK K
      exact ⟨rfl, v / 2 ^ 32, 32, rfl, rfl, rfl, rfl, step v 32 0 (by simp) (by omega), by omega, by omega⟩
    · have hlt : v < 4294967296 := by have : ¬ (4294967296 : Int) ≤ v := by simpa using hc
                                      omega
      exact Wc.skip ⟨rfl, v, 0, rfl, rfl, rfl, rfl, by simp, hlt, by omega⟩
  rintro ⟨e, ds, s1⟩ ⟨w, n, rfl, hlen, h0, h2, hb, hw, hn⟩
  simp only at hlen h0 h2
  refine Wc.seqA (fun y => ∃ w n, y.ds = [] ∧ y.e.length = 25 ∧ y.e.getD 0 .junk = P' (.int .u64 (w : Nat)) ∧ y.e.getD 2 .junk = P' (pI (n : Nat)) ∧ blen v = n + blen w ∧ w < 2^16 ∧ n ≤ 48) ?_ ?_
  · refine Wc.seq ?_
    refine Wc.reg fun K hK => ?_; simp only [go_sem, ti3, ti9, ti5, ti4, ti32, ti216, ti232, ti91, hlen, h0, h2]; refine hK _ _ ?_; clear hK K
    refine Wc.cond (t := decide ((65536 : Int) ≤ (w : Int))) (by simp only [go_sem, ti3, ti9, ti5, ti4, ti32, ti216, ti232, ti91, hlen]) (fun hc => ?_) (fun hc => ?_)
    · have hge : 65536 ≤ w := by have : (65536 : Int) ≤ w := by simpa using hc
                                 omega
      have e1 : shrI .u64 (w : Int) 16 = ((w / 2 ^ 16 : Nat) : Int) := shrN .u64 w 16 (by decide)
      have e2 : IntKind.i64.wrap ((n : Int) + 16) = ((n + 16 : Nat) : Int) := by rw [wi64]; omega
      refine Wc.seq ?_
      refine Wc.reg fun K hK => ?_; simp only [go_sem, ti3, ti9, ti5, ti4, ti32, ti216, ti232, ti91, hlen, h0, h2, e1]; refine hK _ _ ?_; clear hK K
      refine Wc.reg fun K hK => ?_; simp only [go_sem, ti3, ti9, ti5, ti4, ti32, ti216, ti232, ti91, hlen, h0, h2, e2]; refine hK _ _ ?_; clear hK K
      exact ⟨rfl, w / 2 ^ 16, n + 16, rfl, by simp only [go_sem, ti3, ti9, ti5, ti4, ti32, ti216, ti232, ti91, hlen], by simp only [go_sem, ti3, ti9, ti5, ti4, ti32, ti216, ti232, ti91, hlen], by simp only [go_sem, ti3, ti9, ti5, ti4, ti32, ti216, ti232, ti91, hlen], step w 16 n hb (by omega), by omega, by omega⟩
    · have hlt : w < 65536 := by have : ¬ (65536 : Int) ≤ w := by simpa using hc
                                 omega
      exact Wc.skip ⟨rfl, w, n, rfl, by simp only [go_sem, ti3, ti9, ti5, ti4, ti32, ti216, ti232, ti91, hlen], by simp only [go_sem, ti3, ti9, ti5, ti4, ti32, ti216, ti232, ti91, hlen, h0], by simp only [go_sem, ti3, ti9, ti5, ti4, ti32, ti216, ti232, ti91, hlen, h2], hb, hlt, by omega⟩
  clear hlen h0 h2 hb hw hn e s1
  rintro ⟨e, ds, s1⟩ ⟨w, n, rfl, hlen, h0, h2, hb, hw, hn⟩
  simp only at hlen h0 h2
  refine Wc.seqA (fun y => ∃ w n, y.ds = [] ∧ y.e.length = 25 ∧ y.e.getD 0 .junk = P' (.int .u64 (w : Nat)) ∧ y.e.getD 2 .junk = P' (pI (n : Nat)) ∧ blen v = n + blen w ∧ w < 2^8 ∧ n ≤ 56) ?_ ?_
  · refine Wc.seq ?_
    refine Wc.reg fun K hK => ?_; simp only [go_sem, ti3, ti9, ti5, ti4, ti32, ti216, ti232, ti91, hlen, h0, h2]; refine hK _ _ ?_; clear hK K
    refine Wc.cond (t := decide ((256 : Int) ≤ (w : Int))) (by simp only [go_sem, ti3, ti9, ti5, ti4, ti32, ti216, ti232, ti91, hlen]) (fun hc => ?_) (fun hc => ?_)
    · have hge : 256 ≤ w := by have : (256 : Int) ≤ w := by simpa using hc
                               omega
      have e1 : shrI .u64 (w : Int) 8 = ((w / 2 ^ 8 : Nat) : Int) := shrN .u64 w 8 (by decide)
      have e2 : IntKind.i64.wrap ((n : Int) + 8) = ((n + 8 : Nat) : Int) := by rw [wi64]; omega
      refine Wc.seq ?_
      refine Wc.reg fun K hK => ?_; simp only [go_sem, ti3, ti9, ti5, ti4, ti32, ti216, ti232, ti91, hlen, h0, h2, e1]; refine hK _ _ ?_; clear hK K
      refine Wc.reg fun K hK => ?_; simp only [go_sem, ti3, ti9, ti5, ti4, ti32, ti216, ti232, ti91, hlen, h0, h2, e2]; refine hK _ _ ?_; clear hK K
      exact ⟨rfl, w / 2 ^ 8, n + 8, rfl, by simp only [go_sem, ti3, ti9, ti5, ti4, ti32, ti216, ti232, ti91, hlen], by simp only [go_sem, ti3, ti9, ti5, ti4, ti32, ti216, ti232, ti91, hlen], by simp only [go_sem, ti3, ti9, ti5, ti4, ti32, ti216, ti232, ti91, hlen], step w 8 n hb (by omega), by omega, by omega⟩
    · have hlt : w < 256 := by have : ¬ (256 : Int) ≤ w := by simpa using hc
                               omega
      exact Wc.skip ⟨rfl, w, n, rfl, by simp only [go_sem, ti3, ti9, ti5, ti4, ti32, ti216, ti232, ti91, hlen], by simp only [go_sem, ti3, ti9, ti5, ti4, ti32, ti216, ti232, ti91, hlen, h0], by simp only [go_sem, ti3, ti9, ti5, ti4, ti32, ti216, ti232, ti91, hlen, h2], hb, hlt, by omega⟩
  clear hlen h0 h2 hb hw hn e s1
  rintro ⟨e, ds, s1⟩ ⟨w, n, rfl, hlen, h0, h2, hb, hw, hn⟩
  simp only at hlen h0 h2
  refine Wc.seq ?_
  have e1 : IntKind.u8.wrap (w : Int) = w := by rw [wu8]; omega
  have ht := ltab_get ⟨w, hw⟩
  have hb8 := blen_le8 ⟨w, hw⟩
  simp only at ht hb8
  have e2 : (UInt8.ofNat (blen w)).toNat = blen w := by simp; omega
  have e3 : IntKind.i64.wrap ((blen w : Nat) : Int) = blen w := by rw [wi64]; omega
  have e4 : IntKind.i64.wrap ((n : Int) + (blen w : Nat)) = blen v := by rw [wi64, hb]; omega
  refine Wc.reg fun K hK => ?_; simp only [go_sem, ti3, ti9, ti5, ti4, ti32, ti216, ti232, ti91, hlen, h0, h2, e1, ht, pdOfByte, e2, e3, e4]; refine hK _ _ ?_; clear hK K
  exact Wc.ret (Pf.ret [.tmp 2] [.c (.p (pI (blen v)))] rfl rfl (by simp only [resultsD, go_sem, ti3, ti9, ti5, ti4, ti32, ti216, ti232, ti91, hlen]) rfl)
/-- 155: Len -/
theorem pf270 (v : Nat) (hv : v < 2^64) : Pf E0 270 [.c (.p (.int .u64 v))] (P' (pI (blen v))) := by
  refine Pf.body (fn := Tryz.f270) (by kernel_rfl) rfl ?_; simp only [List.map_cons, List.map_nil, List.cons_append, List.nil_append, List.length_cons, List.length_nil, Tryz.ntmps270, List.replicate, Nat.reduceSub, Nat.reduceAdd]
  refine Wc.seq ?_
  refine Wc.reg fun K hK => ?_; simp only [go_sem, ti3, ti9, ti5, ti4, ti32, ti216, ti232, ti91]; refine hK _ _ ?_; clear hK K
  refine Wc.seq (Wc.cond (t := false) (by simp only [go_sem, ti3, ti9, ti5, ti4, ti32, ti216, ti232, ti91]) (fun hc => by cases hc) (fun _ => Wc.skip (Wc.seq ?_)))
  refine Wc.reg fun K hK => ?_; simp only [go_sem, ti3, ti9, ti5, ti4, ti32, ti216, ti232, ti91]
  refine wpCall.pf (pf287 v hv) (by kernel_rfl) (by kernel_rfl) rfl rfl ?_
  simp only [go_sem, ti3, ti9, ti5, ti4, ti32, ti216, ti232, ti91]; refine hK _ _ ?_; clear hK K
  exact Wc.ret (Pf.ret [.tmp 2] [.c (.p (pI (blen v)))] rfl rfl (by simp only [resultsD, go_sem, ti3, ti9, ti5, ti4, ti32, ti216, ti232, ti91]) rfl)
/-- 141: index -/
theorem pf247 (q v : Nat) (hq : q ≤ 8) (hv : v ≤ 1099511627776) : Pf E0 247 [.c (.p (pI q)), .c (.p (pI v))] (P' (pI (ix q v))) := by
  have p8 : 2 ^ q ≤ 2 ^ 8 := Nat.pow_le_pow_right (by decide) hq
  have p0 := Nat.two_pow_pos q
  have ps : 2 ^ (q + 1) = 2 ^ q * 2 := Nat.pow_succ ..
  have s1 : shlI .i64 1 (q : Int) = ((2 ^ q : Nat) : Int) := by have := shlN 1 q (by omega) (by omega); simpa using this
  have hq0 : ((q : Int) < 0) = False := by simp
  refine Pf.body (fn := Tryz.f247) (by kernel_rfl) rfl ?_; simp only [List.map_cons, List.map_nil, List.cons_append, List.nil_append, List.length_cons, List.length_nil, Tryz.ntmps247, List.replicate, Nat.reduceSub, Nat.reduceAdd]
  refine Wc.seq ?_
  refine Wc.reg fun K hK => ?_; simp only [go_sem, ti3, ti9, ti5, ti4, ti32, ti216, ti232, ti91]; refine hK _ _ ?_; clear hK K
  refine Wc.seq (Wc.seq ?_)
  refine Wc.reg fun K hK => ?_; simp only [go_sem, ti3, ti9, ti5, ti4, ti32, ti216, ti232, ti91, s1, hq0]; refine hK _ _ ?_; clear hK K
  refine Wc.cond (t := decide ((v : Int) < ((2 ^ q : Nat) : Int))) (by simp only [go_sem, ti3, ti9, ti5, ti4, ti32, ti216, ti232, ti91, s1]) (fun hc => ?_) (fun hc => ?_)
  · have hlt : v < 2 ^ q := by have : (v : Int) < ((2 ^ q : Nat) : Int) := by simpa using hc
                               omega
    rw [ix_lt (by omega)]
    refine Wc.seq ?_
    refine Wc.reg fun K hK => ?_; simp only [go_sem, ti3, ti9, ti5, ti4, ti32, ti216, ti232, ti91]; refine hK _ _ ?_; clear hK K
    exact Wc.ret (Pf.ret [.tmp 4] [.c (.p (pI v))] rfl rfl (by simp only [resultsD, go_sem, ti3, ti9, ti5, ti4, ti32, ti216, ti232, ti91]) rfl)
  · have hge : 2 ^ q ≤ v := by have : ¬ (v : Int) < ((2 ^ q : Nat) : Int) := by simpa using hc
                               omega
    obtain ⟨m, hm, h1, h2⟩ := blen_pos (v := v) (by omega)
    have hqm : q ≤ m := by
      rcases Nat.lt_or_ge m q with h3 | h3
      · have : 2 ^ (m + 1) ≤ 2 ^ q := Nat.pow_le_pow_right (by decide) h3
        omega
      · exact h3
    obtain ⟨k, rfl⟩ := Nat.exists_eq_add_of_le hqm
    have hk40 : q + k ≤ 40 := by
      rcases Nat.lt_or_ge 40 (q + k) with h3 | h3
      · have : 2 ^ 41 ≤ 2 ^ (q + k) := Nat.pow_le_pow_right (by decide) h3
        omega
      · exact h3
    have ixe := ix_closed q k v h1 h2
    have kb : k * 2 ^ q ≤ 40 * 2 ^ 8 := Nat.mul_le_mul (by omega) p8
    have vb' : v / 2 ^ k ≤ v := Nat.div_le_self _ _
    have c1 : IntKind.u64.wrap (v : Int) = v := by rw [wu64]; omega
    have c2 : IntKind.i64.wrap (((q + (k + 1) : Nat) : Int) - 1) = ((q + k : Nat) : Int) := by rw [wi64]; omega
    have c3 : IntKind.i64.wrap (((q + k : Nat) : Int) - q) = (k : Int) := by rw [wi64]; omega
    have c4 : shlI .i64 (k : Int) (q : Int) = ((k * 2 ^ q : Nat) : Int) := shlN k q (by omega) (by omega)
    have c5 : shrI .i64 (v : Int) (k : Int) = ((v / 2 ^ k : Nat) : Int) := shrN .i64 v k (by show k ≤ 64; omega)
    have c6 : IntKind.i64.wrap (((k * 2 ^ q : Nat) : Int) + ((v / 2 ^ k : Nat) : Int)) = ((ix q v : Nat) : Int) := by rw [wi64, ixe]; omega
    have hk0 : ((k : Int) < 0) = False := by simp
    refine Wc.skip (Wc.seq ?_)
    refine Wc.reg fun K hK => ?_; simp only [go_sem, ti3, ti9, ti5, ti4, ti32, ti216, ti232, ti91, c1]
    refine wpCall.pf (pf270 v (by omega)) (by kernel_rfl) (by kernel_rfl) rfl rfl ?_
    simp only [go_sem, ti3, ti9, ti5, ti4, ti32, ti216, ti232, ti91, hm, c2, c3]; refine hK _ _ ?_; clear hK K
    refine Wc.seq ?_
    refine Wc.regD fun K hK => ?_; simp only [go_sem, ti3, ti9, ti5, ti4, ti32, ti216, ti232, ti91, hq0, hk0, c4, c5, c6]; refine hK _ _ ?_; clear hK K
    exact Wc.ret (Pf.ret [.tmp 4] [.c (.p (pI (ix q v)))] rfl rfl (by simp only [resultsD, go_sem, ti3, ti9, ti5, ti4, ti32, ti216, ti232, ti91]) rfl)
end Go.Proofs.YtedcnhbblgmdnaaGreat.Ab
namespace Go.Proofs.YtedcnhbblgmdnaaGreat.Ab
set_option maxHeartbeats 4000000
set_option maxRecDepth 10000
set_option linter.unusedSimpArgs false
set_option linter.unusedVariables false
theorem kf_le {q i : Nat} (hi : i ≤ (41 - q) * 2 ^ q) : kf q i ≤ 40 - q := by
  have hp := Nat.two_pow_pos q
  have : i / 2 ^ q ≤ 41 - q := by
    have h1 := Nat.div_le_div_right (c := 2 ^ q) hi
    rwa [Nat.mul_div_cancel _ hp] at h1
  unfold kf; omega
/-- The part that a bucket's bounds are made of. -/
theorem part_lt (q i : Nat) : i - kf q i * 2 ^ q < 2 ^ q * 2 := by
  have hp := Nat.two_pow_pos q
  rcases ix_form q i with h | ⟨k, r, rfl, h1, h2⟩
  · rw [(lo_small h).2]; omega
  · rw [kf_of h1 h2]; omega
theorem pow_bound {q i : Nat} (hq : q ≤ 8) (hi : i ≤ (41 - q) * 2 ^ q) : lo q i + 2 ^ kf q i ≤ 2 ^ 42 ∧ 2 ^ kf q i ≤ 2 ^ 40 := by
  have hk := kf_le hi
  have h1 := part_lt q i
  have h2 : 2 ^ kf q i ≤ 2 ^ (40 - q) := Nat.pow_le_pow_right (by decide) hk
  have h3 : (2 ^ q * 2) * 2 ^ (40 - q) = 2 ^ 41 := by
    rw [← Nat.pow_succ, ← Nat.pow_add]
    congr 1
    omega
  have h4 : lo q i + 2 ^ kf q i ≤ (2 ^ q * 2) * 2 ^ kf q i := by
    unfold lo
    rw [← Nat.succ_mul]
    exact Nat.mul_le_mul_right _ h1
  have h5 : (2 ^ q * 2) * 2 ^ kf q i ≤ (2 ^ q * 2) * 2 ^ (40 - q) := Nat.mul_le_mul_left _ h2
  have h6 : 2 ^ (40 - q) ≤ 2 ^ 40 := Nat.pow_le_pow_right (by decide) (by omega)
  omega
/-- 124: isPrecision -/
theorem pf210 (n : Int) : Pf E0 210 [.c (.p (pI n))] (P' (.bool (decide (0 ≤ n ∧ n ≤ 8)))) := by
  refine Pf.body (fn := Tryz.f210) (by kernel_rfl) rfl ?_; simp only [List.map_cons, List.map_nil, List.cons_append, List.nil_append, List.length_cons, List.length_nil, Tryz.ntmps210, List.replicate, Nat.reduceSub, Nat.reduceAdd]
  refine Wc.seq ?_
  refine Wc.reg fun K hK => ?_; simp only [go_sem, ti3, ti9, ti5, ti4, ti32]; refine hK _ _ ?_; clear hK K
  refine Wc.seq ?_
  by_cases h : 0 ≤ n
  · refine Wc.reg fun K hK => ?_; simp only [go_sem, ti3, ti9, ti5, ti4, ti32, h]; refine hK _ _ ?_; clear hK K
    exact Wc.ret (Pf.ret [.tmp 2] [.c (.p (.bool (decide (0 ≤ n ∧ n ≤ 8))))] rfl rfl (by simp only [resultsD, go_sem, ti3, ti9, ti5, ti4, ti32, h]) rfl)
  · refine Wc.reg fun K hK => ?_; simp only [go_sem, ti3, ti9, ti5, ti4, ti32, h]; refine hK _ _ ?_; clear hK K
    exact Wc.ret (Pf.ret [.tmp 2] [.c (.p (.bool (decide (0 ≤ n ∧ n ≤ 8))))] rfl rfl (by simp only [resultsD, go_sem, ti3, ti9, ti5, ti4, ti32, h]) rfl)
/-- 142: isValue -/
theorem pf248 (n : Int) : Pf E0 248 [.c (.p (pI n))] (P' (.bool (decide (0 ≤ n ∧ n ≤ 1099511627776)))) := by
  refine Pf.body (fn := Tryz.f248) (by kernel_rfl) rfl ?_; simp only [List.map_cons, List.map_nil, List.cons_append, List.nil_append, List.length_cons, List.length_nil, Tryz.ntmps248, List.replicate, Nat.reduceSub, Nat.reduceAdd]
  refine Wc.seq ?_
  refine Wc.reg fun K hK => ?_; simp only [go_sem, ti3, ti9, ti5, ti4, ti32]; refine hK _ _ ?_; clear hK K
  refine Wc.seq ?_
  by_cases h : 0 ≤ n
  · refine Wc.reg fun K hK => ?_; simp only [go_sem, ti3, ti9, ti5, ti4, ti32, h]; refine hK _ _ ?_; clear hK K
    exact Wc.ret (Pf.ret [.tmp 2] [.c (.p (.bool (decide (0 ≤ n ∧ n ≤ 1099511627776))))] rfl rfl (by simp only [resultsD, go_sem, ti3, ti9, ti5, ti4, ti32, h]) rfl)
  · refine Wc.reg fun K hK => ?_; simp only [go_sem, ti3, ti9, ti5, ti4, ti32, h]; refine hK _ _ ?_; clear hK K
    exact Wc.ret (Pf.ret [.tmp 2] [.c (.p (.bool (decide (0 ≤ n ∧ n ≤ 1099511627776))))] rfl rfl (by simp only [resultsD, go_sem, ti3, ti9, ti5, ti4, ti32, h]) rfl)
/-- 125: lastIndex -/
theorem pf211 (q : Nat) (hq : q ≤ 8) : Pf E0 211 [.c (.p (pI q))] (P' (pI (ix q 1099511627776))) := by
  refine Pf.body (fn := Tryz.f211) (by kernel_rfl) rfl ?_; simp only [List.map_cons, List.map_nil, List.cons_append, List.nil_append, List.length_cons, List.length_nil, Tryz.ntmps211, List.replicate, Nat.reduceSub, Nat.reduceAdd]
  refine Wc.seq ?_
  refine Wc.reg fun K hK => ?_; simp only [go_sem, ti3, ti9, ti5, ti4, ti32]; refine hK _ _ ?_; clear hK K
  refine Wc.seq ?_
  refine Wc.reg fun K hK => ?_; simp only [go_sem, ti3, ti9, ti5, ti4, ti32]
  refine wpCall.pf (pf247 q 1099511627776 hq (by decide)) (by kernel_rfl) (by kernel_rfl) rfl rfl ?_
  simp only [go_sem, ti3, ti9, ti5, ti4, ti32]; refine hK _ _ ?_; clear hK K
  exact Wc.ret (Pf.ret [.tmp 2] [.c (.p (pI (ix q 1099511627776)))] rfl rfl (by simp only [resultsD, go_sem, ti3, ti9, ti5, ti4, ti32]) rfl)
end Go.Proofs.YtedcnhbblgmdnaaGreat.Ab
namespace Go.Proofs.YtedcnhbblgmdnaaGreat.Ab
set_option maxHeartbeats 4000000
set_option maxRecDepth 10000
set_option linter.unusedSimpArgs false
set_option linter.unusedVariables false
theorem min2 (a b : Int) : foldO minD (.v (.c (.p (.int .i64 a)))) [.v (.c (.p (.int .i64 b)))] = some (.v (.c (.p (.int .i64 (min a b))))) := by
  simp only [foldO, minD, P', if_true, Option.some.injEq, D.v.injEq, V.c.injEq, C.p.injEq, Pd.int.injEq, true_and, decide_eq_true_eq]
  split <;> omega
theorem max2 (a b : Int) : foldO maxD (.v (.c (.p (.int .i64 a)))) [.v (.c (.p (.int .i64 b)))] = some (.v (.c (.p (.int .i64 (max a b))))) := by
  simp only [foldO, maxD, P', if_true, Option.some.injEq, D.v.injEq, V.c.injEq, C.p.injEq, Pd.int.injEq, true_and, decide_eq_true_eq]
  split <;> omega
theorem kf_mul_le {q i : Nat} : kf q i * 2 ^ q ≤ i := by
  have hp := Nat.two_pow_pos q
  rcases ix_form q i with h | ⟨k, r, rfl, h1, h2⟩
  · rw [(lo_small h).2]; omega
  · rw [kf_of h1 h2]; omega
/-- 157: bounds -/
theorem pf272 (q i : Nat) (hq : q ≤ 8) (hb : i ≤ (41 - q) * 2 ^ q) : Pf E0 272 [.c (.p (pI q)), .c (.p (pI i))] (.tup [.c (.p (pI (lo q i))), .c (.p (pI (hi q i)))]) := by
  have p8 : 2 ^ q ≤ 2 ^ 8 := Nat.pow_le_pow_right (by decide) hq
  have p0 := Nat.two_pow_pos q
  have s1 : shlI .i64 1 (q : Int) = ((2 ^ q : Nat) : Int) := by have := shlN 1 q (by omega) (by omega); simpa using this
  have hq0 : ((q : Int) < 0) = False := by simp
  obtain ⟨b1, b2⟩ := pow_bound hq hb
  have bi : i ≤ 41 * 2 ^ 8 := Nat.le_trans hb (Nat.mul_le_mul (by omega) p8)
  refine Pf.body (fn := Tryz.f272) (by kernel_rfl) rfl ?_; simp only [List.map_cons, List.map_nil, List.cons_append, List.nil_append, List.length_cons, List.length_nil, Tryz.ntmps272, List.replicate, Nat.reduceSub, Nat.reduceAdd]
  refine Wc.seq ?_
  refine Wc.reg fun K hK => ?_; simp only [go_sem, ti3, ti9, ti5, ti4, ti32]; refine hK _ _ ?_; clear hK K
  refine Wc.seq (Wc.seq ?_)
  refine Wc.reg fun K hK => ?_; simp only [go_sem, ti3, ti9, ti5, ti4, ti32, s1, hq0]; refine hK _ _ ?_; clear hK K
  refine Wc.cond (t := decide ((i : Int) < ((2 ^ q : Nat) : Int))) (by simp only [go_sem, ti3, ti9, ti5, ti4, ti32, s1]) (fun hc => ?_) (fun hc => ?_)
  · have hlt : i < 2 ^ q := by have : (i : Int) < ((2 ^ q : Nat) : Int) := by simpa using hc
                               omega
    obtain ⟨h3, h4⟩ := lo_small hlt
    have h5 : hi q i = i := by unfold hi hiU; rw [h3, h4]; simp; omega
    rw [h3, h5]
    refine Wc.seq ?_
    refine Wc.reg fun K hK => ?_; simp only [go_sem, ti3, ti9, ti5, ti4, ti32]; refine hK _ _ ?_; clear hK K
    exact Wc.ret (Pf.ret [.tmp 4, .tmp 5] [.c (.p (pI i)), .c (.p (pI i))] rfl rfl (by simp only [resultsD, go_sem, ti3, ti9, ti5, ti4, ti32]) rfl)
  · have hge : 2 ^ q ≤ i := by have : ¬ (i : Int) < ((2 ^ q : Nat) : Int) := by simpa using hc
                               omega
    have hk := kf_le hb
    have hkm := kf_mul_le (q := q) (i := i)
    have hpt := part_lt q i
    have hd1 : 1 ≤ i / 2 ^ q := (Nat.le_div_iff_mul_le p0).2 (by omega)
    have hdb : i / 2 ^ q ≤ i := Nat.div_le_self _ _
    have hkd : kf q i = i / 2 ^ q - 1 := rfl
    have elo : lo q i = (i - kf q i * 2 ^ q) * 2 ^ kf q i := rfl
    have ehi : hi q i = min (hiU q i) 1099511627776 := rfl
    have ehu : hiU q i = lo q i + 2 ^ kf q i - 1 := rfl
    have pk := Nat.two_pow_pos (kf q i)
    generalize hkk : kf q i = k at *
    generalize hpp : i - k * 2 ^ q = pt at *
    have em : (pt + 1) * 2 ^ k = lo q i + 2 ^ k := by rw [Nat.add_mul, elo]; omega
    have c1 : shrI .i64 (i : Int) (q : Int) = ((i / 2 ^ q : Nat) : Int) := shrN .i64 i q (by show q ≤ 64; omega)
    have c2 : IntKind.i64.wrap (((i / 2 ^ q : Nat) : Int) - 1) = (k : Int) := by rw [wi64]; omega
    have c3 : shlI .i64 (k : Int) (q : Int) = ((k * 2 ^ q : Nat) : Int) := shlN k q (by omega) (by omega)
    have c4 : IntKind.i64.wrap ((i : Int) - ((k * 2 ^ q : Nat) : Int)) = (pt : Int) := by rw [wi64]; omega
    have c5 : shlI .i64 (pt : Int) (k : Int) = ((lo q i : Nat) : Int) := by rw [elo]; exact shlN pt k (by omega) (by omega)
    have c6 : IntKind.i64.wrap ((pt : Int) + 1) = ((pt + 1 : Nat) : Int) := by rw [wi64]; omega
    have c7 : shlI .i64 ((pt + 1 : Nat) : Int) (k : Int) = ((lo q i + 2 ^ k : Nat) : Int) := by rw [← em]; exact shlN (pt + 1) k (by omega) (by rw [em]; omega)
    have c8 : IntKind.i64.wrap (((lo q i + 2 ^ k : Nat) : Int) - 1) = ((hiU q i : Nat) : Int) := by rw [wi64]; omega
    have c9 : min ((hiU q i : Nat) : Int) 1099511627776 = ((hi q i : Nat) : Int) := by rw [ehi]; omega
    have hk0 : ((k : Int) < 0) = False := by simp
    refine Wc.skip (Wc.seq ?_)
    refine Wc.reg fun K hK => ?_; simp only [go_sem, ti3, ti9, ti5, ti4, ti32, hq0, c1, c2]; refine hK _ _ ?_; clear hK K
    refine Wc.seq ?_
    refine Wc.reg fun K hK => ?_; simp only [go_sem, ti3, ti9, ti5, ti4, ti32, hq0, c3, c4]; refine hK _ _ ?_; clear hK K
    refine Wc.seq ?_
    refine Wc.regD fun K hK => ?_; simp only [go_sem, ti3, ti9, ti5, ti4, ti32, hk0, c5, c6, c7, c8, min2, c9]; refine hK _ _ ?_; clear hK K
    exact Wc.ret (Pf.ret [.tmp 4, .tmp 5] [.c (.p (pI (lo q i))), .c (.p (pI (hi q i)))] rfl rfl (by simp only [resultsD, go_sem, ti3, ti9, ti5, ti4, ti32]) rfl)
end Go.Proofs.YtedcnhbblgmdnaaGreat.Ab
/- Histograms: the two ways to tell whether there are values with a histogram's numbers come to the same. -/
namespace Go.Proofs.YtedcnhbblgmdnaaGreat.Ab
set_option linter.unusedVariables false
set_option linter.unusedSimpArgs false
def sumI (f : Nat → Int × Int → Int) : Nat → List (Int × Int) → Int
  | _, [] => 0
  | i, b :: r => f i b + sumI f (i + 1) r
theorem sumI_snoc (f : Nat → Int × Int → Int) (c : Int × Int) : ∀ (l : List (Int × Int)) (i : Nat), sumI f i (l ++ [c]) = sumI f i l + f (i + l.length) c
  | [], i => by simp [sumI]
  | b :: r, i => by
    simp only [List.cons_append, sumI, sumI_snoc f c r (i + 1), List.length_cons]
    have e : i + 1 + r.length = i + (r.length + 1) := by omega
    rw [e]; omega
theorem take_snoc' {α : Type} {l : List α} {i : Nat} {x : α} (h : l[i]? = some x) : l.take (i + 1) = l.take i ++ [x] := by
  rw [List.take_add_one, h]; rfl
theorem sumI_take {f : Nat → Int × Int → Int} {l : List (Int × Int)} {i : Nat} {b : Int × Int} (h : l[i]? = some b) : sumI f 0 (l.take (i + 1)) = sumI f 0 (l.take i) + f i b := by
  have hi := (List.getElem?_eq_some_iff.1 h).1
  rw [take_snoc' h, sumI_snoc]
  have : (l.take i).length = i := by simp; omega
  rw [this]; simp
/-- How many values there are. -/
def cnt (l : List (Int × Int)) : Int := sumI (fun _ b => b.2) 0 l
theorem sumI_bound {f : Nat → Int × Int → Int} {m : Int} : ∀ {l : List (Int × Int)} {i : Nat}, (∀ j b, l[j]? = some b → 0 ≤ f (i + j) b ∧ f (i + j) b ≤ m * b.2) → 0 ≤ sumI f i l ∧ sumI f i l ≤ m * sumI (fun _ b => b.2) i l
  | [], i, h => by simp [sumI]
  | b :: r, i, h => by
    have h1 := h 0 b rfl
    have h2 := sumI_bound (f := f) (m := m) (l := r) (i := i + 1) fun j c hj => by
      have := h (j + 1) c (by simpa using hj)
      have e : i + 1 + j = i + (j + 1) := by omega
      rw [e]; exact this
    simp only [sumI, Int.mul_add]
    simp only [Nat.add_zero] at h1
    omega
theorem cnt_le {l : List (Int × Int)} (h : ∀ b ∈ l, 1 ≤ b.2) : ∀ i, 0 ≤ cnt (l.take i) ∧ cnt (l.take i) ≤ cnt l := by
  have gen : ∀ (l : List (Int × Int)) (k : Nat), (∀ b ∈ l, 1 ≤ b.2) → 0 ≤ sumI (fun _ b => b.2) k l := by
    intro l
    induction l with
    | nil => intro k _; simp [sumI]
    | cons b r ih =>
      intro k h
      have h1 := h b (by simp)
      have h2 := ih (k + 1) fun c hc => h c (by simp [hc])
      simp only [sumI]; omega
  have gen2 : ∀ (l : List (Int × Int)) (k i : Nat), (∀ b ∈ l, 1 ≤ b.2) → sumI (fun _ b => b.2) k (l.take i) ≤ sumI (fun _ b => b.2) k l := by
    intro l
    induction l with
    | nil => intro k i _; simp [sumI]
    | cons b r ih =>
      intro k i h
      cases i with
      | zero => exact gen _ _ h
      | succ i =>
        have h2 := ih (k + 1) i fun c hc => h c (by simp [hc])
        simp only [List.take_succ_cons, sumI]; omega
  intro i
  exact ⟨gen _ _ fun b hb => h b (List.mem_of_mem_take hb), gen2 _ _ _ h⟩
abbrev mxv : Int := 1099511627776
def leastP (q : Nat) (mn mx : Int) (bs : List (Int × Int)) (last : Int × Int) : Int := sumI (fun _ b => max (lo q b.1.toNat : Int) mn * b.2) 0 bs + (mx - max (lo q last.1.toNat : Int) mn)
def greatP (q : Nat) (mn mx : Int) (bs : List (Int × Int)) (first : Int × Int) : Int := sumI (fun _ b => min (hi q b.1.toNat : Int) mx * b.2) 0 bs - (min (hi q first.1.toNat : Int) mx - mn)
def lowR (q : Nat) (mn : Int) (i : Nat) (b : Int × Int) : Int := if i = 0 then mn else (lo q b.1.toNat : Int)
def highR (q : Nat) (mx : Int) (n i : Nat) (b : Int × Int) : Int := if i + 1 = n then mx else (hi q b.1.toNat : Int)
def termL (q : Nat) (mn : Int) (n i : Nat) (b : Int × Int) : Int := lowR q mn i b * b.2 + (if i + 1 = n then mn - lowR q mn i b else 0)
def termM (q : Nat) (mx : Int) (n i : Nat) (b : Int × Int) : Int := highR q mx n i b * b.2 + (if i = 0 then mx - highR q mx n i b else 0)
def leastR (q : Nat) (mn mx : Int) (bs : List (Int × Int)) : Int := (mx - mn) + sumI (termL q mn bs.length) 0 bs
def mostR (q : Nat) (mn mx : Int) (bs : List (Int × Int)) : Int := (mn - mx) + sumI (termM q mx bs.length) 0 bs
/-- What is told of the buckets. -/
structure BsOK (q : Nat) (bs : List (Int × Int)) : Prop where
  lo0 : ∀ b ∈ bs, 0 ≤ b.1 ∧ b.1 ≤ ((41 - q) * 2 ^ q : Nat)
  cn : ∀ b ∈ bs, 1 ≤ b.2
  asc : ∀ (i j : Nat) (b c : Int × Int), i < j → bs[i]? = some b → bs[j]? = some c → b.1 < c.1
section
variable {q : Nat} {bs : List (Int × Int)} {mn mx : Int} {f l : Int × Int}
end
/-- The program's way. -/
def agr1 (q : Nat) (s mn mx : Int) (bs : List (Int × Int)) (f l : Int × Int) (t : Int) : Bool :=
  if mn < 0 ∨ mxv < mn ∨ mx < 0 ∨ mxv < mx ∨ mx < mn then false
  else if (ix q mn.toNat : Int) ≠ f.1 ∨ (ix q mx.toNat : Int) ≠ l.1 then false
  else if t = 1 ∧ mn ≠ mx then false
  else decide (leastP q mn mx bs l ≤ s) && decide (s ≤ greatP q mn mx bs f)
/-- The reference's way. -/
def fit1 (q : Nat) (s mn mx : Int) (bs : List (Int × Int)) (f l : Int × Int) (t : Int) : Bool :=
  if mn < 0 ∨ mxv < mx ∨ mx < mn then false
  else if (ix q mn.toNat : Int) ≠ f.1 ∨ (ix q mx.toNat : Int) ≠ l.1 then false
  else if t = 1 then decide (mn = mx) && decide (s = mn)
  else decide (leastR q mn mx bs ≤ s) && decide (s ≤ mostR q mn mx bs)
end Go.Proofs.YtedcnhbblgmdnaaGreat.Ab
