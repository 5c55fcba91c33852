/- A part of the proof: an evaluator of the code, its contracts, the law. No condition. -/
import Derived.Test.YtafaoldmemcigaaGreatT20
import Derived.KernelRfl
namespace Go.Proofs.YtafaoldmemcigaaGreat.Ab
set_option maxHeartbeats 4000000
set_option maxRecDepth 10000
set_option linter.unusedSimpArgs false
set_option linter.unusedVariables false
/-- A valid sample. -/
def smpOK (x : I2) : Bool := isT x.1 && isVl x.2
/-- 85: a valid sample -/
theorem pf85 (x : I2) : Pf E0 85 [.agg ((p2 x).map .p)] (P' (.bool (smpOK x))) := by
  refine Pf.body (fn := Tryz.f85) (by kernel_rfl) rfl ?_; simp only [List.map_cons, List.map_nil, List.cons_append, List.nil_append, List.length_cons, List.length_nil, Tryz.ntmps85, List.replicate, Nat.reduceSub, Nat.reduceAdd]
  refine Wc.seq ?_
  refine Wc.reg fun K hK => ?_; simp only [go_sem, ti3, ti9, ti5, ti4, ti35, ti23, ti45]; refine hK _ _ ?_; clear hK K
  refine Wc.seq ?_
  by_cases h1 : 1 ≤ x.1
  · by_cases h2 : x.1 ≤ 1099511627776
    · by_cases h3 : -1099511627776 ≤ x.2
      · refine Wc.reg fun K hK => ?_; simp only [go_sem, ti3, ti9, ti5, ti4, ti35, ti23, ti45, h1, h2, h3]; refine hK _ _ ?_; clear hK K
        exact Wc.ret (Pf.ret [.tmp 2] [.c (.p (.bool (smpOK x)))] rfl rfl (by simp only [resultsD, go_sem, ti3, ti9, ti5, ti4, ti35, ti23, ti45, smpOK, isT, isVl, h1, h2, h3]) rfl)
      · refine Wc.reg fun K hK => ?_; simp only [go_sem, ti3, ti9, ti5, ti4, ti35, ti23, ti45, h1, h2, h3]; refine hK _ _ ?_; clear hK K
        exact Wc.ret (Pf.ret [.tmp 2] [.c (.p (.bool (smpOK x)))] rfl rfl (by simp only [resultsD, go_sem, ti3, ti9, ti5, ti4, ti35, ti23, ti45, smpOK, isT, isVl, h1, h2, h3]) rfl)
    · refine Wc.reg fun K hK => ?_; simp only [go_sem, ti3, ti9, ti5, ti4, ti35, ti23, ti45, h1, h2]; refine hK _ _ ?_; clear hK K
      exact Wc.ret (Pf.ret [.tmp 2] [.c (.p (.bool (smpOK x)))] rfl rfl (by simp only [resultsD, go_sem, ti3, ti9, ti5, ti4, ti35, ti23, ti45, smpOK, isT, isVl, h1, h2]) rfl)
  · refine Wc.reg fun K hK => ?_; simp only [go_sem, ti3, ti9, ti5, ti4, ti35, ti23, ti45, h1]; refine hK _ _ ?_; clear hK K
    exact Wc.ret (Pf.ret [.tmp 2] [.c (.p (.bool (smpOK x)))] rfl rfl (by simp only [resultsD, go_sem, ti3, ti9, ti5, ti4, ti35, ti23, ti45, smpOK, isT, isVl, h1]) rfl)
/-- 111: a valid sample -/
theorem pf111 (x : I2) : Pf E0 111 [.agg ((p2 x).map .p)] (P' (.bool (smpOK x))) := by
  refine Pf.body (fn := Tryz.f111) (by kernel_rfl) rfl ?_; simp only [List.map_cons, List.map_nil, List.cons_append, List.nil_append, List.length_cons, List.length_nil, Tryz.ntmps111, List.replicate, Nat.reduceSub, Nat.reduceAdd]
  refine Wc.seq ?_
  refine Wc.reg fun K hK => ?_; simp only [go_sem, ti3, ti9, ti5, ti4, ti35, ti23, ti45]; refine hK _ _ ?_; clear hK K
  refine Wc.seq ?_
  by_cases h1 : 1 ≤ x.1
  · by_cases h2 : x.1 ≤ 1099511627776
    · by_cases h3 : -1099511627776 ≤ x.2
      · refine Wc.reg fun K hK => ?_; simp only [go_sem, ti3, ti9, ti5, ti4, ti35, ti23, ti45, h1, h2, h3]; refine hK _ _ ?_; clear hK K
        exact Wc.ret (Pf.ret [.tmp 2] [.c (.p (.bool (smpOK x)))] rfl rfl (by simp only [resultsD, go_sem, ti3, ti9, ti5, ti4, ti35, ti23, ti45, smpOK, isT, isVl, h1, h2, h3]) rfl)
      · refine Wc.reg fun K hK => ?_; simp only [go_sem, ti3, ti9, ti5, ti4, ti35, ti23, ti45, h1, h2, h3]; refine hK _ _ ?_; clear hK K
        exact Wc.ret (Pf.ret [.tmp 2] [.c (.p (.bool (smpOK x)))] rfl rfl (by simp only [resultsD, go_sem, ti3, ti9, ti5, ti4, ti35, ti23, ti45, smpOK, isT, isVl, h1, h2, h3]) rfl)
    · refine Wc.reg fun K hK => ?_; simp only [go_sem, ti3, ti9, ti5, ti4, ti35, ti23, ti45, h1, h2]; refine hK _ _ ?_; clear hK K
      exact Wc.ret (Pf.ret [.tmp 2] [.c (.p (.bool (smpOK x)))] rfl rfl (by simp only [resultsD, go_sem, ti3, ti9, ti5, ti4, ti35, ti23, ti45, smpOK, isT, isVl, h1, h2]) rfl)
  · refine Wc.reg fun K hK => ?_; simp only [go_sem, ti3, ti9, ti5, ti4, ti35, ti23, ti45, h1]; refine hK _ _ ?_; clear hK K
    exact Wc.ret (Pf.ret [.tmp 2] [.c (.p (.bool (smpOK x)))] rfl rfl (by simp only [resultsD, go_sem, ti3, ti9, ti5, ti4, ti35, ti23, ti45, smpOK, isT, isVl, h1]) rfl)
/-- Why a list is none of a kind's samples, behind a time. -/
def sck (k : Int) : Option Int → List I2 → Int
  | _, [] => 0
  | p, x :: r => if smpOK x = false ∨ (k = 2 ∧ x.2 < 0) then 2 else match p with
    | some y => if x.1 ≤ y then 9 else sck k (some x.1) r
    | none => sck k (some x.1) r
def sckA (k : Int) (l : List I2) : Int := if k ≠ 1 ∧ k ≠ 2 then 8 else if 2000 < l.length then 4 else sck k none l
def prevT (l : List I2) (i : Nat) : Option Int := if i = 0 then none else (l[i - 1]?).map (·.1)
theorem sck_step {k : Int} {l : List I2} {i : Nat} {x : I2} (h : l[i]? = some x) : sck k (prevT l i) (l.drop i) = if smpOK x = false ∨ (k = 2 ∧ x.2 < 0) then 2 else match prevT l i with
    | some y => if x.1 ≤ y then 9 else sck k (prevT l (i + 1)) (l.drop (i + 1))
    | none => sck k (prevT l (i + 1)) (l.drop (i + 1)) := by
  have hi := (List.getElem?_eq_some_iff.1 h).1
  have hx := (List.getElem?_eq_some_iff.1 h).2
  have hp : prevT l (i + 1) = some x.1 := by simp [prevT, h]
  rw [List.drop_eq_getElem_cons hi, hx, hp]
  cases prevT l i <;> rfl
theorem sck_end (k : Int) (p : Option Int) : sck k p [] = 0 := by cases p <;> rfl
def sB (k : Int) (x : I2) : Bool := !(smpOK x) || ((k == 2) && decide (x.2 < 0))
theorem sB_iff {k : Int} {x : I2} : sB k x = true ↔ (smpOK x = false ∨ (k = 2 ∧ x.2 < 0)) := by simp [sB]
/-- 47: samples checked -/
theorem pf47 (k : Int) (l : List I2) (hl : l.length < 2^40) : Pf E0 47 [.c (.p (pI k)), .c (.p (.lst l.length (l.flatMap p2)))] (P' (pI (sckA k l))) := by
  have hfl : (l.flatMap p2).length = l.length * 2 := flat_len (k := 2) (fun _ => rfl) l
  refine Pf.body (fn := Tryz.f47) (by kernel_rfl) rfl ?_; simp only [List.map_cons, List.map_nil, List.cons_append, List.nil_append, List.length_cons, List.length_nil, Tryz.ntmps47, List.replicate, Nat.reduceSub, Nat.reduceAdd]
  refine Wc.seq ?_
  refine Wc.reg fun K hK => ?_; simp only [go_sem, ti3, ti9, ti5, ti4, ti35, ti23, ti45]; refine hK _ _ ?_; clear hK K
  refine Wc.seqR (fun y => (k = 1 ∨ k = 2) ∧ y.ds = [] ∧ y.e.length = 51 ∧ y.e.getD 0 .junk = P' (pI k) ∧ y.e.getD 1 .junk = P' (.lst l.length (l.flatMap p2))) ?_ ?_
  · refine Wc.seq ?_
    by_cases h1 : k = 1
    · have b1 : (k != 1) = false := by simpa using h1
      refine Wc.reg fun K hK => ?_; simp only [go_sem, ti3, ti9, ti5, ti4, ti35, ti23, ti45, b1]; refine hK _ _ ?_; clear hK K
      refine Wc.cond (t := false) (by simp only [go_sem, ti3, ti9, ti5, ti4, ti35, ti23, ti45, b1]) (fun hc => by cases hc) (fun _ => Wc.skip ⟨.inl h1, rfl, rfl, rfl, rfl⟩)
    · have b1 : (k != 1) = true := by simpa using h1
      refine Wc.reg fun K hK => ?_; simp only [go_sem, ti3, ti9, ti5, ti4, ti35, ti23, ti45, b1]; refine hK _ _ ?_; clear hK K
      refine Wc.cond (t := (k != 2)) (by simp only [go_sem, ti3, ti9, ti5, ti4, ti35, ti23, ti45, b1]) (fun hc => ?_) (fun hc => ?_)
      · have h2 : k ≠ 2 := by simpa using hc
        refine Wc.seq ?_
        refine Wc.reg fun K hK => ?_; simp only [go_sem, ti3, ti9, ti5, ti4, ti35, ti23, ti45]; refine hK _ _ ?_; clear hK K
        have e : sckA k l = 8 := by unfold sckA; rw [if_pos ⟨h1, h2⟩]
        rw [e]
        exact Wc.ret (Pf.ret [.tmp 4] [.c (.p (pI 8))] rfl rfl (by simp only [resultsD, go_sem, ti3, ti9, ti5, ti4, ti35, ti23, ti45]) rfl)
      · have h2 : k = 2 := by simpa using hc
        exact Wc.skip ⟨.inr h2, rfl, rfl, rfl, rfl⟩
  rintro ⟨e, ds, s1⟩ ⟨hk, rfl, hlen, h0, h1⟩
  simp only at hlen h0 h1
  have eK : sckA k l = if 2000 < l.length then 4 else sck k none l := by unfold sckA; rw [if_neg (by omega)]
  refine Wc.seq (Wc.seq ?_)
  refine Wc.reg fun K hK => ?_; simp only [go_sem, ti3, ti9, ti5, ti4, ti35, ti23, ti45, hlen, h0, h1]; refine hK _ _ ?_; clear hK K
  refine Wc.cond (t := decide ((2000 : Int) < l.length)) (by simp only [go_sem, ti3, ti9, ti5, ti4, ti35, ti23, ti45, hlen]) (fun hc => ?_) (fun hc => ?_)
  · have hc' : 2000 < l.length := by have : (2000 : Int) < l.length := by simpa using hc
                                     omega
    refine Wc.seq ?_
    refine Wc.reg fun K hK => ?_; simp only [go_sem, ti3, ti9, ti5, ti4, ti35, ti23, ti45, hlen]; refine hK _ _ ?_; clear hK K
    rw [eK, if_pos hc']
    exact Wc.ret (Pf.ret [.tmp 4] [.c (.p (pI 4))] rfl rfl (by simp only [resultsD, go_sem, ti3, ti9, ti5, ti4, ti35, ti23, ti45, hlen]) rfl)
  have hc' : ¬ 2000 < l.length := by have : ¬ (2000 : Int) < l.length := by simpa using hc
                                     omega
  rw [if_neg hc'] at eK
  have e0 : sckA k l = sck k (prevT l 0) (l.drop 0) := eK
  refine Wc.skip (Wc.seqR (fun y => sckA k l = 0 ∧ y.ds = [] ∧ y.e.length = 51) ?_ ?_)
  · refine Wc.seq ?_
    refine Wc.reg fun K hK => ?_; simp only [go_sem, ti3, ti9, ti5, ti4, ti35, ti23, ti45, hlen, h0, h1, Int.natCast_zero]; refine hK _ _ ?_; clear hK K
    refine Wc.block (Wc.loop (fun q y => ∃ i : Nat, q = l.length - i ∧ i ≤ l.length ∧ y.ds = [] ∧ y.e.length = 51 ∧ y.e.getD 0 .junk = P' (pI k) ∧ y.e.getD 1 .junk = P' (.lst l.length (l.flatMap p2)) ∧ y.e.getD 16 .junk = P' (.lst l.length (l.flatMap p2)) ∧ y.e.getD 17 .junk = P' (pI l.length) ∧ y.e.getD 18 .junk = P' (pI i) ∧ sckA k l = sck k (prevT l i) (l.drop i)) ?_ (k := l.length) ?_)
    · clear hlen h0 h1 e s1
      rintro q ⟨e, ds, s1⟩ ⟨i, rfl, hi, rfl, hlen, h0, h1, h16, h17, h18, hch⟩
      simp only at hlen h0 h1 h16 h17 h18
      refine Wc.seq ?_
      refine Wc.reg fun K hK => ?_; simp only [go_sem, ti3, ti9, ti5, ti4, ti35, ti23, ti45, hlen, h0, h1, h16, h17, h18]; refine hK _ _ ?_; clear hK K
      refine Wc.seq (Wc.cond (t := decide ((i : Int) < l.length)) (by simp only [go_sem, ti3, ti9, ti5, ti4, ti35, ti23, ti45, hlen]) (fun hc => ?_) (fun hc => ?_))
      · have hil : i < l.length := by have : (i : Int) < l.length := by simpa using hc
                                      omega
        obtain ⟨x, hx⟩ : ∃ x, l[i]? = some x := ⟨l[i], List.getElem?_eq_getElem hil⟩
        have hix := ixA ti23 rfl ti45 (j := i) (m := l.length) (cs := l.flatMap p2) hil hfl (by decide)
        have hca := rpA (off := i * 2) (drop_flat (f := p2) (k := 2) (fun _ => rfl) hx) (by rw [hfl]; omega)
        rw [sck_step hx] at hch
        have bad : (smpOK x = false ∨ (k = 2 ∧ x.2 < 0)) → sckA k l = 2 := fun h => by rw [hch, if_pos h]
        refine Wc.skip (Wc.seq (Wc.block (Wc.seq ?_)))
        refine Wc.reg fun K hK => ?_; simp only [go_sem, ti3, ti9, ti5, ti4, ti35, ti23, ti45, hlen, h0, h1, h16, h17, h18, hix, hca]; refine hK _ _ ?_; clear hK K
        refine Wc.block (Wc.seqA (fun y => y.ds = [] ∧ y.e.length = 51 ∧ y.e.getD 0 .junk = P' (pI k) ∧ y.e.getD 1 .junk = P' (.lst l.length (l.flatMap p2)) ∧ y.e.getD 16 .junk = P' (.lst l.length (l.flatMap p2)) ∧ y.e.getD 17 .junk = P' (pI l.length) ∧ y.e.getD 18 .junk = P' (pI i) ∧ y.e.getD 5 .junk = P' (pI i) ∧ y.e.getD 6 .junk = .v (.c (.ref (s1.nx + 4) 0)) ∧ y.s.get (s1.nx + 4) = some (.cells ((p2 x).map .p) false) ∧ y.e.getD 23 .junk = P' (.bool (sB k x))) ?_ ?_)
        · refine Wc.reg fun K hK => ?_; simp only [go_sem, ti3, ti9, ti5, ti4, ti35, ti23, ti45, hlen, h0, h1, h16, h17, h18]
          refine wpCall.pf (pf85 x) (by kernel_rfl) (by kernel_rfl) rfl rfl ?_
          cases hsm : smpOK x with
          | false =>
            have hk2 : True := trivial
            simp only [go_sem, ti3, ti9, ti5, ti4, ti35, ti23, ti45, hlen, h0, h1, h16, h17, h18]; refine hK _ _ ?_; clear hK K
            exact ⟨rfl, rfl, by simp only [go_sem, ti3, ti9, ti5, ti4, ti35, ti23, ti45, hlen], by simp only [go_sem, ti3, ti9, ti5, ti4, ti35, ti23, ti45, hlen, h0], by simp only [go_sem, ti3, ti9, ti5, ti4, ti35, ti23, ti45, hlen, h1], by simp only [go_sem, ti3, ti9, ti5, ti4, ti35, ti23, ti45, hlen, h16], by simp only [go_sem, ti3, ti9, ti5, ti4, ti35, ti23, ti45, hlen, h17], by simp only [go_sem, ti3, ti9, ti5, ti4, ti35, ti23, ti45, hlen, h18], by simp only [go_sem, ti3, ti9, ti5, ti4, ti35, ti23, ti45, hlen], by simp only [go_sem, ti3, ti9, ti5, ti4, ti35, ti23, ti45, hlen], by simp only [go_sem, ti3, ti9, ti5, ti4, ti35, ti23, ti45], by simp only [go_sem, ti3, ti9, ti5, ti4, ti35, ti23, ti45, hlen, sB, hsm, hk2, Bool.true_or, Bool.false_or, Bool.or_self]⟩
          | true =>
            by_cases hk3 : k = 2
            · have hk2 : (k == 2) = true := by simpa using hk3
              simp only [go_sem, ti3, ti9, ti5, ti4, ti35, ti23, ti45, hlen, h0, h1, h16, h17, h18, hk2]; refine hK _ _ ?_; clear hK K
              exact ⟨rfl, rfl, by simp only [go_sem, ti3, ti9, ti5, ti4, ti35, ti23, ti45, hlen], by simp only [go_sem, ti3, ti9, ti5, ti4, ti35, ti23, ti45, hlen, h0], by simp only [go_sem, ti3, ti9, ti5, ti4, ti35, ti23, ti45, hlen, h1], by simp only [go_sem, ti3, ti9, ti5, ti4, ti35, ti23, ti45, hlen, h16], by simp only [go_sem, ti3, ti9, ti5, ti4, ti35, ti23, ti45, hlen, h17], by simp only [go_sem, ti3, ti9, ti5, ti4, ti35, ti23, ti45, hlen, h18], by simp only [go_sem, ti3, ti9, ti5, ti4, ti35, ti23, ti45, hlen], by simp only [go_sem, ti3, ti9, ti5, ti4, ti35, ti23, ti45, hlen], by simp only [go_sem, ti3, ti9, ti5, ti4, ti35, ti23, ti45], by simp only [go_sem, ti3, ti9, ti5, ti4, ti35, ti23, ti45, hlen, sB, hsm, hk2, Bool.true_or, Bool.false_or, Bool.or_self]⟩
            · have hk2 : (k == 2) = false := by simpa using hk3
              simp only [go_sem, ti3, ti9, ti5, ti4, ti35, ti23, ti45, hlen, h0, h1, h16, h17, h18, hk2]; refine hK _ _ ?_; clear hK K
              exact ⟨rfl, rfl, by simp only [go_sem, ti3, ti9, ti5, ti4, ti35, ti23, ti45, hlen], by simp only [go_sem, ti3, ti9, ti5, ti4, ti35, ti23, ti45, hlen, h0], by simp only [go_sem, ti3, ti9, ti5, ti4, ti35, ti23, ti45, hlen, h1], by simp only [go_sem, ti3, ti9, ti5, ti4, ti35, ti23, ti45, hlen, h16], by simp only [go_sem, ti3, ti9, ti5, ti4, ti35, ti23, ti45, hlen, h17], by simp only [go_sem, ti3, ti9, ti5, ti4, ti35, ti23, ti45, hlen, h18], by simp only [go_sem, ti3, ti9, ti5, ti4, ti35, ti23, ti45, hlen], by simp only [go_sem, ti3, ti9, ti5, ti4, ti35, ti23, ti45, hlen], by simp only [go_sem, ti3, ti9, ti5, ti4, ti35, ti23, ti45], by simp only [go_sem, ti3, ti9, ti5, ti4, ti35, ti23, ti45, hlen, sB, hsm, hk2, Bool.true_or, Bool.false_or, Bool.or_self]⟩
        · rintro ⟨e, ds, s2⟩ ⟨rfl, hlen, h0, h1, h16, h17, h18, h5, h6, hg, h23⟩
          simp only at hlen h0 h1 h16 h17 h18 h5 h6 hg h23
          refine Wc.cond (t := sB k x) (by simp only [go_sem, ti3, ti9, ti5, ti4, ti35, ti23, ti45, h23]) (fun hc => ?_) (fun hc => ?_)
          · refine Wc.seq ?_
            refine Wc.reg fun K hK => ?_; simp only [go_sem, ti3, ti9, ti5, ti4, ti35, ti23, ti45, hlen]; refine hK _ _ ?_; clear hK K
            rw [bad (sB_iff.1 hc)]
            exact Wc.ret (Pf.ret [.tmp 4] [.c (.p (pI 2))] rfl rfl (by simp only [resultsD, go_sem, ti3, ti9, ti5, ti4, ti35, ti23, ti45, hlen]) rfl)
          rw [if_neg (fun h => by rw [sB_iff.2 h] at hc; cases hc)] at hch
          refine Wc.seq ?_
          by_cases hi0 : 0 < i
          · obtain ⟨y, hy⟩ : ∃ y, l[i - 1]? = some y := ⟨l[i - 1], List.getElem?_eq_getElem (by omega)⟩
            have hiy := ixA ti23 rfl ti45 (j := i - 1) (m := l.length) (cs := l.flatMap p2) (by omega) hfl (by decide)
            have hcb := rpA (off := (i - 1) * 2) (drop_flat (f := p2) (k := 2) (fun _ => rfl) hy) (by rw [hfl]; omega)
            have e1 : IntKind.i64.wrap ((i : Int) - 1) = ((i - 1 : Nat) : Int) := by rw [wi64]; omega
            have hd : (0 < (i : Int)) = True := by simp; omega
            have hpr : prevT l i = some y.1 := by unfold prevT; rw [if_neg (by omega), hy]; rfl
            rw [hpr] at hch
            simp only [List.map_cons, List.map_nil] at hch hg
            refine Wc.regD fun K hK => ?_; simp only [go_sem, ti3, ti9, ti5, ti4, ti35, ti23, ti45, hlen, h0, h1, h16, h17, h18, h5, h6, hg, hiy, hcb, e1, hd]; refine hK _ _ ?_; clear hK K
            refine Wc.cond (t := decide (x.1 ≤ y.1)) (by simp only [go_sem, ti3, ti9, ti5, ti4, ti35, ti23, ti45, hlen, hd]) (fun hc => ?_) (fun hc => ?_)
            · have hxy : x.1 ≤ y.1 := by simpa using hc
              rw [if_pos hxy] at hch
              refine Wc.seq ?_
              refine Wc.reg fun K hK => ?_; simp only [go_sem, ti3, ti9, ti5, ti4, ti35, ti23, ti45, hlen]; refine hK _ _ ?_; clear hK K
              rw [hch]
              exact Wc.ret (Pf.ret [.tmp 4] [.c (.p (pI 9))] rfl rfl (by simp only [resultsD, go_sem, ti3, ti9, ti5, ti4, ti35, ti23, ti45, hlen]) rfl)
            · have hxy : ¬ x.1 ≤ y.1 := by simpa using hc
              rw [if_neg hxy] at hch
              refine Wc.skip ?_
              refine Wc.reg fun K hK => ?_; simp only [go_sem, ti3, ti9, ti5, ti4, ti35, ti23, ti45, hlen, h0, h1, h16, h17, h18, i64n i (by omega)]; refine hK _ _ ?_; clear hK K
              exact ⟨l.length - (i + 1), by omega, i + 1, rfl, by omega, rfl, by simp only [go_sem, ti3, ti9, ti5, ti4, ti35, ti23, ti45, hlen], by simp only [go_sem, ti3, ti9, ti5, ti4, ti35, ti23, ti45, hlen, h0], by simp only [go_sem, ti3, ti9, ti5, ti4, ti35, ti23, ti45, hlen, h1], by simp only [go_sem, ti3, ti9, ti5, ti4, ti35, ti23, ti45, hlen, h16], by simp only [go_sem, ti3, ti9, ti5, ti4, ti35, ti23, ti45, hlen, h17], by simp only [go_sem, ti3, ti9, ti5, ti4, ti35, ti23, ti45, hlen], hch⟩
          · have hd : (0 < (i : Int)) = False := by simp; omega
            have hpr : prevT l i = none := by unfold prevT; rw [if_pos (by omega)]
            rw [hpr] at hch
            simp only at hch
            refine Wc.regD fun K hK => ?_; simp only [go_sem, ti3, ti9, ti5, ti4, ti35, ti23, ti45, hlen, h0, h1, h16, h17, h18, h5, hd]; refine hK _ _ ?_; clear hK K
            refine Wc.cond (t := false) (by simp only [go_sem, ti3, ti9, ti5, ti4, ti35, ti23, ti45, hlen, hd]) (fun hc => by cases hc) (fun hc => ?_)
            refine Wc.skip ?_
            refine Wc.reg fun K hK => ?_; simp only [go_sem, ti3, ti9, ti5, ti4, ti35, ti23, ti45, hlen, h0, h1, h16, h17, h18, i64n i (by omega)]; refine hK _ _ ?_; clear hK K
            exact ⟨l.length - (i + 1), by omega, i + 1, rfl, by omega, rfl, by simp only [go_sem, ti3, ti9, ti5, ti4, ti35, ti23, ti45, hlen], by simp only [go_sem, ti3, ti9, ti5, ti4, ti35, ti23, ti45, hlen, h0], by simp only [go_sem, ti3, ti9, ti5, ti4, ti35, ti23, ti45, hlen, h1], by simp only [go_sem, ti3, ti9, ti5, ti4, ti35, ti23, ti45, hlen, h16], by simp only [go_sem, ti3, ti9, ti5, ti4, ti35, ti23, ti45, hlen, h17], by simp only [go_sem, ti3, ti9, ti5, ti4, ti35, ti23, ti45, hlen], hch⟩
      · have hil : i = l.length := by have : ¬ (i : Int) < l.length := by simpa using hc
                                      omega
        rw [hil, List.drop_length, sck_end] at hch
        exact Wc.exit ⟨hch, rfl, by simp only [go_sem, ti3, ti9, ti5, ti4, ti35, ti23, ti45, hlen]⟩
    · exact ⟨0, rfl, by omega, rfl, by simp only [go_sem, ti3, ti9, ti5, ti4, ti35, ti23, ti45, hlen], by simp only [go_sem, ti3, ti9, ti5, ti4, ti35, ti23, ti45, hlen, h0], by simp only [go_sem, ti3, ti9, ti5, ti4, ti35, ti23, ti45, hlen, h1], by simp only [go_sem, ti3, ti9, ti5, ti4, ti35, ti23, ti45, hlen, h1], by simp only [go_sem, ti3, ti9, ti5, ti4, ti35, ti23, ti45, hlen, h1], by simp only [go_sem, ti3, ti9, ti5, ti4, ti35, ti23, ti45, hlen]; rfl, e0⟩
  · rintro ⟨e, ds, s1⟩ ⟨hch, rfl, hlen⟩
    simp only at hlen
    rw [hch]
    refine Wc.seq ?_
    refine Wc.reg fun K hK => ?_; simp only [go_sem, ti3, ti9, ti5, ti4, ti35, ti23, ti45, hlen]; refine hK _ _ ?_; clear hK K
    exact Wc.ret (Pf.ret [.tmp 4] [.c (.p (pI 0))] rfl rfl (by simp only [resultsD, go_sem, ti3, ti9, ti5, ti4, ti35, ti23, ti45, hlen]) rfl)
/-- 64: samples checked -/
theorem pf64 (k : Int) (l : List I2) (hl : l.length < 2^40) : Pf E0 64 [.c (.p (pI k)), .c (.p (.lst l.length (l.flatMap p2)))] (P' (pI (sckA k l))) := by
  have hfl : (l.flatMap p2).length = l.length * 2 := flat_len (k := 2) (fun _ => rfl) l
  refine Pf.body (fn := Tryz.f64) (by kernel_rfl) rfl ?_; simp only [List.map_cons, List.map_nil, List.cons_append, List.nil_append, List.length_cons, List.length_nil, Tryz.ntmps64, List.replicate, Nat.reduceSub, Nat.reduceAdd]
  refine Wc.seq ?_
  refine Wc.reg fun K hK => ?_; simp only [go_sem, ti3, ti9, ti5, ti4, ti35, ti23, ti45]; refine hK _ _ ?_; clear hK K
  refine Wc.seqR (fun y => (k = 1 ∨ k = 2) ∧ y.ds = [] ∧ y.e.length = 55 ∧ y.e.getD 0 .junk = P' (pI k) ∧ y.e.getD 1 .junk = P' (.lst l.length (l.flatMap p2))) ?_ ?_
  · refine Wc.seq ?_
    by_cases h1 : k = 1
    · have b1 : (k != 1) = false := by simpa using h1
      refine Wc.reg fun K hK => ?_; simp only [go_sem, ti3, ti9, ti5, ti4, ti35, ti23, ti45, b1]; refine hK _ _ ?_; clear hK K
      refine Wc.cond (t := false) (by simp only [go_sem, ti3, ti9, ti5, ti4, ti35, ti23, ti45, b1]) (fun hc => by cases hc) (fun _ => Wc.skip ⟨.inl h1, rfl, rfl, rfl, rfl⟩)
    · have b1 : (k != 1) = true := by simpa using h1
      refine Wc.reg fun K hK => ?_; simp only [go_sem, ti3, ti9, ti5, ti4, ti35, ti23, ti45, b1]; refine hK _ _ ?_; clear hK K
      refine Wc.cond (t := (k != 2)) (by simp only [go_sem, ti3, ti9, ti5, ti4, ti35, ti23, ti45, b1]) (fun hc => ?_) (fun hc => ?_)
      · have h2 : k ≠ 2 := by simpa using hc
        refine Wc.seq ?_
        refine Wc.reg fun K hK => ?_; simp only [go_sem, ti3, ti9, ti5, ti4, ti35, ti23, ti45]; refine hK _ _ ?_; clear hK K
        have e : sckA k l = 8 := by unfold sckA; rw [if_pos ⟨h1, h2⟩]
        rw [e]
        exact Wc.ret (Pf.ret [.tmp 4] [.c (.p (pI 8))] rfl rfl (by simp only [resultsD, go_sem, ti3, ti9, ti5, ti4, ti35, ti23, ti45]) rfl)
      · have h2 : k = 2 := by simpa using hc
        exact Wc.skip ⟨.inr h2, rfl, rfl, rfl, rfl⟩
  rintro ⟨e, ds, s1⟩ ⟨hk, rfl, hlen, h0, h1⟩
  simp only at hlen h0 h1
  have eK : sckA k l = if 2000 < l.length then 4 else sck k none l := by unfold sckA; rw [if_neg (by omega)]
  refine Wc.seq (Wc.seq ?_)
  refine Wc.reg fun K hK => ?_; simp only [go_sem, ti3, ti9, ti5, ti4, ti35, ti23, ti45, hlen, h0, h1]; refine hK _ _ ?_; clear hK K
  refine Wc.cond (t := decide ((2000 : Int) < l.length)) (by simp only [go_sem, ti3, ti9, ti5, ti4, ti35, ti23, ti45, hlen]) (fun hc => ?_) (fun hc => ?_)
  · have hc' : 2000 < l.length := by have : (2000 : Int) < l.length := by simpa using hc
                                     omega
    refine Wc.seq ?_
    refine Wc.reg fun K hK => ?_; simp only [go_sem, ti3, ti9, ti5, ti4, ti35, ti23, ti45, hlen]; refine hK _ _ ?_; clear hK K
    rw [eK, if_pos hc']
    exact Wc.ret (Pf.ret [.tmp 4] [.c (.p (pI 4))] rfl rfl (by simp only [resultsD, go_sem, ti3, ti9, ti5, ti4, ti35, ti23, ti45, hlen]) rfl)
  have hc' : ¬ 2000 < l.length := by have : ¬ (2000 : Int) < l.length := by simpa using hc
                                     omega
  rw [if_neg hc'] at eK
  have e0 : sckA k l = sck k (prevT l 0) (l.drop 0) := eK
  refine Wc.skip (Wc.seqR (fun y => sckA k l = 0 ∧ y.ds = [] ∧ y.e.length = 55) ?_ ?_)
  · refine Wc.seq ?_
    refine Wc.reg fun K hK => ?_; simp only [go_sem, ti3, ti9, ti5, ti4, ti35, ti23, ti45, hlen, h0, h1, Int.natCast_zero]; refine hK _ _ ?_; clear hK K
    refine Wc.block (Wc.loop (fun q y => ∃ i : Nat, q = l.length - i ∧ i ≤ l.length ∧ y.ds = [] ∧ y.e.length = 55 ∧ y.e.getD 0 .junk = P' (pI k) ∧ y.e.getD 1 .junk = P' (.lst l.length (l.flatMap p2)) ∧ y.e.getD 5 .junk = P' (pI i) ∧ sckA k l = sck k (prevT l i) (l.drop i)) ?_ (k := l.length) ?_)
    · clear hlen h0 h1 e s1
      rintro q ⟨e, ds, s1⟩ ⟨i, rfl, hi, rfl, hlen, h0, h1, h5, hch⟩
      simp only at hlen h0 h1 h5
      refine Wc.seq (Wc.seq ?_)
      refine Wc.reg fun K hK => ?_; simp only [go_sem, ti3, ti9, ti5, ti4, ti35, ti23, ti45, hlen, h0, h1, h5]; refine hK _ _ ?_; clear hK K
      refine (Wc.cond (t := decide ((i : Int) < l.length)) (by simp only [go_sem, ti3, ti9, ti5, ti4, ti35, ti23, ti45, hlen]) (fun hc => ?_) (fun hc => ?_))
      · have hil : i < l.length := by have : (i : Int) < l.length := by simpa using hc
                                      omega
        obtain ⟨x, hx⟩ : ∃ x, l[i]? = some x := ⟨l[i], List.getElem?_eq_getElem hil⟩
        have hix := ixA ti23 rfl ti45 (j := i) (m := l.length) (cs := l.flatMap p2) hil hfl (by decide)
        have hca := rpA (off := i * 2) (drop_flat (f := p2) (k := 2) (fun _ => rfl) hx) (by rw [hfl]; omega)
        have hce := rpA (off := i * 2 + 1) (cs := l.flatMap p2) (pre := [pI x.2]) (rest := (l.drop (i + 1)).flatMap p2) (by rw [← List.drop_drop, drop_flat (f := p2) (k := 2) (fun _ => rfl) hx]; rfl) (by rw [hfl]; omega)
        rw [sck_step hx] at hch
        have bad : (smpOK x = false ∨ (k = 2 ∧ x.2 < 0)) → sckA k l = 2 := fun h => by rw [hch, if_pos h]
        refine Wc.skip (Wc.seq (Wc.block (Wc.seq ?_)))
        refine (Wc.seqA (fun y => y.ds = [] ∧ y.e.length = 55 ∧ y.e.getD 0 .junk = P' (pI k) ∧ y.e.getD 1 .junk = P' (.lst l.length (l.flatMap p2)) ∧ y.e.getD 5 .junk = P' (pI i) ∧ y.e.getD 38 .junk = P' (.bool (sB k x))) ?_ ?_)
        · refine Wc.reg fun K hK => ?_; simp only [go_sem, ti3, ti9, ti5, ti4, ti35, ti23, ti45, hlen, h0, h1, h5, hix, hca]
          refine wpCall.pf (pf111 x) (by kernel_rfl) (by kernel_rfl) rfl rfl ?_
          cases hsm : smpOK x with
          | false =>
            have hk2 : True := trivial
            simp only [go_sem, ti3, ti9, ti5, ti4, ti35, ti23, ti45, hlen, h0, h1, h5]; refine hK _ _ ?_; clear hK K
            exact ⟨rfl, rfl, by simp only [go_sem, ti3, ti9, ti5, ti4, ti35, ti23, ti45, hlen], by simp only [go_sem, ti3, ti9, ti5, ti4, ti35, ti23, ti45, hlen, h0], by simp only [go_sem, ti3, ti9, ti5, ti4, ti35, ti23, ti45, hlen, h1], by simp only [go_sem, ti3, ti9, ti5, ti4, ti35, ti23, ti45, hlen, h5], by simp only [go_sem, ti3, ti9, ti5, ti4, ti35, ti23, ti45, hlen, sB, hsm, hk2, Bool.true_or, Bool.false_or, Bool.or_self]⟩
          | true =>
            by_cases hk3 : k = 2
            · have hk2 : (k == 2) = true := by simpa using hk3
              simp only [go_sem, ti3, ti9, ti5, ti4, ti35, ti23, ti45, hlen, h0, h1, h5, hk2, hix, hce]; refine hK _ _ ?_; clear hK K
              exact ⟨rfl, rfl, by simp only [go_sem, ti3, ti9, ti5, ti4, ti35, ti23, ti45, hlen], by simp only [go_sem, ti3, ti9, ti5, ti4, ti35, ti23, ti45, hlen, h0], by simp only [go_sem, ti3, ti9, ti5, ti4, ti35, ti23, ti45, hlen, h1], by simp only [go_sem, ti3, ti9, ti5, ti4, ti35, ti23, ti45, hlen, h5], by simp only [go_sem, ti3, ti9, ti5, ti4, ti35, ti23, ti45, hlen, sB, hsm, hk2, Bool.true_or, Bool.false_or, Bool.or_self]⟩
            · have hk2 : (k == 2) = false := by simpa using hk3
              simp only [go_sem, ti3, ti9, ti5, ti4, ti35, ti23, ti45, hlen, h0, h1, h5, hk2, hix, hce]; refine hK _ _ ?_; clear hK K
              exact ⟨rfl, rfl, by simp only [go_sem, ti3, ti9, ti5, ti4, ti35, ti23, ti45, hlen], by simp only [go_sem, ti3, ti9, ti5, ti4, ti35, ti23, ti45, hlen, h0], by simp only [go_sem, ti3, ti9, ti5, ti4, ti35, ti23, ti45, hlen, h1], by simp only [go_sem, ti3, ti9, ti5, ti4, ti35, ti23, ti45, hlen, h5], by simp only [go_sem, ti3, ti9, ti5, ti4, ti35, ti23, ti45, hlen, sB, hsm, hk2, Bool.true_or, Bool.false_or, Bool.or_self]⟩
        · rintro ⟨e, ds, s2⟩ ⟨rfl, hlen, h0, h1, h5, h23⟩
          simp only at hlen h0 h1 h5 h23
          refine Wc.cond (t := sB k x) (by simp only [go_sem, ti3, ti9, ti5, ti4, ti35, ti23, ti45, h23]) (fun hc => ?_) (fun hc => ?_)
          · refine Wc.seq ?_
            refine Wc.reg fun K hK => ?_; simp only [go_sem, ti3, ti9, ti5, ti4, ti35, ti23, ti45, hlen]; refine hK _ _ ?_; clear hK K
            rw [bad (sB_iff.1 hc)]
            exact Wc.ret (Pf.ret [.tmp 4] [.c (.p (pI 2))] rfl rfl (by simp only [resultsD, go_sem, ti3, ti9, ti5, ti4, ti35, ti23, ti45, hlen]) rfl)
          rw [if_neg (fun h => by rw [sB_iff.2 h] at hc; cases hc)] at hch
          refine Wc.skip (Wc.seq ?_)
          by_cases hi0 : 0 < i
          · obtain ⟨y, hy⟩ : ∃ y, l[i - 1]? = some y := ⟨l[i - 1], List.getElem?_eq_getElem (by omega)⟩
            have hiy := ixA ti23 rfl ti45 (j := i - 1) (m := l.length) (cs := l.flatMap p2) (by omega) hfl (by decide)
            have hcb := rpA (off := (i - 1) * 2) (drop_flat (f := p2) (k := 2) (fun _ => rfl) hy) (by rw [hfl]; omega)
            have e1 : IntKind.i64.wrap ((i : Int) - 1) = ((i - 1 : Nat) : Int) := by rw [wi64]; omega
            have hd : (0 < (i : Int)) = True := by simp; omega
            have hpr : prevT l i = some y.1 := by unfold prevT; rw [if_neg (by omega), hy]; rfl
            rw [hpr] at hch
            simp only at hch
            refine Wc.regD fun K hK => ?_; simp only [go_sem, ti3, ti9, ti5, ti4, ti35, ti23, ti45, hlen, h0, h1, h5, hix, hca, hiy, hcb, e1, hd]; refine hK _ _ ?_; clear hK K
            refine Wc.cond (t := decide (x.1 ≤ y.1)) (by simp only [go_sem, ti3, ti9, ti5, ti4, ti35, ti23, ti45, hlen, hd]) (fun hc => ?_) (fun hc => ?_)
            · have hxy : x.1 ≤ y.1 := by simpa using hc
              rw [if_pos hxy] at hch
              refine Wc.seq ?_
              refine Wc.reg fun K hK => ?_; simp only [go_sem, ti3, ti9, ti5, ti4, ti35, ti23, ti45, hlen]; refine hK _ _ ?_; clear hK K
              rw [hch]
              exact Wc.ret (Pf.ret [.tmp 4] [.c (.p (pI 9))] rfl rfl (by simp only [resultsD, go_sem, ti3, ti9, ti5, ti4, ti35, ti23, ti45, hlen]) rfl)
            · have hxy : ¬ x.1 ≤ y.1 := by simpa using hc
              rw [if_neg hxy] at hch
              refine Wc.skip ?_
              refine Wc.reg fun K hK => ?_; simp only [go_sem, ti3, ti9, ti5, ti4, ti35, ti23, ti45, hlen, h0, h1, h5, i64n i (by omega)]; refine hK _ _ ?_; clear hK K
              exact ⟨l.length - (i + 1), by omega, i + 1, rfl, by omega, rfl, by simp only [go_sem, ti3, ti9, ti5, ti4, ti35, ti23, ti45, hlen], by simp only [go_sem, ti3, ti9, ti5, ti4, ti35, ti23, ti45, hlen, h0], by simp only [go_sem, ti3, ti9, ti5, ti4, ti35, ti23, ti45, hlen, h1], by simp only [go_sem, ti3, ti9, ti5, ti4, ti35, ti23, ti45, hlen], hch⟩
          · have hd : (0 < (i : Int)) = False := by simp; omega
            have hpr : prevT l i = none := by unfold prevT; rw [if_pos (by omega)]
            rw [hpr] at hch
            simp only at hch
            refine Wc.regD fun K hK => ?_; simp only [go_sem, ti3, ti9, ti5, ti4, ti35, ti23, ti45, hlen, h0, h1, h5, hd]; refine hK _ _ ?_; clear hK K
            refine Wc.cond (t := false) (by simp only [go_sem, ti3, ti9, ti5, ti4, ti35, ti23, ti45, hlen, hd]) (fun hc => by cases hc) (fun hc => ?_)
            refine Wc.skip ?_
            refine Wc.reg fun K hK => ?_; simp only [go_sem, ti3, ti9, ti5, ti4, ti35, ti23, ti45, hlen, h0, h1, h5, i64n i (by omega)]; refine hK _ _ ?_; clear hK K
            exact ⟨l.length - (i + 1), by omega, i + 1, rfl, by omega, rfl, by simp only [go_sem, ti3, ti9, ti5, ti4, ti35, ti23, ti45, hlen], by simp only [go_sem, ti3, ti9, ti5, ti4, ti35, ti23, ti45, hlen, h0], by simp only [go_sem, ti3, ti9, ti5, ti4, ti35, ti23, ti45, hlen, h1], by simp only [go_sem, ti3, ti9, ti5, ti4, ti35, ti23, ti45, hlen], hch⟩
      · have hil : i = l.length := by have : ¬ (i : Int) < l.length := by simpa using hc
                                      omega
        rw [hil, List.drop_length, sck_end] at hch
        exact Wc.exit ⟨hch, rfl, by simp only [go_sem, ti3, ti9, ti5, ti4, ti35, ti23, ti45, hlen]⟩
    · exact ⟨0, rfl, by omega, rfl, by simp only [go_sem, ti3, ti9, ti5, ti4, ti35, ti23, ti45, hlen], by simp only [go_sem, ti3, ti9, ti5, ti4, ti35, ti23, ti45, hlen, h0], by simp only [go_sem, ti3, ti9, ti5, ti4, ti35, ti23, ti45, hlen, h1], by simp only [go_sem, ti3, ti9, ti5, ti4, ti35, ti23, ti45, hlen]; rfl, e0⟩
  · rintro ⟨e, ds, s1⟩ ⟨hch, rfl, hlen⟩
    simp only at hlen
    rw [hch]
    refine Wc.seq ?_
    refine Wc.reg fun K hK => ?_; simp only [go_sem, ti3, ti9, ti5, ti4, ti35, ti23, ti45, hlen]; refine hK _ _ ?_; clear hK K
    exact Wc.ret (Pf.ret [.tmp 4] [.c (.p (pI 0))] rfl rfl (by simp only [resultsD, go_sem, ti3, ti9, ti5, ti4, ti35, ti23, ti45, hlen]) rfl)
end Go.Proofs.YtafaoldmemcigaaGreat.Ab
/- Histograms' buckets: the plain law of their bounds. -/
namespace Go.Proofs.YtafaoldmemcigaaGreat.Ab
set_option linter.unusedVariables false
set_option linter.unusedSimpArgs false
/-- The number of bits. -/
def blen (v : Nat) : Nat := if v = 0 then 0 else v.log2 + 1
theorem blen_iff {v m : Nat} : blen v = m + 1 ↔ 2 ^ m ≤ v ∧ v < 2 ^ (m + 1) := by
  unfold blen
  by_cases h : v = 0
  · subst h
    simp only [if_true]
    constructor
    · intro h; omega
    · rintro ⟨h1, _⟩
      have := Nat.two_pow_pos m
      omega
  · rw [if_neg h, Nat.add_right_cancel_iff]
    exact Nat.log2_eq_iff h
theorem blen_pos {v : Nat} (h : 0 < v) : ∃ m, blen v = m + 1 ∧ 2 ^ m ≤ v ∧ v < 2 ^ (m + 1) := by
  refine ⟨v.log2, ?_, ?_⟩
  · unfold blen; rw [if_neg (by omega)]
  · exact (Nat.log2_eq_iff (by omega)).1 rfl
theorem blen_shift {v n : Nat} (h : 2 ^ n ≤ v) : blen v = n + blen (v / 2 ^ n) := by
  have hp := Nat.two_pow_pos n
  obtain ⟨m, h1, h2, h3⟩ := blen_pos (Nat.div_pos h hp)
  rw [h1, ← Nat.add_assoc]
  refine blen_iff.2 ⟨?_, ?_⟩
  · rw [Nat.pow_add, Nat.mul_comm]
    exact (Nat.le_div_iff_mul_le hp).1 h2
  · rw [Nat.add_assoc, Nat.pow_add, Nat.mul_comm]
    exact (Nat.div_lt_iff_lt_mul hp).1 h3
/-- The index of a value's bucket. -/
def ix (q v : Nat) : Nat := if v < 2 ^ (q + 1) then v else 2 ^ q + ix q (v / 2)
termination_by v
decreasing_by
  have := Nat.two_pow_pos (q + 1)
  omega
theorem ix_lt {q v : Nat} (h : v < 2 ^ (q + 1)) : ix q v = v := by rw [ix, if_pos h]
theorem ix_ge {q v : Nat} (h : 2 ^ (q + 1) ≤ v) : ix q v = 2 ^ q + ix q (v / 2) := by rw [ix, if_neg (by omega)]
theorem ix_closed (q : Nat) : ∀ k v, 2 ^ (q + k) ≤ v → v < 2 ^ (q + k + 1) → ix q v = k * 2 ^ q + v / 2 ^ k
  | 0, v, h1, h2 => by rw [ix_lt (by simpa using h2)]; simp
  | k + 1, v, h1, h2 => by
    have e1 : 2 ^ (q + (k + 1)) = 2 ^ (q + k) * 2 := by rw [← Nat.add_assoc, Nat.pow_succ]
    have e2 : 2 ^ (q + (k + 1) + 1) = 2 ^ (q + k + 1) * 2 := by rw [Nat.pow_succ, ← Nat.add_assoc]
    have h3 : 2 ^ (q + 1) ≤ v := Nat.le_trans (Nat.pow_le_pow_right (by decide) (by omega)) h1
    rw [ix_ge h3, ix_closed q k (v / 2) (by omega) (by omega), Nat.div_div_eq_div_mul, Nat.add_mul, Nat.pow_succ, Nat.mul_comm 2]
    omega
/-- How often a bucket's width is doubled. -/
def kf (q i : Nat) : Nat := i / 2 ^ q - 1
def lo (q i : Nat) : Nat := (i - kf q i * 2 ^ q) * 2 ^ kf q i
def hiU (q i : Nat) : Nat := lo q i + 2 ^ kf q i - 1
def hi (q i : Nat) : Nat := min (hiU q i) 1099511627776
theorem kf_of {q k r : Nat} (h1 : 2 ^ q ≤ r) (h2 : r < 2 ^ q * 2) : kf q (k * 2 ^ q + r) = k := by
  have hp := Nat.two_pow_pos q
  unfold kf
  have : (k * 2 ^ q + r) / 2 ^ q = k + 1 := by
    rw [Nat.div_eq_iff hp]
    rw [Nat.add_mul]
    omega
  omega
theorem lo_of {q k r : Nat} (h1 : 2 ^ q ≤ r) (h2 : r < 2 ^ q * 2) : lo q (k * 2 ^ q + r) = r * 2 ^ k := by
  unfold lo; rw [kf_of h1 h2, Nat.add_sub_cancel_left]
theorem lo_small {q i : Nat} (h : i < 2 ^ q) : lo q i = i ∧ kf q i = 0 := by
  have : kf q i = 0 := by unfold kf; rw [Nat.div_eq_of_lt h]
  exact ⟨by unfold lo; rw [this]; simp, this⟩
/-- Every index is one of the two. -/
theorem ix_form (q i : Nat) : i < 2 ^ q ∨ ∃ k r, i = k * 2 ^ q + r ∧ 2 ^ q ≤ r ∧ r < 2 ^ q * 2 := by
  have hp := Nat.two_pow_pos q
  rcases Nat.lt_or_ge i (2 ^ q) with h | h
  · exact .inl h
  · refine .inr ⟨i / 2 ^ q - 1, 2 ^ q + i % 2 ^ q, ?_, by omega, by have := Nat.mod_lt i hp; omega⟩
    have h1 : 1 ≤ i / 2 ^ q := (Nat.le_div_iff_mul_le hp).2 (by omega)
    have h2 := Nat.div_add_mod i (2 ^ q)
    have h3 : (i / 2 ^ q - 1) * 2 ^ q + 2 ^ q = 2 ^ q * (i / 2 ^ q) := by
      rw [Nat.sub_mul, Nat.one_mul, Nat.mul_comm (2 ^ q)]
      have : 1 * 2 ^ q ≤ i / 2 ^ q * 2 ^ q := Nat.mul_le_mul_right _ h1
      omega
    omega
theorem hiU_succ (q i : Nat) : hiU q i + 1 = lo q (i + 1) := by
  have hp := Nat.two_pow_pos q
  rcases ix_form q i with h | ⟨k, r, rfl, h1, h2⟩
  · obtain ⟨h3, h4⟩ := lo_small h
    have : lo q (i + 1) = i + 1 := by
      rcases Nat.lt_or_ge (i + 1) (2 ^ q) with h5 | h5
      · exact (lo_small h5).1
      · have h6 : i + 1 = 0 * 2 ^ q + 2 ^ q := by omega
        rw [h6, lo_of (Nat.le_refl _) (by omega)]; simp
    unfold hiU
    rw [h3, h4, this]; simp
  · have hk := Nat.two_pow_pos k
    have e : hiU q (k * 2 ^ q + r) + 1 = (r + 1) * 2 ^ k := by
      unfold hiU; rw [lo_of h1 h2, kf_of h1 h2, Nat.add_mul]; omega
    rw [e]
    rcases Nat.lt_or_ge (r + 1) (2 ^ q * 2) with h5 | h5
    · rw [Nat.add_assoc, lo_of (by omega) h5]
    · have h6 : k * 2 ^ q + r + 1 = (k + 1) * 2 ^ q + 2 ^ q := by rw [Nat.add_mul]; omega
      have h7 : r + 1 = 2 ^ q * 2 := by omega
      rw [h6, lo_of (Nat.le_refl _) (by omega), h7, Nat.pow_succ, Nat.mul_assoc, Nat.mul_comm 2]
theorem lo_hiU (q i : Nat) : lo q i ≤ hiU q i := by
  have := Nat.two_pow_pos (kf q i)
  unfold hiU; omega
theorem lo_mono {q i j : Nat} (h : i ≤ j) : lo q i ≤ lo q j := by
  induction h with
  | refl => exact Nat.le_refl _
  | step _ ih => have := hiU_succ q; rename_i m _; have h1 := this m; have h2 := lo_hiU q m; simp only [Nat.succ_eq_add_one]; omega
theorem hiU_lt_lo {q i j : Nat} (h : i < j) : hiU q i < lo q j := by
  have h1 := hiU_succ q i
  have h2 := lo_mono (q := q) (i := i + 1) (j := j) h
  omega
/-- A value lies in its bucket. -/
theorem lo_ix (q v : Nat) : lo q (ix q v) ≤ v ∧ v ≤ hiU q (ix q v) := by
  have hp := Nat.two_pow_pos q
  rcases Nat.lt_or_ge v (2 ^ q) with h | h
  · rw [ix_lt (by rw [Nat.pow_succ]; omega)]
    obtain ⟨h3, h4⟩ := lo_small h
    unfold hiU
    rw [h3, h4]; simp
  · obtain ⟨m, _, h1, h2⟩ := blen_pos (v := v) (by omega)
    have hqm : q ≤ m := by
      rcases Nat.lt_or_ge m q with h3 | h3
      · exfalso
        have : 2 ^ (m + 1) ≤ 2 ^ q := Nat.pow_le_pow_right (by decide) h3
        omega
      · exact h3
    obtain ⟨k, rfl⟩ := Nat.exists_eq_add_of_le hqm
    have hk := Nat.two_pow_pos k
    rw [ix_closed q k v h1 h2]
    have a1 : 2 ^ q ≤ v / 2 ^ k := (Nat.le_div_iff_mul_le hk).2 (by rw [← Nat.pow_add]; exact h1)
    have a2 : v / 2 ^ k < 2 ^ q * 2 := by
      rw [Nat.div_lt_iff_lt_mul hk, ← Nat.pow_succ, ← Nat.pow_add]
      have e : q.succ + k = q + k + 1 := by omega
      rw [e]; exact h2
    unfold hiU
    rw [lo_of a1 a2, kf_of a1 a2]
    have := Nat.div_add_mod v (2 ^ k)
    have h5 := Nat.mod_lt v hk
    rw [Nat.mul_comm (v / 2 ^ k)]
    omega
/-- The last index. -/
theorem ix_last : ∀ q, q ≤ 8 → ix q 1099511627776 = (41 - q) * 2 ^ q := by
  intro q hq
  have e1 : q + (40 - q) = 40 := by omega
  have h := ix_closed q (40 - q) 1099511627776 (by rw [e1]; decide) (by rw [e1]; decide)
  rw [h]
  have : q = 0 ∨ q = 1 ∨ q = 2 ∨ q = 3 ∨ q = 4 ∨ q = 5 ∨ q = 6 ∨ q = 7 ∨ q = 8 := by omega
  rcases this with rfl | rfl | rfl | rfl | rfl | rfl | rfl | rfl | rfl <;> decide
theorem lo_last {q i : Nat} (hq : q ≤ 8) (h : i ≤ (41 - q) * 2 ^ q) : lo q i ≤ 1099511627776 := by
  refine Nat.le_trans (lo_mono h) ?_
  rw [← ix_last q hq]
  exact (lo_ix q 1099511627776).1
end Go.Proofs.YtafaoldmemcigaaGreat.Ab
/- Histograms: the two ways to tell whether there are values with a histogram's numbers come to the same. -/
namespace Go.Proofs.YtafaoldmemcigaaGreat.Ab
set_option linter.unusedVariables false
set_option linter.unusedSimpArgs false
def sumI (f : Nat → Int × Int → Int) : Nat → List (Int × Int) → Int
  | _, [] => 0
  | i, b :: r => f i b + sumI f (i + 1) r
theorem sumI_congr {f g : Nat → Int × Int → Int} : ∀ {l : List (Int × Int)} {i : Nat}, (∀ j b, l[j]? = some b → f (i + j) b = g (i + j) b) → sumI f i l = sumI g i l
  | [], i, h => rfl
  | b :: r, i, h => by
    have h1 : f i b = g i b := h 0 b rfl
    have h2 : sumI f (i + 1) r = sumI g (i + 1) r := sumI_congr fun j c hj => by
      have h3 := h (j + 1) c (by simpa using hj)
      have e : i + 1 + j = i + (j + 1) := by omega
      rw [e]; exact h3
    simp only [sumI, h1, h2]
theorem sumI_add (f g : Nat → Int × Int → Int) : ∀ (l : List (Int × Int)) (i : Nat), sumI (fun i b => f i b + g i b) i l = sumI f i l + sumI g i l
  | [], i => rfl
  | b :: r, i => by simp only [sumI, sumI_add f g r (i + 1)]; omega
theorem sumI_snoc (f : Nat → Int × Int → Int) (c : Int × Int) : ∀ (l : List (Int × Int)) (i : Nat), sumI f i (l ++ [c]) = sumI f i l + f (i + l.length) c
  | [], i => by simp [sumI]
  | b :: r, i => by
    simp only [List.cons_append, sumI, sumI_snoc f c r (i + 1), List.length_cons]
    have e : i + 1 + r.length = i + (r.length + 1) := by omega
    rw [e]; omega
theorem take_snoc' {α : Type} {l : List α} {i : Nat} {x : α} (h : l[i]? = some x) : l.take (i + 1) = l.take i ++ [x] := by
  rw [List.take_add_one, h]; rfl
theorem sumI_take {f : Nat → Int × Int → Int} {l : List (Int × Int)} {i : Nat} {b : Int × Int} (h : l[i]? = some b) : sumI f 0 (l.take (i + 1)) = sumI f 0 (l.take i) + f i b := by
  have hi := (List.getElem?_eq_some_iff.1 h).1
  rw [take_snoc' h, sumI_snoc]
  have : (l.take i).length = i := by simp; omega
  rw [this]; simp
/-- How many values there are. -/
def cnt (l : List (Int × Int)) : Int := sumI (fun _ b => b.2) 0 l
theorem sumI_bound {f : Nat → Int × Int → Int} {m : Int} : ∀ {l : List (Int × Int)} {i : Nat}, (∀ j b, l[j]? = some b → 0 ≤ f (i + j) b ∧ f (i + j) b ≤ m * b.2) → 0 ≤ sumI f i l ∧ sumI f i l ≤ m * sumI (fun _ b => b.2) i l
  | [], i, h => by simp [sumI]
  | b :: r, i, h => by
    have h1 := h 0 b rfl
    have h2 := sumI_bound (f := f) (m := m) (l := r) (i := i + 1) fun j c hj => by
      have := h (j + 1) c (by simpa using hj)
      have e : i + 1 + j = i + (j + 1) := by omega
      rw [e]; exact this
    simp only [sumI, Int.mul_add]
    simp only [Nat.add_zero] at h1
    omega
theorem cnt_le {l : List (Int × Int)} (h : ∀ b ∈ l, 1 ≤ b.2) : ∀ i, 0 ≤ cnt (l.take i) ∧ cnt (l.take i) ≤ cnt l := by
  have gen : ∀ (l : List (Int × Int)) (k : Nat), (∀ b ∈ l, 1 ≤ b.2) → 0 ≤ sumI (fun _ b => b.2) k l := by
    intro l
    induction l with
    | nil => intro k _; simp [sumI]
    | cons b r ih =>
      intro k h
      have h1 := h b (by simp)
      have h2 := ih (k + 1) fun c hc => h c (by simp [hc])
      simp only [sumI]; omega
  have gen2 : ∀ (l : List (Int × Int)) (k i : Nat), (∀ b ∈ l, 1 ≤ b.2) → sumI (fun _ b => b.2) k (l.take i) ≤ sumI (fun _ b => b.2) k l := by
    intro l
    induction l with
    | nil => intro k i _; simp [sumI]
    | cons b r ih =>
      intro k i h
      cases i with
      | zero => exact gen _ _ h
      | succ i =>
        have h2 := ih (k + 1) i fun c hc => h c (by simp [hc])
        simp only [List.take_succ_cons, sumI]; omega
  intro i
  exact ⟨gen _ _ fun b hb => h b (List.mem_of_mem_take hb), gen2 _ _ _ h⟩
abbrev mxv : Int := 1099511627776
def leastP (q : Nat) (mn mx : Int) (bs : List (Int × Int)) (last : Int × Int) : Int := sumI (fun _ b => max (lo q b.1.toNat : Int) mn * b.2) 0 bs + (mx - max (lo q last.1.toNat : Int) mn)
def greatP (q : Nat) (mn mx : Int) (bs : List (Int × Int)) (first : Int × Int) : Int := sumI (fun _ b => min (hi q b.1.toNat : Int) mx * b.2) 0 bs - (min (hi q first.1.toNat : Int) mx - mn)
def lowR (q : Nat) (mn : Int) (i : Nat) (b : Int × Int) : Int := if i = 0 then mn else (lo q b.1.toNat : Int)
def highR (q : Nat) (mx : Int) (n i : Nat) (b : Int × Int) : Int := if i + 1 = n then mx else (hi q b.1.toNat : Int)
def termL (q : Nat) (mn : Int) (n i : Nat) (b : Int × Int) : Int := lowR q mn i b * b.2 + (if i + 1 = n then mn - lowR q mn i b else 0)
def termM (q : Nat) (mx : Int) (n i : Nat) (b : Int × Int) : Int := highR q mx n i b * b.2 + (if i = 0 then mx - highR q mx n i b else 0)
def leastR (q : Nat) (mn mx : Int) (bs : List (Int × Int)) : Int := (mx - mn) + sumI (termL q mn bs.length) 0 bs
def mostR (q : Nat) (mn mx : Int) (bs : List (Int × Int)) : Int := (mn - mx) + sumI (termM q mx bs.length) 0 bs
theorem sumI_lastT (d : Nat → Int × Int → Int) (n : Nat) : ∀ (l : List (Int × Int)) (i : Nat) (last : Int × Int), i + l.length = n → l[l.length - 1]? = some last → sumI (fun i b => if i + 1 = n then d i b else 0) i l = d (n - 1) last
  | [], i, last, h, hl => by simp at hl
  | [b], i, last, h, hl => by
    simp only [List.length_cons, List.length_nil] at h hl
    simp at hl
    subst hl
    simp only [sumI]
    rw [if_pos (by omega)]
    have : n - 1 = i := by omega
    rw [this]; omega
  | b :: c :: r, i, last, h, hl => by
    have h1 := sumI_lastT d n (c :: r) (i + 1) last (by simp only [List.length_cons] at h ⊢; omega) (by simpa using hl)
    rw [sumI, h1, if_neg (by simp only [List.length_cons] at h; omega)]; omega
theorem sumI_firstT (d : Nat → Int × Int → Int) : ∀ (l : List (Int × Int)) (i : Nat), 1 ≤ i → sumI (fun i b => if i = 0 then d i b else 0) i l = 0
  | [], i, _ => rfl
  | b :: r, i, h => by rw [sumI, sumI_firstT d r (i + 1) (by omega), if_neg (by omega)]; rfl
/-- What is told of the buckets. -/
structure BsOK (q : Nat) (bs : List (Int × Int)) : Prop where
  lo0 : ∀ b ∈ bs, 0 ≤ b.1 ∧ b.1 ≤ ((41 - q) * 2 ^ q : Nat)
  cn : ∀ b ∈ bs, 1 ≤ b.2
  asc : ∀ (i j : Nat) (b c : Int × Int), i < j → bs[i]? = some b → bs[j]? = some c → b.1 < c.1
section
variable {q : Nat} {bs : List (Int × Int)} {mn mx : Int} {f l : Int × Int}
theorem low_eq (hb : BsOK q bs) (hf : bs[0]? = some f) (h0 : 0 ≤ mn) (h1 : (ix q mn.toNat : Int) = f.1) {i : Nat} {b : Int × Int} (hi : bs[i]? = some b) : max (lo q b.1.toNat : Int) mn = lowR q mn i b := by
  obtain ⟨a1, a2⟩ := lo_ix q mn.toNat
  have ef : f.1.toNat = ix q mn.toNat := by omega
  rw [← ef] at a1 a2
  unfold lowR
  split
  · rename_i h; subst h
    rw [hf] at hi; cases hi
    omega
  · rename_i h
    have h2 := hb.asc 0 i f b (by omega) hf hi
    have h3 := (hb.lo0 f (List.mem_of_getElem? hf)).1
    have h4 := hiU_lt_lo (q := q) (i := f.1.toNat) (j := b.1.toNat) (by omega)
    omega
theorem high_eq (hb : BsOK q bs) (hl : bs[bs.length - 1]? = some l) (h0 : 0 ≤ mx) (hM : mx ≤ mxv) (h1 : (ix q mx.toNat : Int) = l.1) {i : Nat} {b : Int × Int} (hib : bs[i]? = some b) : min (hi q b.1.toNat : Int) mx = highR q mx bs.length i b := by
  obtain ⟨a1, a2⟩ := lo_ix q mx.toNat
  have el : l.1.toNat = ix q mx.toNat := by omega
  rw [← el] at a1 a2
  have hil := (List.getElem?_eq_some_iff.1 hib).1
  have ehi : hi q b.1.toNat = min (hiU q b.1.toNat) 1099511627776 := rfl
  simp only [mxv] at hM
  unfold highR
  split
  · rename_i h
    have : i = bs.length - 1 := by omega
    subst this
    rw [hl] at hib; cases hib
    omega
  · rename_i h
    have h2 := hb.asc i (bs.length - 1) b l (by omega) hib hl
    have h3 := (hb.lo0 b (List.mem_of_getElem? hib)).1
    have h4 := hiU_lt_lo (q := q) (i := b.1.toNat) (j := l.1.toNat) (by omega)
    omega
theorem least_eq (hb : BsOK q bs) (hf : bs[0]? = some f) (hl : bs[bs.length - 1]? = some l) (h0 : 0 ≤ mn) (h1 : (ix q mn.toNat : Int) = f.1) : leastR q mn mx bs = leastP q mn mx bs l := by
  have hne : bs.length ≠ 0 := by have := (List.getElem?_eq_some_iff.1 hf).1; omega
  have e1 : sumI (fun i b => if i + 1 = bs.length then mn - lowR q mn i b else 0) 0 bs = mn - lowR q mn (bs.length - 1) l := sumI_lastT (fun i b => mn - lowR q mn i b) bs.length bs 0 l (by simp) hl
  have e2 : sumI (fun _ b => max (lo q b.1.toNat : Int) mn * b.2) 0 bs = sumI (fun i b => lowR q mn i b * b.2) 0 bs := sumI_congr fun j b hj => by rw [low_eq hb hf h0 h1 hj, Nat.zero_add]
  have e3 := low_eq hb hf h0 h1 hl
  have e4 : sumI (termL q mn bs.length) 0 bs = sumI (fun i b => lowR q mn i b * b.2) 0 bs + sumI (fun i b => if i + 1 = bs.length then mn - lowR q mn i b else 0) 0 bs := sumI_add _ _ _ _
  unfold leastR leastP
  rw [e4, e1, e2, e3]; omega
theorem most_eq (hb : BsOK q bs) (hf : bs[0]? = some f) (hl : bs[bs.length - 1]? = some l) (h0 : 0 ≤ mx) (hM : mx ≤ mxv) (h1 : (ix q mx.toNat : Int) = l.1) : mostR q mn mx bs = greatP q mn mx bs f := by
  have e1 : sumI (fun i b => if i = 0 then mx - highR q mx bs.length i b else 0) 0 bs = mx - highR q mx bs.length 0 f := by
    cases bs with
    | nil => simp at hf
    | cons b r =>
      simp at hf; subst hf
      rw [sumI, sumI_firstT _ r 1 (Nat.le_refl _)]; simp
  have e2 : sumI (fun _ b => min (hi q b.1.toNat : Int) mx * b.2) 0 bs = sumI (fun i b => highR q mx bs.length i b * b.2) 0 bs := sumI_congr fun j b hj => by rw [high_eq hb hl h0 hM h1 hj, Nat.zero_add]
  have e3 := high_eq hb hl h0 hM h1 hf
  have e4 : sumI (termM q mx bs.length) 0 bs = sumI (fun i b => highR q mx bs.length i b * b.2) 0 bs + sumI (fun i b => if i = 0 then mx - highR q mx bs.length i b else 0) 0 bs := sumI_add _ _ _ _
  unfold mostR greatP
  rw [e4, e1, e2, e3]; omega
end
/-- The program's way. -/
def agr1 (q : Nat) (s mn mx : Int) (bs : List (Int × Int)) (f l : Int × Int) (t : Int) : Bool :=
  if mn < 0 ∨ mxv < mn ∨ mx < 0 ∨ mxv < mx ∨ mx < mn then false
  else if (ix q mn.toNat : Int) ≠ f.1 ∨ (ix q mx.toNat : Int) ≠ l.1 then false
  else if t = 1 ∧ mn ≠ mx then false
  else decide (leastP q mn mx bs l ≤ s) && decide (s ≤ greatP q mn mx bs f)
/-- The reference's way. -/
def fit1 (q : Nat) (s mn mx : Int) (bs : List (Int × Int)) (f l : Int × Int) (t : Int) : Bool :=
  if mn < 0 ∨ mxv < mx ∨ mx < mn then false
  else if (ix q mn.toNat : Int) ≠ f.1 ∨ (ix q mx.toNat : Int) ≠ l.1 then false
  else if t = 1 then decide (mn = mx) && decide (s = mn)
  else decide (leastR q mn mx bs ≤ s) && decide (s ≤ mostR q mn mx bs)
theorem cnt_one {bs : List (Int × Int)} (h : ∀ b ∈ bs, 1 ≤ b.2) (hc : cnt bs = 1) : ∃ b, bs = [b] ∧ b.2 = 1 := by
  match bs, hc with
  | [], hc => simp [cnt, sumI] at hc
  | [b], hc => exact ⟨b, rfl, by simpa [cnt, sumI] using hc⟩
  | b :: c :: r, hc =>
    exfalso
    have h1 := h b (by simp)
    have h2 := h c (by simp)
    have h3 := (cnt_le (l := b :: c :: r) h 2).2
    simp only [List.take_succ_cons, List.take_zero, cnt, sumI] at h3
    simp only [cnt, sumI] at hc
    omega
theorem fit_agr {q : Nat} {s mn mx : Int} {bs : List (Int × Int)} {f l : Int × Int} {t : Int} (hb : BsOK q bs) (hf : bs[0]? = some f) (hl : bs[bs.length - 1]? = some l) (ht : t = cnt bs) : fit1 q s mn mx bs f l t = agr1 q s mn mx bs f l t := by
  have hmxv : mxv = 1099511627776 := rfl
  unfold fit1 agr1
  by_cases h1 : mn < 0 ∨ mxv < mx ∨ mx < mn
  · have n2 : mn < 0 ∨ mxv < mn ∨ mx < 0 ∨ mxv < mx ∨ mx < mn := by omega
    rw [if_pos h1, if_pos n2]
  have n2 : ¬ (mn < 0 ∨ mxv < mn ∨ mx < 0 ∨ mxv < mx ∨ mx < mn) := by omega
  rw [if_neg h1, if_neg n2]
  by_cases h2 : (ix q mn.toNat : Int) ≠ f.1 ∨ (ix q mx.toNat : Int) ≠ l.1
  · rw [if_pos h2, if_pos h2]
  rw [if_neg h2, if_neg h2]
  have h3 : (ix q mn.toNat : Int) = f.1 := by omega
  have h4 : (ix q mx.toNat : Int) = l.1 := by omega
  have hL := least_eq (mx := mx) hb hf hl (by omega) h3
  have hM := most_eq (mn := mn) hb hf hl (by omega) (by omega) h4
  by_cases h5 : t = 1
  · rw [if_pos h5]
    by_cases h6 : mn = mx
    · have n3 : ¬ (t = 1 ∧ mn ≠ mx) := by omega
      rw [if_neg n3, ← hL, ← hM]
      obtain ⟨b, rfl, hb2⟩ := cnt_one hb.cn (by omega)
      simp only [leastR, mostR, sumI, termL, termM, lowR, highR, List.length_cons, List.length_nil, if_true, hb2]
      rw [Bool.eq_iff_iff]
      simp only [Bool.and_eq_true, decide_eq_true_eq]
      omega
    · rw [if_pos ⟨h5, h6⟩]
      simp [h6]
  · have n3 : ¬ (t = 1 ∧ mn ≠ mx) := by omega
    rw [if_neg h5, if_neg n3, hL, hM]
end Go.Proofs.YtafaoldmemcigaaGreat.Ab
