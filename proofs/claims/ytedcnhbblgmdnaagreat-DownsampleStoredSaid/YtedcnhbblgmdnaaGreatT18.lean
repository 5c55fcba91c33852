/- A part of the proof: an evaluator of the code, its contracts, the law. No condition. -/
import Derived.Test.YtedcnhbblgmdnaaGreatT17
namespace Go.Proofs.YtedcnhbblgmdnaaGreat.Ab
set_option maxHeartbeats 8000000
set_option maxRecDepth 10000
set_option linter.unusedSimpArgs false
set_option linter.unusedVariables false
/-- 184: isValue -/
theorem pf224 (n : Int) : Pf E0 224 [.c (.p (.int .i64 n))] (P' (.bool (isVl n))) := by
  refine Pf.body (fn := Tryz.f224) (by kernel_rfl) rfl ?_; simp only [List.map_cons, List.map_nil, List.cons_append, List.nil_append, List.length_cons, List.length_nil, Tryz.ntmps224, List.replicate, Nat.reduceSub, Nat.reduceAdd]
  refine Wc.seq ?_
  refine Wc.reg fun K hK => ?_; simp only [go_sem, ti3, ti4, ti32, ti41, ti242]; refine hK _ _ ?_; clear hK K
  refine Wc.seq ?_
  by_cases h : -1099511627776 ≤ n
  · refine Wc.reg fun K hK => ?_; simp only [go_sem, ti3, ti4, ti32, ti41, ti242, h]; refine hK _ _ ?_; clear hK K
    exact Wc.ret (Pf.ret [.tmp 2] [.c (.p (.bool (isVl n)))] rfl rfl (by simp only [resultsD, go_sem, ti3, ti4, ti32, ti41, ti242, isVl, h, Bool.true_and]) rfl)
  · refine Wc.reg fun K hK => ?_; simp only [go_sem, ti3, ti4, ti32, ti41, ti242, h]; refine hK _ _ ?_; clear hK K
    exact Wc.ret (Pf.ret [.tmp 2] [.c (.p (.bool (isVl n)))] rfl rfl (by simp only [resultsD, go_sem, ti3, ti4, ti32, ti41, ti242, isVl, h, Bool.false_and]) rfl)
def okV (k v : Int) : Bool := isVl v && !((k == 2) && decide (v < 0))
theorem mulB {c v : Int} (h1 : 1 ≤ c) (h2 : c ≤ 2000) (h3 : -1099511627776 ≤ v) (h4 : v ≤ 1099511627776) : -2199023255552000 ≤ c * v ∧ c * v ≤ 2199023255552000 := by
  rcases Int.le_total 0 v with h | h
  · have a := Int.mul_le_mul_of_nonneg_right h2 h
    have b := Int.mul_nonneg (show 0 ≤ c by omega) h
    omega
  · have a := Int.mul_le_mul_of_nonneg_right h2 (show 0 ≤ -v by omega)
    have b := Int.mul_nonneg (show 0 ≤ c by omega) (show 0 ≤ -v by omega)
    rw [Int.mul_neg, Int.mul_neg] at a
    rw [Int.mul_neg] at b
    omega
/-- A bucket's fields but Start, for Start and width in range. -/
def bkA1 (w : Int) (b : Bkt) : Bool := decide (b.ft ≤ b.st) || decide (b.lt < b.ft) || decide (b.st + w < b.lt) || decide (1099511627776 < b.lt)
def bkA2 (b : Bkt) : Bool := decide (b.c < 1) || decide (2000 < b.c) || ((b.ft == b.lt) != (b.c == 1))
def bkA3 (k : Int) (b : Bkt) : Bool := okV k b.mn && (okV k b.mx && (okV k b.f && okV k b.l))
def bkA4 (b : Bkt) : Bool := decide (b.f < b.mn) || decide (b.mx < b.f) || decide (b.l < b.mn) || decide (b.mx < b.l)
def bkA5 (b : Bkt) : Bool := decide (b.s < b.c * b.mn) || decide (b.c * b.mx < b.s)
def bkA6 (k : Int) (b : Bkt) : Bool := ((k == 1) && (b.inc != 0)) || decide (b.inc < 0) || decide ((b.c - 1) * 1099511627776 < b.inc)
def bkA7 (b : Bkt) : Bool := decide (1 < b.c) || ((((b.s == b.mn) && (b.mn == b.mx)) && (b.f == b.mn)) && (b.l == b.mn))
def bkA (k w : Int) (b : Bkt) : Bool := !bkA1 w b && (!bkA2 b && (bkA3 k b && (!bkA4 b && (!bkA5 b && (!bkA6 k b && bkA7 b)))))
theorem bne_false {a b : Bool} : (a != b) = !(a == b) := rfl
/-- 114: validBucket -/
theorem pf155 (b : Bkt) (k w : Int) (hs : 0 ≤ b.st ∧ b.st < 1099511627776) (hw : 1 ≤ w ∧ w ≤ 1099511627776) : Pf E0 155 [.agg (b.pd.map .p), .c (.p (pI k)), .c (.p (pI w))] (P' (.bool (bkA k w b))) := by
  have w1 : IntKind.i64.wrap (b.st + w) = b.st + w := by rw [wi64]; omega
  generalize hR : bkA k w b = R
  unfold bkA at hR
  refine Pf.body (fn := Tryz.f155) (by kernel_rfl) rfl ?_; simp only [List.map_cons, List.map_nil, List.cons_append, List.nil_append, List.length_cons, List.length_nil, Tryz.ntmps155, List.replicate, Nat.reduceSub, Nat.reduceAdd]
  refine Wc.seq ?_
  refine Wc.reg fun K hK => ?_; simp only [go_sem, ti3, ti4, ti32, ti41, ti242]; refine hK _ _ ?_; clear hK K
  have hF : True := trivial
  refine Wc.seqR (fun y => bkA1 w b = false ∧ y.ds = [] ∧ Fs y.e 174 [(1, P' (pI k)), (2, P' (pI w)), (3, .v (.c (.ref 0 0)))] ∧ OA y.s.nx y.s [] [(0, .cells (b.pd.map .p) false)]) ?_ ?_
  · refine Wc.seq ?_
    have bad : bkA1 w b = true → false = R := fun h => by rw [← hR, h]; rfl
    unfold bkA1 at bad ⊢
    rcases Bool.eq_false_or_eq_true (decide (b.ft ≤ b.st)) with z1 | z1
    · refine Wc.reg fun K hK => ?_; simp only [go_sem, ti3, ti4, ti32, ti41, ti242, w1, z1]; refine hK _ _ ?_; clear hK K
      refine Wc.cond (t := true) (by simp only [go_sem, ti3, ti4, ti32, ti41, ti242, w1, z1]) (fun _ => ?_) (fun hc => by cases hc)
      refine Wc.seq ?_
      refine Wc.reg fun K hK => ?_; simp only [go_sem, ti3, ti4, ti32, ti41, ti242]; refine hK _ _ ?_; clear hK K
      rw [← bad (by simp only [z1]; rfl)]
      exact Wc.ret (Pf.ret [.tmp 6] [.c (.p (.bool false))] rfl rfl (by simp only [resultsD, go_sem, ti3, ti4, ti32, ti41, ti242]) rfl)
    rcases Bool.eq_false_or_eq_true (decide (b.lt < b.ft)) with z2 | z2
    · refine Wc.reg fun K hK => ?_; simp only [go_sem, ti3, ti4, ti32, ti41, ti242, w1, z1, z2]; refine hK _ _ ?_; clear hK K
      refine Wc.cond (t := true) (by simp only [go_sem, ti3, ti4, ti32, ti41, ti242, w1, z1, z2]) (fun _ => ?_) (fun hc => by cases hc)
      refine Wc.seq ?_
      refine Wc.reg fun K hK => ?_; simp only [go_sem, ti3, ti4, ti32, ti41, ti242]; refine hK _ _ ?_; clear hK K
      rw [← bad (by simp only [z1, z2]; rfl)]
      exact Wc.ret (Pf.ret [.tmp 6] [.c (.p (.bool false))] rfl rfl (by simp only [resultsD, go_sem, ti3, ti4, ti32, ti41, ti242]) rfl)
    rcases Bool.eq_false_or_eq_true (decide (b.st + w < b.lt)) with z3 | z3
    · refine Wc.reg fun K hK => ?_; simp only [go_sem, ti3, ti4, ti32, ti41, ti242, w1, z1, z2, z3]; refine hK _ _ ?_; clear hK K
      refine Wc.cond (t := true) (by simp only [go_sem, ti3, ti4, ti32, ti41, ti242, w1, z1, z2, z3]) (fun _ => ?_) (fun hc => by cases hc)
      refine Wc.seq ?_
      refine Wc.reg fun K hK => ?_; simp only [go_sem, ti3, ti4, ti32, ti41, ti242]; refine hK _ _ ?_; clear hK K
      rw [← bad (by simp only [z1, z2, z3]; rfl)]
      exact Wc.ret (Pf.ret [.tmp 6] [.c (.p (.bool false))] rfl rfl (by simp only [resultsD, go_sem, ti3, ti4, ti32, ti41, ti242]) rfl)
    rcases Bool.eq_false_or_eq_true (decide (1099511627776 < b.lt)) with z4 | z4
    · refine Wc.reg fun K hK => ?_; simp only [go_sem, ti3, ti4, ti32, ti41, ti242, w1, z1, z2, z3, z4]; refine hK _ _ ?_; clear hK K
      refine Wc.cond (t := true) (by simp only [go_sem, ti3, ti4, ti32, ti41, ti242, w1, z1, z2, z3, z4]) (fun _ => ?_) (fun hc => by cases hc)
      refine Wc.seq ?_
      refine Wc.reg fun K hK => ?_; simp only [go_sem, ti3, ti4, ti32, ti41, ti242]; refine hK _ _ ?_; clear hK K
      rw [← bad (by simp only [z1, z2, z3, z4]; rfl)]
      exact Wc.ret (Pf.ret [.tmp 6] [.c (.p (.bool false))] rfl rfl (by simp only [resultsD, go_sem, ti3, ti4, ti32, ti41, ti242]) rfl)
    refine Wc.reg fun K hK => ?_; simp only [go_sem, ti3, ti4, ti32, ti41, ti242, w1, z1, z2, z3, z4]; refine hK _ _ ?_; clear hK K
    refine Wc.cond (t := false) (by simp only [go_sem, ti3, ti4, ti32, ti41, ti242, w1, z1, z2, z3, z4]) (fun hc => by cases hc) (fun _ => Wc.skip ?_)
    exact ⟨by simp only [z1, z2, z3, z4]; rfl, rfl, by simp only [Fs, Int.natCast_zero, go_sem, ti3, ti4, ti32, ti41, ti242], by (try simp only [St.nx_put, St.nx_adv]); repeat (first | exact OA.mono s00_oa (by omega) | refine OA.newB ?_ (by omega) rfl | refine OA.advB ?_)⟩
  clear hF
  rintro ⟨e, ds, s1⟩ ⟨c1, rfl, hF, ho⟩
  simp only [Fs] at hF ho
  have g0 := ho.at_ (0, .cells (b.pd.map .p) false) (by simp)
  simp only [List.map_cons, List.map_nil] at g0
  rw [c1] at hR
  refine Wc.seqR (fun y => (bkA2 b = false ∧ 1 ≤ b.c ∧ b.c ≤ 2000) ∧ y.ds = [] ∧ Fs y.e 174 [(1, P' (pI k)), (2, P' (pI w)), (3, .v (.c (.ref 0 0)))] ∧ OA y.s.nx y.s [] [(0, .cells (b.pd.map .p) false)]) ?_ ?_
  · refine Wc.seq ?_
    have bad : bkA2 b = true → false = R := fun h => by rw [← hR, h]; rfl
    unfold bkA2 at bad ⊢
    rcases Bool.eq_false_or_eq_true (decide (b.c < 1)) with z1 | z1
    · refine Wc.reg fun K hK => ?_; simp only [go_sem, ti3, ti4, ti32, ti41, ti242, hF, g0, z1]; refine hK _ _ ?_; clear hK K
      refine Wc.cond (t := true) (by simp only [go_sem, ti3, ti4, ti32, ti41, ti242, hF, g0, z1]) (fun _ => ?_) (fun hc => by cases hc)
      refine Wc.seq ?_
      refine Wc.reg fun K hK => ?_; simp only [go_sem, ti3, ti4, ti32, ti41, ti242, hF]; refine hK _ _ ?_; clear hK K
      rw [← bad (by simp only [bne_false, z1]; rfl)]
      exact Wc.ret (Pf.ret [.tmp 6] [.c (.p (.bool false))] rfl rfl (by simp only [resultsD, go_sem, ti3, ti4, ti32, ti41, ti242, hF]) rfl)
    rcases Bool.eq_false_or_eq_true (decide (2000 < b.c)) with z2 | z2
    · refine Wc.reg fun K hK => ?_; simp only [go_sem, ti3, ti4, ti32, ti41, ti242, hF, g0, z1, z2]; refine hK _ _ ?_; clear hK K
      refine Wc.cond (t := true) (by simp only [go_sem, ti3, ti4, ti32, ti41, ti242, hF, g0, z1, z2]) (fun _ => ?_) (fun hc => by cases hc)
      refine Wc.seq ?_
      refine Wc.reg fun K hK => ?_; simp only [go_sem, ti3, ti4, ti32, ti41, ti242, hF]; refine hK _ _ ?_; clear hK K
      rw [← bad (by simp only [bne_false, z1, z2]; rfl)]
      exact Wc.ret (Pf.ret [.tmp 6] [.c (.p (.bool false))] rfl rfl (by simp only [resultsD, go_sem, ti3, ti4, ti32, ti41, ti242, hF]) rfl)
    rcases Bool.eq_false_or_eq_true (!((b.ft == b.lt) == (b.c == 1))) with z3 | z3
    · refine Wc.reg fun K hK => ?_; simp only [go_sem, ti3, ti4, ti32, ti41, ti242, hF, g0, z1, z2, z3]; refine hK _ _ ?_; clear hK K
      refine Wc.cond (t := true) (by simp only [go_sem, ti3, ti4, ti32, ti41, ti242, hF, g0, z1, z2, z3]) (fun _ => ?_) (fun hc => by cases hc)
      refine Wc.seq ?_
      refine Wc.reg fun K hK => ?_; simp only [go_sem, ti3, ti4, ti32, ti41, ti242, hF]; refine hK _ _ ?_; clear hK K
      rw [← bad (by simp only [bne_false, z1, z2, z3]; rfl)]
      exact Wc.ret (Pf.ret [.tmp 6] [.c (.p (.bool false))] rfl rfl (by simp only [resultsD, go_sem, ti3, ti4, ti32, ti41, ti242, hF]) rfl)
    refine Wc.reg fun K hK => ?_; simp only [go_sem, ti3, ti4, ti32, ti41, ti242, hF, g0, z1, z2, z3]; refine hK _ _ ?_; clear hK K
    refine Wc.cond (t := false) (by simp only [go_sem, ti3, ti4, ti32, ti41, ti242, hF, g0, z1, z2, z3]) (fun hc => by cases hc) (fun _ => Wc.skip ?_)
    exact ⟨⟨by simp only [bne_false, z1, z2, z3]; rfl, by have := of_decide_eq_false z1; omega, by have := of_decide_eq_false z2; omega⟩, rfl, by simp only [Fs, Int.natCast_zero, go_sem, ti3, ti4, ti32, ti41, ti242, hF], by (try simp only [St.nx_put, St.nx_adv]); repeat (first | exact OA.mono ho (by omega) | refine OA.newB ?_ (by omega) rfl | refine OA.advB ?_)⟩
  clear hF ho g0 e s1
  rintro ⟨e, ds, s1⟩ ⟨⟨c2, hc1, hc2⟩, rfl, hF, ho⟩
  simp only [Fs] at hF ho
  have g0 := ho.at_ (0, .cells (b.pd.map .p) false) (by simp)
  simp only [List.map_cons, List.map_nil] at g0
  rw [c2] at hR
  refine Wc.seqR (fun y => bkA3 k b = true ∧ y.ds = [] ∧ Fs y.e 174 [(1, P' (pI k)), (2, P' (pI w)), (3, .v (.c (.ref 0 0)))] ∧ OA y.s.nx y.s [] [(0, .cells (b.pd.map .p) false)]) ?_ ?_
  · refine Wc.seq ?_
    have bad : ∀ v, (v = b.mn ∨ v = b.mx ∨ v = b.f ∨ v = b.l) → okV k v = false → false = R := fun v hv h => by
      rw [← hR]
      have : bkA3 k b = false := by
        unfold bkA3
        rcases hv with rfl | rfl | rfl | rfl <;> simp [h]
      rw [this]; rfl
    refine Wc.reg fun K hK => ?_; simp only [go_sem, ti3, ti4, ti32, ti41, ti242, hF, g0]; refine hK _ _ ?_; clear hK K
    refine Wc.block (Wc.loop (fun c y => ∃ i : Nat, c = 4 - i ∧ i ≤ 4 ∧ y.ds = [] ∧ Fs y.e 174 [(1, P' (pI k)), (2, P' (pI w)), (3, .v (.c (.ref 0 0))), (62, .v (.agg [.p (pI b.mn), .p (pI b.mx), .p (pI b.f), .p (pI b.l)])), (63, P' (pI i))] ∧ OA y.s.nx y.s [] [(0, .cells (b.pd.map .p) false)] ∧ ((1 ≤ i → okV k b.mn = true) ∧ (2 ≤ i → okV k b.mx = true) ∧ (3 ≤ i → okV k b.f = true) ∧ (4 ≤ i → okV k b.l = true))) ?_ (k := 4) ?_)
    · clear hF ho g0 e s1
      rintro c ⟨e, ds, s1⟩ ⟨i, rfl, hi, rfl, hF, ho, hok⟩
      simp only [Fs] at hF ho
      refine Wc.seq ?_
      refine Wc.reg fun K hK => ?_; simp only [go_sem, ti3, ti4, ti32, ti41, ti242, hF]; refine hK _ _ ?_; clear hK K
      refine Wc.seq (Wc.cond (t := decide ((i : Int) < 4)) (by simp only [go_sem, ti3, ti4, ti32, ti41, ti242, hF]) (fun hc => ?_) (fun hc => ?_))
      · have hil : i < 4 := by have := of_decide_eq_true hc; omega
        obtain ⟨v, hvi, hvm, hnx⟩ : ∃ v, List.take 1 (List.drop i [C.p (pI b.mn), C.p (pI b.mx), C.p (pI b.f), C.p (pI b.l)]) = [C.p (pI v)] ∧ (v = b.mn ∨ v = b.mx ∨ v = b.f ∨ v = b.l) ∧ (okV k v = true → (1 ≤ i + 1 → okV k b.mn = true) ∧ (2 ≤ i + 1 → okV k b.mx = true) ∧ (3 ≤ i + 1 → okV k b.f = true) ∧ (4 ≤ i + 1 → okV k b.l = true)) := by
          obtain ⟨k1, k2, k3, k4⟩ := hok
          rcases (show i = 0 ∨ i = 1 ∨ i = 2 ∨ i = 3 by omega) with rfl | rfl | rfl | rfl
          · exact ⟨b.mn, rfl, .inl rfl, fun h => ⟨fun _ => h, fun h => by omega, fun h => by omega, fun h => by omega⟩⟩
          · exact ⟨b.mx, rfl, .inr (.inl rfl), fun h => ⟨fun _ => k1 (by omega), fun _ => h, fun h => by omega, fun h => by omega⟩⟩
          · exact ⟨b.f, rfl, .inr (.inr (.inl rfl)), fun h => ⟨fun _ => k1 (by omega), fun _ => k2 (by omega), fun _ => h, fun h => by omega⟩⟩
          · exact ⟨b.l, rfl, .inr (.inr (.inr rfl)), fun h => ⟨fun _ => k1 (by omega), fun _ => k2 (by omega), fun _ => k3 (by omega), fun _ => h⟩⟩
        have h4 : ((i : Int) < ((4 : Nat) : Int)) = True := by simp; omega
        have h5 : (i + 1 ≤ 4) = True := by simp; omega
        refine Wc.skip (Wc.seq (Wc.block (Wc.seq ?_)))
        refine Wc.reg fun K hK => ?_; simp only [go_sem, ti3, ti4, ti32, ti41, ti242, hF, h4, h5, hvi]; refine hK _ _ ?_; clear hK K
        refine Wc.seq ?_
        have hokv : okV k v = (isVl v && !((k == 2) && decide (v < 0))) := rfl
        have p := pf224 v
        have good : okV k v = true → (1 ≤ i + 1 → okV k b.mn = true) ∧ (2 ≤ i + 1 → okV k b.mx = true) ∧ (3 ≤ i + 1 → okV k b.f = true) ∧ (4 ≤ i + 1 → okV k b.l = true) := hnx
        cases hI : isVl v with
        | false =>
          rw [hI] at p
          refine Wc.reg fun K hK => ?_; simp only [go_sem, ti3, ti4, ti32, ti41, ti242, hF]
          refine wpCall.pf p (by kernel_rfl) (by kernel_rfl) rfl rfl ?_
          simp only [go_sem, ti3, ti4, ti32, ti41, ti242, hF]; refine hK _ _ ?_; clear hK K
          refine Wc.cond (t := true) (by simp only [go_sem, ti3, ti4, ti32, ti41, ti242, hF]) (fun _ => ?_) (fun hc => by cases hc)
          refine Wc.seq ?_
          refine Wc.reg fun K hK => ?_; simp only [go_sem, ti3, ti4, ti32, ti41, ti242, hF]; refine hK _ _ ?_; clear hK K
          rw [← bad v hvm (by rw [hokv, hI]; rfl)]
          exact Wc.ret (Pf.ret [.tmp 6] [.c (.p (.bool false))] rfl rfl (by simp only [resultsD, go_sem, ti3, ti4, ti32, ti41, ti242, hF]) rfl)
        | true =>
          rw [hI] at p
          cases hk2 : (k == 2) with
          | false =>
            refine Wc.reg fun K hK => ?_; simp only [go_sem, ti3, ti4, ti32, ti41, ti242, hF]
            refine wpCall.pf p (by kernel_rfl) (by kernel_rfl) rfl rfl ?_
            simp only [go_sem, ti3, ti4, ti32, ti41, ti242, hF, hk2]; refine hK _ _ ?_; clear hK K
            refine Wc.cond (t := false) (by simp only [go_sem, ti3, ti4, ti32, ti41, ti242, hF, hk2]) (fun hc => by cases hc) (fun _ => Wc.skip ?_)
            refine Wc.reg fun K hK => ?_; simp only [go_sem, ti3, ti4, ti32, ti41, ti242, hF, i64n i (by omega)]; refine hK _ _ ?_; clear hK K
            exact ⟨4 - (i + 1), by omega, i + 1, rfl, by omega, rfl, by simp only [Fs, Int.natCast_zero, go_sem, ti3, ti4, ti32, ti41, ti242, hF], by (try simp only [St.nx_put, St.nx_adv]); repeat (first | exact OA.mono ho (by omega) | refine OA.newB ?_ (by omega) rfl | refine OA.advB ?_), good (by rw [hokv, hI, hk2]; rfl)⟩
          | true =>
            cases hv0 : decide (v < 0) with
            | true =>
              refine Wc.reg fun K hK => ?_; simp only [go_sem, ti3, ti4, ti32, ti41, ti242, hF]
              refine wpCall.pf p (by kernel_rfl) (by kernel_rfl) rfl rfl ?_
              simp only [go_sem, ti3, ti4, ti32, ti41, ti242, hF, hk2, hv0]; refine hK _ _ ?_; clear hK K
              refine Wc.cond (t := true) (by simp only [go_sem, ti3, ti4, ti32, ti41, ti242, hF, hk2, hv0]) (fun _ => ?_) (fun hc => by cases hc)
              refine Wc.seq ?_
              refine Wc.reg fun K hK => ?_; simp only [go_sem, ti3, ti4, ti32, ti41, ti242, hF]; refine hK _ _ ?_; clear hK K
              rw [← bad v hvm (by rw [hokv, hI, hk2, hv0]; rfl)]
              exact Wc.ret (Pf.ret [.tmp 6] [.c (.p (.bool false))] rfl rfl (by simp only [resultsD, go_sem, ti3, ti4, ti32, ti41, ti242, hF]) rfl)
            | false =>
              refine Wc.reg fun K hK => ?_; simp only [go_sem, ti3, ti4, ti32, ti41, ti242, hF]
              refine wpCall.pf p (by kernel_rfl) (by kernel_rfl) rfl rfl ?_
              simp only [go_sem, ti3, ti4, ti32, ti41, ti242, hF, hk2, hv0]; refine hK _ _ ?_; clear hK K
              refine Wc.cond (t := false) (by simp only [go_sem, ti3, ti4, ti32, ti41, ti242, hF, hk2, hv0]) (fun hc => by cases hc) (fun _ => Wc.skip ?_)
              refine Wc.reg fun K hK => ?_; simp only [go_sem, ti3, ti4, ti32, ti41, ti242, hF, i64n i (by omega)]; refine hK _ _ ?_; clear hK K
              exact ⟨4 - (i + 1), by omega, i + 1, rfl, by omega, rfl, by simp only [Fs, Int.natCast_zero, go_sem, ti3, ti4, ti32, ti41, ti242, hF], by (try simp only [St.nx_put, St.nx_adv]); repeat (first | exact OA.mono ho (by omega) | refine OA.newB ?_ (by omega) rfl | refine OA.advB ?_), good (by rw [hokv, hI, hk2, hv0]; rfl)⟩
      · have hil : i = 4 := by have := of_decide_eq_false hc; omega
        subst hil
        exact Wc.exit ⟨by unfold bkA3; rw [hok.1 (by omega), hok.2.1 (by omega), hok.2.2.1 (by omega), hok.2.2.2 (by omega)]; rfl, rfl, by simp only [Fs, Int.natCast_zero, go_sem, ti3, ti4, ti32, ti41, ti242, hF], by (try simp only [St.nx_put, St.nx_adv]); repeat (first | exact OA.mono ho (by omega) | refine OA.newB ?_ (by omega) rfl | refine OA.advB ?_)⟩
    · exact ⟨0, rfl, by omega, rfl, by simp only [Fs, Int.natCast_zero, go_sem, ti3, ti4, ti32, ti41, ti242, hF], by (try simp only [St.nx_put, St.nx_adv]); repeat (first | exact OA.mono ho (by omega) | refine OA.newB ?_ (by omega) rfl | refine OA.advB ?_), fun h => by omega, fun h => by omega, fun h => by omega, fun h => by omega⟩
  clear hF ho g0 e s1
  rintro ⟨e, ds, s1⟩ ⟨c3, rfl, hF, ho⟩
  simp only [Fs] at hF ho
  have g0 := ho.at_ (0, .cells (b.pd.map .p) false) (by simp)
  simp only [List.map_cons, List.map_nil] at g0
  rw [c3] at hR
  have hv : (-1099511627776 ≤ b.mn ∧ b.mn ≤ 1099511627776) ∧ (-1099511627776 ≤ b.mx ∧ b.mx ≤ 1099511627776) := by
    simp only [bkA3, okV, isVl, Bool.and_eq_true, decide_eq_true_eq] at c3
    omega
  obtain ⟨m1, m2⟩ := mulB hc1 hc2 hv.1.1 hv.1.2
  obtain ⟨m3, m4⟩ := mulB hc1 hc2 hv.2.1 hv.2.2
  have w2 : IntKind.i64.wrap (b.c * b.mn) = b.c * b.mn := by rw [wi64]; omega
  have w3 : IntKind.i64.wrap (b.c * b.mx) = b.c * b.mx := by rw [wi64]; omega
  have w4 : IntKind.i64.wrap (IntKind.i64.wrap (b.c - 1) * 1099511627776) = (b.c - 1) * 1099511627776 := by rw [wi64, wi64]; omega
  refine Wc.seqR (fun y => bkA4 b = false ∧ y.ds = [] ∧ Fs y.e 174 [(1, P' (pI k)), (2, P' (pI w)), (3, .v (.c (.ref 0 0)))] ∧ OA y.s.nx y.s [] [(0, .cells (b.pd.map .p) false)]) ?_ ?_
  · refine Wc.seq ?_
    have bad : bkA4 b = true → false = R := fun h => by rw [← hR, h]; rfl
    unfold bkA4 at bad ⊢
    rcases Bool.eq_false_or_eq_true (decide (b.f < b.mn)) with z1 | z1
    · refine Wc.reg fun K hK => ?_; simp only [go_sem, ti3, ti4, ti32, ti41, ti242, hF, g0, z1]; refine hK _ _ ?_; clear hK K
      refine Wc.cond (t := true) (by simp only [go_sem, ti3, ti4, ti32, ti41, ti242, hF, g0, z1]) (fun _ => ?_) (fun hc => by cases hc)
      refine Wc.seq ?_
      refine Wc.reg fun K hK => ?_; simp only [go_sem, ti3, ti4, ti32, ti41, ti242, hF]; refine hK _ _ ?_; clear hK K
      rw [← bad (by simp only [z1]; rfl)]
      exact Wc.ret (Pf.ret [.tmp 6] [.c (.p (.bool false))] rfl rfl (by simp only [resultsD, go_sem, ti3, ti4, ti32, ti41, ti242, hF]) rfl)
    rcases Bool.eq_false_or_eq_true (decide (b.mx < b.f)) with z2 | z2
    · refine Wc.reg fun K hK => ?_; simp only [go_sem, ti3, ti4, ti32, ti41, ti242, hF, g0, z1, z2]; refine hK _ _ ?_; clear hK K
      refine Wc.cond (t := true) (by simp only [go_sem, ti3, ti4, ti32, ti41, ti242, hF, g0, z1, z2]) (fun _ => ?_) (fun hc => by cases hc)
      refine Wc.seq ?_
      refine Wc.reg fun K hK => ?_; simp only [go_sem, ti3, ti4, ti32, ti41, ti242, hF]; refine hK _ _ ?_; clear hK K
      rw [← bad (by simp only [z1, z2]; rfl)]
      exact Wc.ret (Pf.ret [.tmp 6] [.c (.p (.bool false))] rfl rfl (by simp only [resultsD, go_sem, ti3, ti4, ti32, ti41, ti242, hF]) rfl)
    rcases Bool.eq_false_or_eq_true (decide (b.l < b.mn)) with z3 | z3
    · refine Wc.reg fun K hK => ?_; simp only [go_sem, ti3, ti4, ti32, ti41, ti242, hF, g0, z1, z2, z3]; refine hK _ _ ?_; clear hK K
      refine Wc.cond (t := true) (by simp only [go_sem, ti3, ti4, ti32, ti41, ti242, hF, g0, z1, z2, z3]) (fun _ => ?_) (fun hc => by cases hc)
      refine Wc.seq ?_
      refine Wc.reg fun K hK => ?_; simp only [go_sem, ti3, ti4, ti32, ti41, ti242, hF]; refine hK _ _ ?_; clear hK K
      rw [← bad (by simp only [z1, z2, z3]; rfl)]
      exact Wc.ret (Pf.ret [.tmp 6] [.c (.p (.bool false))] rfl rfl (by simp only [resultsD, go_sem, ti3, ti4, ti32, ti41, ti242, hF]) rfl)
    rcases Bool.eq_false_or_eq_true (decide (b.mx < b.l)) with z4 | z4
    · refine Wc.reg fun K hK => ?_; simp only [go_sem, ti3, ti4, ti32, ti41, ti242, hF, g0, z1, z2, z3, z4]; refine hK _ _ ?_; clear hK K
      refine Wc.cond (t := true) (by simp only [go_sem, ti3, ti4, ti32, ti41, ti242, hF, g0, z1, z2, z3, z4]) (fun _ => ?_) (fun hc => by cases hc)
      refine Wc.seq ?_
      refine Wc.reg fun K hK => ?_; simp only [go_sem, ti3, ti4, ti32, ti41, ti242, hF]; refine hK _ _ ?_; clear hK K
      rw [← bad (by simp only [z1, z2, z3, z4]; rfl)]
      exact Wc.ret (Pf.ret [.tmp 6] [.c (.p (.bool false))] rfl rfl (by simp only [resultsD, go_sem, ti3, ti4, ti32, ti41, ti242, hF]) rfl)
    refine Wc.reg fun K hK => ?_; simp only [go_sem, ti3, ti4, ti32, ti41, ti242, hF, g0, z1, z2, z3, z4]; refine hK _ _ ?_; clear hK K
    refine Wc.cond (t := false) (by simp only [go_sem, ti3, ti4, ti32, ti41, ti242, hF, g0, z1, z2, z3, z4]) (fun hc => by cases hc) (fun _ => Wc.skip ?_)
    exact ⟨by simp only [z1, z2, z3, z4]; rfl, rfl, by simp only [Fs, Int.natCast_zero, go_sem, ti3, ti4, ti32, ti41, ti242, hF], by (try simp only [St.nx_put, St.nx_adv]); repeat (first | exact OA.mono ho (by omega) | refine OA.newB ?_ (by omega) rfl | refine OA.advB ?_)⟩
  clear hF ho g0 e s1
  rintro ⟨e, ds, s1⟩ ⟨c4, rfl, hF, ho⟩
  simp only [Fs] at hF ho
  have g0 := ho.at_ (0, .cells (b.pd.map .p) false) (by simp)
  simp only [List.map_cons, List.map_nil] at g0
  rw [c4] at hR
  refine Wc.seqR (fun y => bkA5 b = false ∧ y.ds = [] ∧ Fs y.e 174 [(1, P' (pI k)), (2, P' (pI w)), (3, .v (.c (.ref 0 0)))] ∧ OA y.s.nx y.s [] [(0, .cells (b.pd.map .p) false)]) ?_ ?_
  · refine Wc.seq ?_
    have bad : bkA5 b = true → false = R := fun h => by rw [← hR, h]; rfl
    unfold bkA5 at bad ⊢
    rcases Bool.eq_false_or_eq_true (decide (b.s < b.c * b.mn)) with z1 | z1
    · refine Wc.reg fun K hK => ?_; simp only [go_sem, ti3, ti4, ti32, ti41, ti242, hF, g0, w2, w3, z1]; refine hK _ _ ?_; clear hK K
      refine Wc.cond (t := true) (by simp only [go_sem, ti3, ti4, ti32, ti41, ti242, hF, g0, w2, w3, z1]) (fun _ => ?_) (fun hc => by cases hc)
      refine Wc.seq ?_
      refine Wc.reg fun K hK => ?_; simp only [go_sem, ti3, ti4, ti32, ti41, ti242, hF]; refine hK _ _ ?_; clear hK K
      rw [← bad (by simp only [z1]; rfl)]
      exact Wc.ret (Pf.ret [.tmp 6] [.c (.p (.bool false))] rfl rfl (by simp only [resultsD, go_sem, ti3, ti4, ti32, ti41, ti242, hF]) rfl)
    rcases Bool.eq_false_or_eq_true (decide (b.c * b.mx < b.s)) with z2 | z2
    · refine Wc.reg fun K hK => ?_; simp only [go_sem, ti3, ti4, ti32, ti41, ti242, hF, g0, w2, w3, z1, z2]; refine hK _ _ ?_; clear hK K
      refine Wc.cond (t := true) (by simp only [go_sem, ti3, ti4, ti32, ti41, ti242, hF, g0, w2, w3, z1, z2]) (fun _ => ?_) (fun hc => by cases hc)
      refine Wc.seq ?_
      refine Wc.reg fun K hK => ?_; simp only [go_sem, ti3, ti4, ti32, ti41, ti242, hF]; refine hK _ _ ?_; clear hK K
      rw [← bad (by simp only [z1, z2]; rfl)]
      exact Wc.ret (Pf.ret [.tmp 6] [.c (.p (.bool false))] rfl rfl (by simp only [resultsD, go_sem, ti3, ti4, ti32, ti41, ti242, hF]) rfl)
    refine Wc.reg fun K hK => ?_; simp only [go_sem, ti3, ti4, ti32, ti41, ti242, hF, g0, w2, w3, z1, z2]; refine hK _ _ ?_; clear hK K
    refine Wc.cond (t := false) (by simp only [go_sem, ti3, ti4, ti32, ti41, ti242, hF, g0, w2, w3, z1, z2]) (fun hc => by cases hc) (fun _ => Wc.skip ?_)
    exact ⟨by simp only [z1, z2]; rfl, rfl, by simp only [Fs, Int.natCast_zero, go_sem, ti3, ti4, ti32, ti41, ti242, hF], by (try simp only [St.nx_put, St.nx_adv]); repeat (first | exact OA.mono ho (by omega) | refine OA.newB ?_ (by omega) rfl | refine OA.advB ?_)⟩
  clear hF ho g0 e s1
  rintro ⟨e, ds, s1⟩ ⟨c5, rfl, hF, ho⟩
  simp only [Fs] at hF ho
  have g0 := ho.at_ (0, .cells (b.pd.map .p) false) (by simp)
  simp only [List.map_cons, List.map_nil] at g0
  rw [c5] at hR
  refine Wc.seqR (fun y => bkA6 k b = false ∧ y.ds = [] ∧ Fs y.e 174 [(1, P' (pI k)), (2, P' (pI w)), (3, .v (.c (.ref 0 0)))] ∧ OA y.s.nx y.s [] [(0, .cells (b.pd.map .p) false)]) ?_ ?_
  · refine Wc.seq ?_
    have bad : bkA6 k b = true → false = R := fun h => by rw [← hR, h]; rfl
    unfold bkA6 at bad ⊢
    cases Bool.eq_false_or_eq_true (k == 1) with
    | inl k1 =>
      rcases Bool.eq_false_or_eq_true (b.inc != 0) with z1 | z1
      · refine Wc.reg fun K hK => ?_; simp only [go_sem, ti3, ti4, ti32, ti41, ti242, hF, g0, k1, w4, z1]; refine hK _ _ ?_; clear hK K
        refine Wc.cond (t := true) (by simp only [go_sem, ti3, ti4, ti32, ti41, ti242, hF, g0, k1, w4, z1]) (fun _ => ?_) (fun hc => by cases hc)
        refine Wc.seq ?_
        refine Wc.reg fun K hK => ?_; simp only [go_sem, ti3, ti4, ti32, ti41, ti242, hF]; refine hK _ _ ?_; clear hK K
        rw [← bad (by simp only [k1, z1]; rfl)]
        exact Wc.ret (Pf.ret [.tmp 6] [.c (.p (.bool false))] rfl rfl (by simp only [resultsD, go_sem, ti3, ti4, ti32, ti41, ti242, hF]) rfl)
      rcases Bool.eq_false_or_eq_true (decide (b.inc < 0)) with z2 | z2
      · refine Wc.reg fun K hK => ?_; simp only [go_sem, ti3, ti4, ti32, ti41, ti242, hF, g0, k1, w4, z1, z2]; refine hK _ _ ?_; clear hK K
        refine Wc.cond (t := true) (by simp only [go_sem, ti3, ti4, ti32, ti41, ti242, hF, g0, k1, w4, z1, z2]) (fun _ => ?_) (fun hc => by cases hc)
        refine Wc.seq ?_
        refine Wc.reg fun K hK => ?_; simp only [go_sem, ti3, ti4, ti32, ti41, ti242, hF]; refine hK _ _ ?_; clear hK K
        rw [← bad (by simp only [k1, z1, z2]; rfl)]
        exact Wc.ret (Pf.ret [.tmp 6] [.c (.p (.bool false))] rfl rfl (by simp only [resultsD, go_sem, ti3, ti4, ti32, ti41, ti242, hF]) rfl)
      rcases Bool.eq_false_or_eq_true (decide ((b.c - 1) * 1099511627776 < b.inc)) with z3 | z3
      · refine Wc.reg fun K hK => ?_; simp only [go_sem, ti3, ti4, ti32, ti41, ti242, hF, g0, k1, w4, z1, z2, z3]; refine hK _ _ ?_; clear hK K
        refine Wc.cond (t := true) (by simp only [go_sem, ti3, ti4, ti32, ti41, ti242, hF, g0, k1, w4, z1, z2, z3]) (fun _ => ?_) (fun hc => by cases hc)
        refine Wc.seq ?_
        refine Wc.reg fun K hK => ?_; simp only [go_sem, ti3, ti4, ti32, ti41, ti242, hF]; refine hK _ _ ?_; clear hK K
        rw [← bad (by simp only [k1, z1, z2, z3]; rfl)]
        exact Wc.ret (Pf.ret [.tmp 6] [.c (.p (.bool false))] rfl rfl (by simp only [resultsD, go_sem, ti3, ti4, ti32, ti41, ti242, hF]) rfl)
      refine Wc.reg fun K hK => ?_; simp only [go_sem, ti3, ti4, ti32, ti41, ti242, hF, g0, k1, w4, z1, z2, z3]; refine hK _ _ ?_; clear hK K
      refine Wc.cond (t := false) (by simp only [go_sem, ti3, ti4, ti32, ti41, ti242, hF, g0, k1, w4, z1, z2, z3]) (fun hc => by cases hc) (fun _ => Wc.skip ?_)
      exact ⟨by simp only [k1, z1, z2, z3]; rfl, rfl, by simp only [Fs, Int.natCast_zero, go_sem, ti3, ti4, ti32, ti41, ti242, hF], by (try simp only [St.nx_put, St.nx_adv]); repeat (first | exact OA.mono ho (by omega) | refine OA.newB ?_ (by omega) rfl | refine OA.advB ?_)⟩
    | inr k1 =>
      rcases Bool.eq_false_or_eq_true (decide (b.inc < 0)) with z1 | z1
      · refine Wc.reg fun K hK => ?_; simp only [go_sem, ti3, ti4, ti32, ti41, ti242, hF, g0, k1, w4, z1]; refine hK _ _ ?_; clear hK K
        refine Wc.cond (t := true) (by simp only [go_sem, ti3, ti4, ti32, ti41, ti242, hF, g0, k1, w4, z1]) (fun _ => ?_) (fun hc => by cases hc)
        refine Wc.seq ?_
        refine Wc.reg fun K hK => ?_; simp only [go_sem, ti3, ti4, ti32, ti41, ti242, hF]; refine hK _ _ ?_; clear hK K
        rw [← bad (by simp only [k1, z1]; rfl)]
        exact Wc.ret (Pf.ret [.tmp 6] [.c (.p (.bool false))] rfl rfl (by simp only [resultsD, go_sem, ti3, ti4, ti32, ti41, ti242, hF]) rfl)
      rcases Bool.eq_false_or_eq_true (decide ((b.c - 1) * 1099511627776 < b.inc)) with z2 | z2
      · refine Wc.reg fun K hK => ?_; simp only [go_sem, ti3, ti4, ti32, ti41, ti242, hF, g0, k1, w4, z1, z2]; refine hK _ _ ?_; clear hK K
        refine Wc.cond (t := true) (by simp only [go_sem, ti3, ti4, ti32, ti41, ti242, hF, g0, k1, w4, z1, z2]) (fun _ => ?_) (fun hc => by cases hc)
        refine Wc.seq ?_
        refine Wc.reg fun K hK => ?_; simp only [go_sem, ti3, ti4, ti32, ti41, ti242, hF]; refine hK _ _ ?_; clear hK K
        rw [← bad (by simp only [k1, z1, z2]; rfl)]
        exact Wc.ret (Pf.ret [.tmp 6] [.c (.p (.bool false))] rfl rfl (by simp only [resultsD, go_sem, ti3, ti4, ti32, ti41, ti242, hF]) rfl)
      refine Wc.reg fun K hK => ?_; simp only [go_sem, ti3, ti4, ti32, ti41, ti242, hF, g0, k1, w4, z1, z2]; refine hK _ _ ?_; clear hK K
      refine Wc.cond (t := false) (by simp only [go_sem, ti3, ti4, ti32, ti41, ti242, hF, g0, k1, w4, z1, z2]) (fun hc => by cases hc) (fun _ => Wc.skip ?_)
      exact ⟨by simp only [k1, z1, z2]; rfl, rfl, by simp only [Fs, Int.natCast_zero, go_sem, ti3, ti4, ti32, ti41, ti242, hF], by (try simp only [St.nx_put, St.nx_adv]); repeat (first | exact OA.mono ho (by omega) | refine OA.newB ?_ (by omega) rfl | refine OA.advB ?_)⟩
  clear hF ho g0 e s1
  rintro ⟨e, ds, s1⟩ ⟨c6, rfl, hF, ho⟩
  simp only [Fs] at hF ho
  have g0 := ho.at_ (0, .cells (b.pd.map .p) false) (by simp)
  simp only [List.map_cons, List.map_nil] at g0
  rw [c6] at hR
  subst hR
  refine Wc.seq ?_
  have fin : ∀ (e : List D) (s : St), e.getD 6 .junk = P' (.bool (bkA7 b)) → Wc E0 none .ret { e := e, ds := [], s := s } (bodyQ E0 Tryz.f155 fun d0 s2 => ∃ s3, purD s2 d0 = some (P' (.bool (bkA7 b)), s3)) := fun e s h =>
    Wc.ret (Pf.ret [.tmp 6] [.c (.p (.bool (bkA7 b)))] rfl rfl (by simp only [resultsD, go_sem, ti3, ti4, ti32, ti41, ti242, h]) rfl)
  cases z1 : decide (1 < b.c) with
  | true =>
    refine Wc.reg fun K hK => ?_; simp only [go_sem, ti3, ti4, ti32, ti41, ti242, hF, g0, z1]; refine hK _ _ ?_; clear hK K
    exact fin _ _ (by simp only [go_sem, ti3, ti4, ti32, ti41, ti242, hF, bkA7, z1, Bool.true_or])
  | false =>
    cases z2 : (b.s == b.mn) with
    | false =>
      refine Wc.reg fun K hK => ?_; simp only [go_sem, ti3, ti4, ti32, ti41, ti242, hF, g0, z1, z2]; refine hK _ _ ?_; clear hK K
      exact fin _ _ (by simp only [go_sem, ti3, ti4, ti32, ti41, ti242, hF, bkA7, z1, z2, Bool.false_or])
    | true =>
      cases z3 : (b.mn == b.mx) with
      | false =>
        refine Wc.reg fun K hK => ?_; simp only [go_sem, ti3, ti4, ti32, ti41, ti242, hF, g0, z1, z2, z3]; refine hK _ _ ?_; clear hK K
        exact fin _ _ (by simp only [go_sem, ti3, ti4, ti32, ti41, ti242, hF, bkA7, z1, z2, z3, Bool.false_or])
      | true =>
        cases z4 : (b.f == b.mn) with
        | false =>
          refine Wc.reg fun K hK => ?_; simp only [go_sem, ti3, ti4, ti32, ti41, ti242, hF, g0, z1, z2, z3, z4]; refine hK _ _ ?_; clear hK K
          exact fin _ _ (by simp only [go_sem, ti3, ti4, ti32, ti41, ti242, hF, bkA7, z1, z2, z3, z4, Bool.false_or])
        | true =>
          refine Wc.reg fun K hK => ?_; simp only [go_sem, ti3, ti4, ti32, ti41, ti242, hF, g0, z1, z2, z3, z4]; refine hK _ _ ?_; clear hK K
          exact fin _ _ (by simp only [go_sem, ti3, ti4, ti32, ti41, ti242, hF, bkA7, z1, z2, z3, z4, Bool.false_or])
end Go.Proofs.YtedcnhbblgmdnaaGreat.Ab
