/- A part of the proof: an evaluator of the code, its contracts, the law. No condition. -/
import Derived.Test.YtedcnhbblgmdnaaGreatT27
namespace Go.Proofs.YtedcnhbblgmdnaaGreat.Ab
set_option maxHeartbeats 8000000
set_option maxRecDepth 10000
set_option linter.unusedSimpArgs false
set_option linter.unusedVariables false
theorem o153 : E0.opn 153 = false := by kernel_rfl
theorem x153 : E0.xt 153 = none := by kernel_rfl
theorem minB2 (a b : Int) : foldO minD (.v (.c (.p (.int .i64 a)))) [.v (.c (.p (.int .i64 b)))] = some (.v (.c (.p (.int .i64 (minI a b))))) := by
  simp only [foldO, minD, P', Option.some.injEq, D.v.injEq, V.c.injEq, C.p.injEq, Pd.int.injEq, true_and, decide_eq_true_eq, if_true, minI]
theorem maxB2 (a b : Int) : foldO maxD (.v (.c (.p (.int .i64 a)))) [.v (.c (.p (.int .i64 b)))] = some (.v (.c (.p (.int .i64 (maxI a b))))) := by
  simp only [foldO, maxD, P', Option.some.injEq, D.v.injEq, V.c.injEq, C.p.injEq, Pd.int.injEq, true_and, decide_eq_true_eq, if_true, maxI]
/-- 95: Join -/
theorem pf95 (a b : Bkt) (k : Int) (hv : (-1099511627776 ≤ a.l ∧ a.l ≤ 1099511627776) ∧ (-1099511627776 ≤ b.f ∧ b.f ≤ 1099511627776)) (hi : -4611686018427387904 ≤ a.inc + b.inc ∧ a.inc + b.inc ≤ 4611686018427387904)
    (hc : -4611686018427387904 ≤ a.c + b.c ∧ a.c + b.c ≤ 4611686018427387904) (hs : -9223372036854775808 ≤ a.s + b.s ∧ a.s + b.s ≤ 9223372036854775807) : Pf E0 95 [.agg (a.pd.map .p), .agg (b.pd.map .p), .c (.p (pI k))] (.v (.agg ((joinB k a b).pd.map .p))) := by
  have p := pf153 a.l b.f hv.1 hv.2
  have hst : -2199023255552 ≤ stepV a.l b.f ∧ stepV a.l b.f ≤ 2199023255552 := by unfold stepV; split <;> omega
  have e1 : IntKind.i64.wrap (a.inc + b.inc) = a.inc + b.inc := by rw [wi64]; omega
  have e2 : IntKind.i64.wrap (a.inc + b.inc + stepV a.l b.f) = a.inc + b.inc + stepV a.l b.f := by rw [wi64]; omega
  have e3 : IntKind.i64.wrap (a.c + b.c) = a.c + b.c := by rw [wi64]; omega
  have e4 : IntKind.i64.wrap (a.s + b.s) = a.s + b.s := by rw [wi64]; omega
  refine Pf.body (fn := Tryz.f95) (by kernel_rfl) rfl ?_; simp only [List.map_cons, List.map_nil, List.cons_append, List.nil_append, List.length_cons, List.length_nil, Tryz.ntmps95, List.replicate, Nat.reduceSub, Nat.reduceAdd]
  refine Wc.seq ?_
  refine Wc.reg fun K hK => ?_; simp only [go_sem, ti3, ti4, ti32, ti39, ti41, ti31, ti96]; refine hK _ _ ?_; clear hK K
  obtain ⟨inc, hinc⟩ : ∃ inc, inc = (if k = 2 then a.inc + b.inc + stepV a.l b.f else a.inc) := ⟨_, rfl⟩
  have hF : True := trivial
  refine Wc.seqR (fun y => y.ds = [] ∧ Fs y.e 52 [(3, .v (.c (.ref 0 0))), (4, .v (.c (.ref 1 0))), (6, .v (.c (.ref 2 0)))] ∧ y.s.get 2 = some (.cells ((List.replicate 10 (pI 0)).map .p) false) ∧ y.s.get 1 = some (.cells (b.pd.map .p) false) ∧ y.s.get 0 = some (.cells ([pI a.st, pI a.c, pI a.s, pI a.mn, pI a.mx, pI a.f, pI a.l, pI a.ft, pI a.lt, pI inc].map .p) false)) ?_ ?_
  · refine Wc.seq ?_
    by_cases hk : k = 2
    · subst hk
      refine Wc.reg fun K hK => ?_; simp only [go_sem, ti3, ti4, ti32, ti39, ti41, ti31, ti96]; refine hK _ _ ?_; clear hK K
      refine Wc.cond (t := true) (by simp only [go_sem, ti3, ti4, ti32, ti39, ti41, ti31, ti96]) (fun _ => ?_) (fun hc => by cases hc)
      refine Wc.regT fun K hK => ?_
      simp only [go_sem, ti3, ti4, ti32, ti39, ti41, ti31, ti96, e1, e2]
      refine wpCall.pf p (by kernel_rfl) (by kernel_rfl) rfl rfl ?_
      simp only [go_sem, ti3, ti4, ti32, ti39, ti41, ti31, ti96, e1, e2, o153, x153]
      refine ⟨by rfl, hK _ _ ?_⟩
      rw [if_pos rfl] at hinc
      subst hinc
      exact ⟨rfl, by simp only [Fs, Int.natCast_zero, go_sem, ti3, ti4, ti32, ti39, ti41, ti31, ti96], by simp only [go_sem, ti3, ti4, ti32, ti39, ti41, ti31, ti96], by simp only [go_sem, ti3, ti4, ti32, ti39, ti41, ti31, ti96], by simp only [go_sem, ti3, ti4, ti32, ti39, ti41, ti31, ti96]⟩
    · have hkd : (k == 2) = false := by simpa using hk
      rw [if_neg hk] at hinc
      subst hinc
      refine Wc.reg fun K hK => ?_; simp only [go_sem, ti3, ti4, ti32, ti39, ti41, ti31, ti96]; refine hK _ _ ?_; clear hK K
      refine Wc.cond (t := false) (by simp only [go_sem, ti3, ti4, ti32, ti39, ti41, ti31, ti96]; exact congrArg some hkd) (fun hc => by cases hc) (fun _ => Wc.skip ?_)
      exact ⟨rfl, by simp only [Fs, Int.natCast_zero, go_sem, ti3, ti4, ti32, ti39, ti41, ti31, ti96], by simp only [go_sem, ti3, ti4, ti32, ti39, ti41, ti31, ti96], by simp only [go_sem, ti3, ti4, ti32, ti39, ti41, ti31, ti96], by simp only [go_sem, ti3, ti4, ti32, ti39, ti41, ti31, ti96]⟩
  clear hF
  rintro ⟨e, ds, s1⟩ ⟨rfl, hF, g2, g1, g0⟩
  simp only [Fs] at hF
  simp only [List.map_cons, List.map_nil] at g0 g1 g2
  refine Wc.seq ?_
  refine Wc.regT fun K hK => ?_
  simp only [go_sem, ti3, ti4, ti32, ti39, ti41, ti31, ti96, hF, g0, g1, e3, e4]
  refine ⟨by rfl, hK _ _ ?_⟩
  refine Wc.seq ?_
  refine Wc.regT fun K hK => ?_
  simp only [go_sem, ti3, ti4, ti32, ti39, ti41, ti31, ti96, hF, g0, g1, minB2, maxB2]
  refine ⟨by rfl, hK _ _ ?_⟩
  refine Wc.seq ?_
  refine Wc.regT fun K hK => ?_
  simp only [go_sem, ti3, ti4, ti32, ti39, ti41, ti31, ti96, hF, g0, g1]
  refine ⟨by rfl, hK _ _ ?_⟩
  refine Wc.seq ?_
  refine Wc.reg fun K hK => ?_; simp only [go_sem, ti3, ti4, ti32, ti39, ti41, ti31, ti96, hF, g2]; refine hK _ _ ?_; clear hK K
  exact Wc.ret (Pf.ret [.cell 6 41] [.agg ((joinB k a b).pd.map .p)] rfl rfl (by simp only [resultsD, go_sem, ti3, ti4, ti32, ti39, ti41, ti31, ti96, hF, joinB, hinc]; try rfl) rfl)
end Go.Proofs.YtedcnhbblgmdnaaGreat.Ab
namespace Go.Proofs.YtedcnhbblgmdnaaGreat.Ab
set_option maxHeartbeats 8000000
set_option maxRecDepth 10000
set_option linter.unusedSimpArgs false
set_option linter.unusedVariables false
/-- 48: bucket.join -/
theorem pf48 (a b : Bkt) (k : Int) (hv : (-1099511627776 ≤ a.l ∧ a.l ≤ 1099511627776) ∧ (-1099511627776 ≤ b.f ∧ b.f ≤ 1099511627776)) (hi : -4611686018427387904 ≤ a.inc + b.inc ∧ a.inc + b.inc ≤ 4611686018427387904)
    (hc : -4611686018427387904 ≤ a.c + b.c ∧ a.c + b.c ≤ 4611686018427387904) (hs : -9223372036854775808 ≤ a.s + b.s ∧ a.s + b.s ≤ 9223372036854775807) : Pf E0 48 [.agg (a.pd.map .p), .agg (b.pd.map .p), .c (.p (pI k))] (.v (.agg ((joinB k a b).pd.map .p))) := by
  have e1 : IntKind.i64.wrap (a.inc + b.inc) = a.inc + b.inc := by rw [wi64]; omega
  have e5 : IntKind.i64.wrap (b.f - a.l) = b.f - a.l := by rw [wi64]; omega
  have e6 : IntKind.i64.wrap (a.inc + b.inc + b.f) = a.inc + b.inc + b.f := by rw [wi64]; omega
  have e7 : IntKind.i64.wrap (a.inc + b.inc + (b.f - a.l)) = a.inc + b.inc + (b.f - a.l) := by rw [wi64]; omega
  have e3 : IntKind.i64.wrap (a.c + b.c) = a.c + b.c := by rw [wi64]; omega
  have e4 : IntKind.i64.wrap (a.s + b.s) = a.s + b.s := by rw [wi64]; omega
  refine Pf.body (fn := Tryz.f48) (by kernel_rfl) rfl ?_; simp only [List.map_cons, List.map_nil, List.cons_append, List.nil_append, List.length_cons, List.length_nil, Tryz.ntmps48, List.replicate, Nat.reduceSub, Nat.reduceAdd]
  refine Wc.seq ?_
  refine Wc.reg fun K hK => ?_; simp only [go_sem, ti3, ti4, ti32, ti39, ti41, ti31, ti96, ti87]; refine hK _ _ ?_; clear hK K
  refine Wc.seq ?_
  refine Wc.reg fun K hK => ?_; simp only [go_sem, ti3, ti4, ti32, ti39, ti41, ti31, ti96, ti87]; refine hK _ _ ?_; clear hK K
  obtain ⟨inc, hinc⟩ : ∃ inc, inc = (if k = 2 then a.inc + b.inc + stepV a.l b.f else a.inc) := ⟨_, rfl⟩
  refine Wc.seqR (fun y => y.ds = [] ∧ Fs y.e 96 [(3, .v (.c (.ref 0 0))), (4, .v (.c (.ref 1 0))), (6, .v (.c (.ref 2 0))), (7, .v (.c (.ref 4 0)))] ∧ y.s.get 2 = some (.cells ((List.replicate 10 (pI 0)).map .p) false) ∧ y.s.get 1 = some (.cells (b.pd.map .p) false) ∧ y.s.get 0 = some (.cells (a.pd.map .p) false) ∧ y.s.get 4 = some (.cells ([pI a.st, pI a.c, pI a.s, pI a.mn, pI a.mx, pI a.f, pI a.l, pI a.ft, pI a.lt, pI inc].map .p) false)) ?_ ?_
  · refine Wc.seq ?_
    by_cases hk : k = 2
    · subst hk
      rw [if_pos rfl] at hinc
      refine Wc.reg fun K hK => ?_; simp only [go_sem, ti3, ti4, ti32, ti39, ti41, ti31, ti96, ti87]; refine hK _ _ ?_; clear hK K
      refine Wc.cond (t := true) (by simp only [go_sem, ti3, ti4, ti32, ti39, ti41, ti31, ti96, ti87]) (fun _ => ?_) (fun hc => by cases hc)
      refine Wc.seq ?_
      refine Wc.reg fun K hK => ?_; simp only [go_sem, ti3, ti4, ti32, ti39, ti41, ti31, ti96, ti87, e1]; refine hK _ _ ?_; clear hK K
      refine Wc.seq ?_
      refine Wc.reg fun K hK => ?_; simp only [go_sem, ti3, ti4, ti32, ti39, ti41, ti31, ti96, ti87]; refine hK _ _ ?_; clear hK K
      refine Wc.cond (t := decide (b.f < a.l)) (by simp only [go_sem, ti3, ti4, ti32, ti39, ti41, ti31, ti96, ti87]) (fun hc => ?_) (fun hc => ?_)
      · have h : b.f < a.l := of_decide_eq_true hc
        rw [show stepV a.l b.f = b.f from if_pos h] at hinc
        subst hinc
        refine Wc.reg fun K hK => ?_; simp only [go_sem, ti3, ti4, ti32, ti39, ti41, ti31, ti96, ti87, e6]; refine hK _ _ ?_; clear hK K
        exact ⟨rfl, by simp only [Fs, Int.natCast_zero, go_sem, ti3, ti4, ti32, ti39, ti41, ti31, ti96, ti87], by simp only [go_sem, ti3, ti4, ti32, ti39, ti41, ti31, ti96, ti87], by simp only [go_sem, ti3, ti4, ti32, ti39, ti41, ti31, ti96, ti87], by simp only [go_sem, ti3, ti4, ti32, ti39, ti41, ti31, ti96, ti87], by simp only [go_sem, ti3, ti4, ti32, ti39, ti41, ti31, ti96, ti87]⟩
      · have h : ¬ b.f < a.l := of_decide_eq_false hc
        rw [show stepV a.l b.f = b.f - a.l from if_neg h] at hinc
        subst hinc
        refine Wc.reg fun K hK => ?_; simp only [go_sem, ti3, ti4, ti32, ti39, ti41, ti31, ti96, ti87, e5, e7]; refine hK _ _ ?_; clear hK K
        exact ⟨rfl, by simp only [Fs, Int.natCast_zero, go_sem, ti3, ti4, ti32, ti39, ti41, ti31, ti96, ti87], by simp only [go_sem, ti3, ti4, ti32, ti39, ti41, ti31, ti96, ti87], by simp only [go_sem, ti3, ti4, ti32, ti39, ti41, ti31, ti96, ti87], by simp only [go_sem, ti3, ti4, ti32, ti39, ti41, ti31, ti96, ti87], by simp only [go_sem, ti3, ti4, ti32, ti39, ti41, ti31, ti96, ti87]⟩
    · have hkd : (k == 2) = false := by simpa using hk
      rw [if_neg hk] at hinc
      subst hinc
      refine Wc.reg fun K hK => ?_; simp only [go_sem, ti3, ti4, ti32, ti39, ti41, ti31, ti96, ti87]; refine hK _ _ ?_; clear hK K
      refine Wc.cond (t := false) (by simp only [go_sem, ti3, ti4, ti32, ti39, ti41, ti31, ti96, ti87]; exact congrArg some hkd) (fun hc => by cases hc) (fun _ => Wc.skip ?_)
      exact ⟨rfl, by simp only [Fs, Int.natCast_zero, go_sem, ti3, ti4, ti32, ti39, ti41, ti31, ti96, ti87], by simp only [go_sem, ti3, ti4, ti32, ti39, ti41, ti31, ti96, ti87], by simp only [go_sem, ti3, ti4, ti32, ti39, ti41, ti31, ti96, ti87], by simp only [go_sem, ti3, ti4, ti32, ti39, ti41, ti31, ti96, ti87], by simp only [go_sem, ti3, ti4, ti32, ti39, ti41, ti31, ti96, ti87]⟩
  rintro ⟨e, ds, s1⟩ ⟨rfl, hF, g2, g1, g0, g3⟩
  simp only [Fs] at hF
  simp only [List.map_cons, List.map_nil] at g0 g1 g2 g3
  refine Wc.seq ?_
  refine Wc.reg fun K hK => ?_; simp only [go_sem, ti3, ti4, ti32, ti39, ti41, ti31, ti96, ti87, hF, g1, g3, e3]; refine hK _ _ ?_; clear hK K
  refine Wc.seq ?_
  refine Wc.reg fun K hK => ?_; simp only [go_sem, ti3, ti4, ti32, ti39, ti41, ti31, ti96, ti87, hF, g1, g3, e4]; refine hK _ _ ?_; clear hK K
  refine Wc.seq ?_
  refine Wc.reg fun K hK => ?_; simp only [go_sem, ti3, ti4, ti32, ti39, ti41, ti31, ti96, ti87, hF, g0, g1, g3, minB2]; refine hK _ _ ?_; clear hK K
  refine Wc.seq ?_
  refine Wc.reg fun K hK => ?_; simp only [go_sem, ti3, ti4, ti32, ti39, ti41, ti31, ti96, ti87, hF, g0, g1, g3, maxB2]; refine hK _ _ ?_; clear hK K
  refine Wc.seq ?_
  refine Wc.reg fun K hK => ?_; simp only [go_sem, ti3, ti4, ti32, ti39, ti41, ti31, ti96, ti87, hF, g1, g3]; refine hK _ _ ?_; clear hK K
  refine Wc.seq ?_
  refine Wc.reg fun K hK => ?_; simp only [go_sem, ti3, ti4, ti32, ti39, ti41, ti31, ti96, ti87, hF, g1, g3]; refine hK _ _ ?_; clear hK K
  refine Wc.seq ?_
  refine Wc.reg fun K hK => ?_; simp only [go_sem, ti3, ti4, ti32, ti39, ti41, ti31, ti96, ti87, hF, g2]; refine hK _ _ ?_; clear hK K
  exact Wc.ret (Pf.ret [.cell 6 87] [.agg ((joinB k a b).pd.map .p)] rfl rfl (by simp only [resultsD, go_sem, ti3, ti4, ti32, ti39, ti41, ti31, ti96, ti87, hF, joinB, hinc]; try rfl) rfl)
end Go.Proofs.YtedcnhbblgmdnaaGreat.Ab
namespace Go.Proofs.YtedcnhbblgmdnaaGreat.Ab
set_option maxHeartbeats 8000000
set_option maxRecDepth 10000
set_option linter.unusedSimpArgs false
set_option linter.unusedVariables false
/-! ### slices that are objects of the state -/
theorem ixG {t e : Nat} {i ie : TI} (ht : E0.ti t = some i) (hk : i.kn = .slice e) (he : E0.ti e = some ie) {q id off es j n : Nat} (hj : j < n) (hes : ie.size = es) :
    indexAddrD E0 t (.v (.c (.gs q id off n es))) (.v (.c (.p (.int .i64 (j : Int))))) = some (.v (.c (.gref q id (off + j * es)))) := by
  unfold indexAddrD
  rw [ht]
  simp only [D.int?, hk, he, Int.toNat_natCast]
  rw [if_pos ⟨Int.natCast_nonneg j, by omega, hes.symm⟩]
theorem allM_p : ∀ (l : List Pd), allM purS (l.map .p) = some l
  | [] => rfl
  | x :: r => by simp only [List.map_cons, allM, purS, allM_p r]
def cB (l : List Bkt) : List C := (l.flatMap Bkt.pd).map .p
theorem cB_len (l : List Bkt) : (cB l).length = l.length * 10 := by rw [cB, List.length_map]; exact flat_len (k := 10) (fun _ => rfl) l
theorem cB_app (l m : List Bkt) : cB (l ++ m) = cB l ++ cB m := by simp [cB]
theorem cB_drop (q : List Bkt) (a : Bkt) (r : List Bkt) : (cB (q ++ a :: r)).drop (q.length * 10) = a.pd.map .p ++ cB r := by
  rw [cB_app, ← cB_len q, List.drop_left]
  simp [cB]
theorem cB_take (q r : List Bkt) : (cB (q ++ r)).take (q.length * 10) = cB q := by
  rw [cB_app, ← cB_len q, List.take_left]
/-- A slice of buckets, and its object. -/
def GB (x : C) (l : List Bkt) (G : List (Nat × Ob)) : Prop := (x = .nils ∧ l = [] ∧ G = []) ∨ ∃ id, x = .gs l.length id 0 l.length 10 ∧ G = [(id, .grow 10 l.length (cB l) false)]
/-- Two buckets may be joined: no number is too great. -/
structure JB (a b : Bkt) : Prop where
  l1 : -1099511627776 ≤ a.l
  l2 : a.l ≤ 1099511627776
  f1 : -1099511627776 ≤ b.f
  f2 : b.f ≤ 1099511627776
  i1 : -4611686018427387904 ≤ a.inc + b.inc
  i2 : a.inc + b.inc ≤ 4611686018427387904
  c1 : -4611686018427387904 ≤ a.c + b.c
  c2 : a.c + b.c ≤ 4611686018427387904
  s1 : -9223372036854775808 ≤ a.s + b.s
  s2 : a.s + b.s ≤ 9223372036854775807
theorem JB.pf95 {a b : Bkt} (h : JB a b) (k : Int) : Pf E0 95 [.agg (a.pd.map .p), .agg (b.pd.map .p), .c (.p (pI k))] (.v (.agg ((joinB k a b).pd.map .p))) := Ab.pf95 a b k ⟨⟨h.l1, h.l2⟩, h.f1, h.f2⟩ ⟨h.i1, h.i2⟩ ⟨h.c1, h.c2⟩ ⟨h.s1, h.s2⟩
theorem JB.pf48 {a b : Bkt} (h : JB a b) (k : Int) : Pf E0 48 [.agg (a.pd.map .p), .agg (b.pd.map .p), .c (.p (pI k))] (.v (.agg ((joinB k a b).pd.map .p))) := Ab.pf48 a b k ⟨⟨h.l1, h.l2⟩, h.f1, h.f2⟩ ⟨h.i1, h.i2⟩ ⟨h.c1, h.c2⟩ ⟨h.s1, h.s2⟩
theorem OA.putB {s : St} {c k : Nat} {o : Ob} {L : List (Nat × D × Nat × List Pd)} {M : List (Nat × Ob)} (h : OA k s L M) (hc : k < c) : OA c (s.put k o) L M := (h.put (Nat.le_refl _)).mono hc
theorem o95 : E0.opn 95 = false := by kernel_rfl
theorem x95 : E0.xt 95 = none := by kernel_rfl
theorem OAs.putB {c key k : Nat} {s : St} {o : Ob} {L : List (Nat × D × Nat × List Pd)} {M1 M2 : List (Nat × Ob)} (h : OAs key s L M1 k M2) (hc : key < c) : OAs c (s.put key o) L M1 k M2 := by
  obtain ⟨o', h⟩ := h; exact ⟨o', OA.putB h hc⟩
/-- 46: appended -/
theorem call46 {s : St} {L : List (Nat × D × Nat × List Pd)} {M G : List (Nat × Ob)} {x : C} {l : List Bkt} {b : Bkt} {k : Int} {K : D → St → Prop} (ho : OA s.nx s L (G ++ M)) (hx : GB x l G) (hn : l.length < 2^30) (hj : ∀ a, l.getLast? = some a → a.st = b.st → JB a b)
    (hK : ∀ x' G' s', OA s'.nx s' L (G' ++ M) → s.nx ≤ s'.nx → GB x' (appB k l b) G' → K (.v (.c x')) s') : wpCall E0 (P' (.fnc 46)) [.v (.c x), .v (.agg (b.pd.map .p)), P' (pI k)] s K := by
  rcases hx with ⟨rfl, rfl, rfl⟩ | ⟨id, rfl, rfl⟩
  · refine wpCall.opn (fn := Tryz.f46) (by kernel_rfl) (by kernel_rfl) rfl (by kernel_rfl) rfl ?_; simp only [List.map_cons, List.map_nil, List.cons_append, List.nil_append, List.length_cons, List.length_nil, Tryz.ntmps46, List.replicate, Nat.reduceSub, Nat.reduceAdd]
    refine Wc.seq ?_
    refine Wc.reg fun K hK => ?_; simp only [go_sem, ti3, ti4, ti32, ti39, ti41, ti31, ti96, ti87, ti29, Int.natCast_zero]; refine hK _ _ ?_; clear hK K
    refine Wc.seq ?_
    refine Wc.reg fun K hK => ?_; simp only [go_sem, ti3, ti4, ti32, ti39, ti41, ti31, ti96, ti87, ti29, Int.natCast_zero]; refine hK _ _ ?_; clear hK K
    refine Wc.seq (Wc.seq ?_)
    refine Wc.regD fun K hK => ?_; simp only [go_sem, ti3, ti4, ti32, ti39, ti41, ti31, ti96, ti87, ti29, Int.natCast_zero]; refine hK _ _ ?_; clear hK K
    refine Wc.cond (t := true) (by simp only [go_sem, ti3, ti4, ti32, ti39, ti41, ti31, ti96, ti87, ti29, Int.natCast_zero]) (fun _ => ?_) (fun hc => by cases hc)
    refine Wc.seq ?_
    refine Wc.reg fun K hK => ?_; simp only [go_sem, ti3, ti4, ti32, ti39, ti41, ti31, ti96, ti87, ti29, Int.natCast_zero]
    refine OA.appN (by_ := 80) (m := 1) (ys := b.pd) (L := L) (M := M) ?_ (Nat.le_refl _) rfl ⟨_, ti29, rfl⟩ ti41 rfl rfl rfl (by decide) (by decide) (by simp only [go_sem, ti3, ti4, ti32, ti39, ti41, ti31, ti96, ti87, ti29, Int.natCast_zero]) rfl (by decide) (by decide) fun s' hs hnx => ?_
    · exact by (try simp only [St.nx_put, St.nx_adv]); repeat (first | exact OA.mono ho (by omega) | refine OA.newB ?_ (by omega) rfl | refine OA.putB ?_ (by omega) | refine OA.advB ?_)
    simp only [go_sem, ti3, ti4, ti32, ti39, ti41, ti31, ti96, ti87, ti29, Int.natCast_zero]; refine hK _ _ ?_; clear hK K
    refine Wc.ret (Op.ret [.tmp 6] [.c (.gs 1 (s.nx + 21) 0 1 10)] rfl rfl (by simp only [resultsD, go_sem, ti3, ti4, ti32, ti39, ti41, ti31, ti96, ti87, ti29, Int.natCast_zero]) (hK _ _ _ ?_ ?_ (.inr ⟨_, rfl, rfl⟩)))
    · exact hs.mono (by simp only [St.nx_put, St.nx_adv] at hnx ⊢; omega)
    · simp only [St.nx_put, St.nx_adv] at hnx ⊢; omega
  · have g : s.get id = some (.grow 10 l.length (cB l) false) := ho.at_ (id, .grow 10 l.length (cB l) false) (by simp)
    have hid := ho.lt g
    have nid : ∀ j, (s.nx + j = id) = False := fun j => by simp; omega
    have nid0 : (s.nx = id) = False := by simp; omega
    rcases List.eq_nil_or_concat l with rfl | ⟨q, a, rfl⟩
    · refine wpCall.opn (fn := Tryz.f46) (by kernel_rfl) (by kernel_rfl) rfl (by kernel_rfl) rfl ?_; simp only [List.map_cons, List.map_nil, List.cons_append, List.nil_append, List.length_cons, List.length_nil, Tryz.ntmps46, List.replicate, Nat.reduceSub, Nat.reduceAdd]
      refine Wc.seq ?_
      refine Wc.reg fun K hK => ?_; simp only [go_sem, ti3, ti4, ti32, ti39, ti41, ti31, ti96, ti87, ti29, Int.natCast_zero]; refine hK _ _ ?_; clear hK K
      refine Wc.seq ?_
      refine Wc.reg fun K hK => ?_; simp only [go_sem, ti3, ti4, ti32, ti39, ti41, ti31, ti96, ti87, ti29, Int.natCast_zero]; refine hK _ _ ?_; clear hK K
      refine Wc.seq (Wc.seq ?_)
      refine Wc.regD fun K hK => ?_; simp only [go_sem, ti3, ti4, ti32, ti39, ti41, ti31, ti96, ti87, ti29, Int.natCast_zero]; refine hK _ _ ?_; clear hK K
      refine Wc.cond (t := true) (by simp only [go_sem, ti3, ti4, ti32, ti39, ti41, ti31, ti96, ti87, ti29, Int.natCast_zero]) (fun _ => ?_) (fun hc => by cases hc)
      refine Wc.seq ?_
      refine Wc.reg fun K hK => ?_; simp only [go_sem, ti3, ti4, ti32, ti39, ti41, ti31, ti96, ti87, ti29, Int.natCast_zero]
      refine OA.appG (M1 := []) (M2 := M) (by_ := 80) (n := 0) (m := 1) (ys := b.pd) (cs := cB []) (L := L) (b := s.nx + 22) ?_ rfl ⟨_, ti29, rfl⟩ ti41 rfl rfl rfl (by decide) (by decide) (by simp only [go_sem, ti3, ti4, ti32, ti39, ti41, ti31, ti96, ti87, ti29, Int.natCast_zero]) rfl (by decide) fun s' hs hnx => ?_
      · exact by (try simp only [St.nx_put, St.nx_adv]); repeat (first | exact OA.mono ho (by omega) | refine OA.newB ?_ (by omega) rfl | refine OA.putB ?_ (by omega) | refine OA.advB ?_)
      simp only [go_sem, ti3, ti4, ti32, ti39, ti41, ti31, ti96, ti87, ti29, Int.natCast_zero]; refine hK _ _ ?_; clear hK K
      refine Wc.ret (Op.ret [.tmp 6] [.c (.gs 1 id 0 1 10)] rfl rfl (by simp only [resultsD, go_sem, ti3, ti4, ti32, ti39, ti41, ti31, ti96, ti87, ti29, Int.natCast_zero]) (hK _ _ _ ?_ ?_ (.inr ⟨_, rfl, rfl⟩)))
      · exact hs.mono (by simp only [St.nx_put, St.nx_adv] at hnx ⊢; omega)
      · simp only [St.nx_put, St.nx_adv] at hnx ⊢; omega
    · rw [List.concat_eq_append] at *
      have hl : (q ++ [a]).length = q.length + 1 := by simp
      have hix : indexAddrD E0 29 (.v (.c (.gs (q ++ [a]).length id 0 (q ++ [a]).length 10))) (.v (.c (.p (.int .i64 (q.length : Int))))) = _ := ixG ti29 rfl ti41 (j := q.length) (n := (q ++ [a]).length) (by omega) rfl
      have e1 : IntKind.i64.wrap (((q ++ [a]).length : Int) - 1) = (q.length : Int) := by rw [wi64, hl]; omega
      have hdr : (cB (q ++ [a])).drop (q.length * 10) = a.pd.map .p ++ cB [] := cB_drop q a []
      have hle : (q.length * 10 ≤ (cB (q ++ [a])).length) = True := by rw [cB_len, hl]; simp; omega
      have hz : (((q ++ [a]).length : Int) == 0) = false := by rw [beq_eq_false_iff_ne, hl]; omega
      simp only [Nat.zero_add] at hix
      generalize hN : (q ++ [a]).length = N at *
      generalize hCS : cB (q ++ [a]) = CS at *
      refine wpCall.opn (fn := Tryz.f46) (by kernel_rfl) (by kernel_rfl) rfl (by kernel_rfl) rfl ?_; simp only [List.map_cons, List.map_nil, List.cons_append, List.nil_append, List.length_cons, List.length_nil, Tryz.ntmps46, List.replicate, Nat.reduceSub, Nat.reduceAdd]
      refine Wc.seq ?_
      refine Wc.reg fun K hK => ?_; simp only [go_sem, ti3, ti4, ti32, ti39, ti41, ti31, ti96, ti87, ti29, Int.natCast_zero]; refine hK _ _ ?_; clear hK K
      refine Wc.seq ?_
      refine Wc.reg fun K hK => ?_; simp only [go_sem, ti3, ti4, ti32, ti39, ti41, ti31, ti96, ti87, ti29, Int.natCast_zero]; refine hK _ _ ?_; clear hK K
      refine Wc.seq (Wc.seq ?_)
      refine Wc.regD fun K hK => ?_; simp only [go_sem, ti3, ti4, ti32, ti39, ti41, ti31, ti96, ti87, ti29, Int.natCast_zero, hz, e1, hix, hle, hdr, g, nid, nid0]; refine hK _ _ ?_; clear hK K
      refine Wc.cond (t := a.st != b.st) (by simp only [go_sem, ti3, ti4, ti32, ti39, ti41, ti31, ti96, ti87, ti29, Int.natCast_zero]) (fun hc => ?_) (fun hc => ?_)
      · have hne : a.st ≠ b.st := by simpa using hc
        have hA : appB k (q ++ [a]) b = (q ++ [a]) ++ [b] := appB_new fun x hx => by simp at hx; subst hx; exact hne
        rw [hA] at hK
        refine Wc.seq ?_
        refine Wc.reg fun K hK => ?_; simp only [go_sem, ti3, ti4, ti32, ti39, ti41, ti31, ti96, ti87, ti29, Int.natCast_zero]
        refine OA.appG (M1 := []) (M2 := M) (by_ := 80) (n := N) (m := 1) (ys := b.pd) (cs := CS) (L := L) (b := s.nx + 22) ?_ rfl ⟨_, ti29, rfl⟩ ti41 rfl rfl rfl (by decide) (by decide) (by simp only [go_sem, ti3, ti4, ti32, ti39, ti41, ti31, ti96, ti87, ti29, Int.natCast_zero]) rfl (by omega) fun s' hs hnx => ?_
        · exact by (try simp only [St.nx_put, St.nx_adv]); repeat (first | exact OA.mono ho (by omega) | refine OA.newB ?_ (by omega) rfl | refine OA.putB ?_ (by omega) | refine OA.advB ?_)
        simp only [go_sem, ti3, ti4, ti32, ti39, ti41, ti31, ti96, ti87, ti29, Int.natCast_zero]; refine hK _ _ ?_; clear hK K
        refine Wc.ret (Op.ret [.tmp 6] [.c (.gs (N + 1) id 0 (N + 1) 10)] rfl rfl (by simp only [resultsD, go_sem, ti3, ti4, ti32, ti39, ti41, ti31, ti96, ti87, ti29, Int.natCast_zero]) (hK _ _ _ ?_ ?_ (.inr ⟨id, ?_, rfl⟩)))
        · have e9 : ((q ++ [a]) ++ [b]).length = N + 1 := by simp [← hN]
          rw [cB_app, hCS, e9]
          exact hs.mono (by simp only [St.nx_put, St.nx_adv] at hnx ⊢; omega)
        · simp only [St.nx_put, St.nx_adv] at hnx ⊢; omega
        · have e9 : ((q ++ [a]) ++ [b]).length = N + 1 := by simp [← hN]
          rw [e9]
      · have heq : a.st = b.st := by simpa using hc
        have hA : appB k (q ++ [a]) b = q ++ [joinB k a b] := appB_same heq
        rw [hA] at hK
        have p95 := (hj a (by simp) heq).pf95 k
        have hqN : ((q.length : Int) ≤ (N : Int)) = True := by simp; omega
        have e7 : (q ++ [joinB k a b]).length = q.length + 1 := by simp
        have e8 : cB (q ++ [joinB k a b]) = cB q ++ (joinB k a b).pd.map .p := by rw [cB_app]; simp [cB]
        have hpu : allM purS ((CS.drop 0).take (q.length * 10)) = some (q.flatMap Bkt.pd) := by
          rw [List.drop_zero, ← hCS, cB_take, cB, allM_p]
        have hfl : (q.flatMap Bkt.pd).length = q.length * 10 := flat_len (k := 10) (fun _ => rfl) q
        have hle2 : q.length * 10 ≤ CS.length := by rw [← hCS, cB_len]; omega
        simp only [List.drop_zero] at hpu
        have hnb : ∀ j, (s.nx + j != id) = true := fun j => by rw [bne_iff_ne]; omega
        have hnb2 : ∀ j, (id != s.nx + j) = true := fun j => by rw [bne_iff_ne]; omega
        have hnb3 : ∀ j, (s.nx + (j + 1) != s.nx) = true := fun j => by rw [bne_iff_ne]; omega
        have hnb4 : ∀ j, (s.nx != s.nx + (j + 1)) = true := fun j => by rw [bne_iff_ne]; omega
        refine Wc.skip (Wc.seq ?_)
        refine Wc.regT fun K' hK' => ?_
        by_cases hq0 : 0 < q.length
        · simp only [go_sem, ti3, ti4, ti32, ti39, ti41, ti31, ti96, ti87, ti29, Int.natCast_zero, e1, hqN, hq0, Option.isSome_none, Nat.sub_zero]
          refine OA.appG (M1 := []) (M2 := (s.nx, .cells (b.pd.map .p) false) :: (id, .grow 10 N CS false) :: M) (by_ := 80) (n := 0) (m := q.length) (ys := q.flatMap Bkt.pd) (cs := []) (L := L) (b := s.nx + 20) ?_ rfl ⟨_, ti29, rfl⟩ ti41 rfl rfl rfl (by decide) (by decide) (by simp only [go_sem, ti3, ti4, ti32, ti39, ti41, ti31, ti96, ti87, ti29, Int.natCast_zero, g, nid, nid0, hpu, hle2]) hfl (by omega) fun s' hs hnx => ?_
          · exact by (try simp only [St.nx_put, St.nx_adv]); repeat (first | exact OA.mono ho (by omega) | refine OA.newB ?_ (by omega) rfl | refine OA.putB ?_ (by omega) | refine OA.advB ?_)
          simp only [Nat.zero_add, List.nil_append] at hs
          have g' : s'.get id = some (.grow 10 N CS false) := hs.at_ (id, .grow 10 N CS false) (by simp)
          have g2 : s'.get s.nx = some (.cells (b.pd.map .p) false) := hs.at_ (s.nx, .cells (b.pd.map .p) false) (by simp)
          simp only [List.map_cons, List.map_nil] at g2
          simp only [go_sem, ti3, ti4, ti32, ti39, ti41, ti31, ti96, ti87, ti29, Int.natCast_zero, e1, hix, g', g2, hle, hdr]
          refine wpCall.pf p95 (by kernel_rfl) (by kernel_rfl) rfl rfl ?_
          simp only [go_sem, ti3, ti4, ti32, ti39, ti41, ti31, ti96, ti87, ti29, Int.natCast_zero, x95, o95]
          refine OA.appG (M1 := []) (M2 := (s.nx, .cells (b.pd.map .p) false) :: (id, .grow 10 N CS false) :: M) (by_ := 80) (n := q.length) (m := 1) (ys := (joinB k a b).pd) (cs := (q.flatMap Bkt.pd).map .p) (L := L) (b := s.nx + 34) ?_ rfl ⟨_, ti29, rfl⟩ ti41 rfl rfl rfl (by decide) (by decide) (by simp only [go_sem, ti3, ti4, ti32, ti39, ti41, ti31, ti96, ti87, ti29, Int.natCast_zero]) rfl (by omega) fun s'' hs2 hnx2 => ?_
          · exact by (try simp only [St.nx_put, St.nx_adv]); repeat (first | exact OA.mono hs (by omega) | refine OA.newB ?_ (by omega) rfl | refine OA.putB ?_ (by omega) | refine OA.advB ?_)
          simp only [go_sem, ti3, ti4, ti32, ti39, ti41, ti31, ti96, ti87, ti29, Int.natCast_zero]
          refine ⟨by rw [trOK_eq]; simp [trOK2, dirEdge, freeOK, keysOK, apartK, Region.binds, plainD, plainV, plainC, hnb, hnb2, hnb3, hnb4], hK' _ _ ?_⟩
          refine Wc.ret (Op.ret [.tmp 6] [.c (.gs (q.length + 1) (s.nx + 18) 0 (q.length + 1) 10)] rfl rfl (by simp only [resultsD, go_sem, ti3, ti4, ti32, ti39, ti41, ti31, ti96, ti87, ti29, Int.natCast_zero]) (hK _ [(s.nx + 18, .grow 10 (q.length + 1) (cB q ++ (joinB k a b).pd.map .p) false)] _ ?_ ?_ (.inr ⟨s.nx + 18, by rw [e7], by rw [e7, e8]⟩)))
          · refine OA.sub (OA.mono hs2 (by simp only [St.nx_put, St.nx_adv] at hnx hnx2 ⊢; omega)) (List.Sublist.refl _) ?_
            exact List.Sublist.cons_cons _ (List.Sublist.cons _ (List.Sublist.cons _ (List.Sublist.refl _)))
          · simp only [St.nx_put, St.nx_adv] at hnx hnx2 ⊢; omega
        · have hq0' : q = [] := List.length_eq_zero_iff.1 (by omega)
          have hqe : q.length = 0 := by omega
          simp only [go_sem, ti3, ti4, ti32, ti39, ti41, ti31, ti96, ti87, ti29, Int.natCast_zero, e1, hqN, hq0, hqe, Option.isSome_none, Nat.sub_zero]
          refine OA.appG (M1 := []) (M2 := (s.nx, .cells (b.pd.map .p) false) :: (id, .grow 10 N CS false) :: M) (by_ := 80) (n := 0) (m := q.length) (ys := q.flatMap Bkt.pd) (cs := []) (L := L) (b := s.nx + 20) ?_ rfl ⟨_, ti29, rfl⟩ ti41 rfl rfl rfl (by decide) (by decide) (by simp only [go_sem, ti3, ti4, ti32, ti39, ti41, ti31, ti96, ti87, ti29, Int.natCast_zero, hq0', List.flatMap_nil]) hfl (by omega) fun s' hs hnx => ?_
          · exact by (try simp only [St.nx_put, St.nx_adv]); repeat (first | exact OA.mono ho (by omega) | refine OA.newB ?_ (by omega) rfl | refine OA.putB ?_ (by omega) | refine OA.advB ?_)
          simp only [Nat.zero_add, List.nil_append] at hs
          have g' : s'.get id = some (.grow 10 N CS false) := hs.at_ (id, .grow 10 N CS false) (by simp)
          have g2 : s'.get s.nx = some (.cells (b.pd.map .p) false) := hs.at_ (s.nx, .cells (b.pd.map .p) false) (by simp)
          simp only [List.map_cons, List.map_nil] at g2
          simp only [go_sem, ti3, ti4, ti32, ti39, ti41, ti31, ti96, ti87, ti29, Int.natCast_zero, e1, hix, g', g2, hle, hdr]
          refine wpCall.pf p95 (by kernel_rfl) (by kernel_rfl) rfl rfl ?_
          simp only [go_sem, ti3, ti4, ti32, ti39, ti41, ti31, ti96, ti87, ti29, Int.natCast_zero, x95, o95]
          refine OA.appG (M1 := []) (M2 := (s.nx, .cells (b.pd.map .p) false) :: (id, .grow 10 N CS false) :: M) (by_ := 80) (n := q.length) (m := 1) (ys := (joinB k a b).pd) (cs := (q.flatMap Bkt.pd).map .p) (L := L) (b := s.nx + 34) ?_ rfl ⟨_, ti29, rfl⟩ ti41 rfl rfl rfl (by decide) (by decide) (by simp only [go_sem, ti3, ti4, ti32, ti39, ti41, ti31, ti96, ti87, ti29, Int.natCast_zero]) rfl (by omega) fun s'' hs2 hnx2 => ?_
          · exact by (try simp only [St.nx_put, St.nx_adv]); repeat (first | exact OA.mono hs (by omega) | refine OA.newB ?_ (by omega) rfl | refine OA.putB ?_ (by omega) | refine OA.advB ?_)
          simp only [go_sem, ti3, ti4, ti32, ti39, ti41, ti31, ti96, ti87, ti29, Int.natCast_zero]
          refine ⟨by rw [trOK_eq]; simp [trOK2, dirEdge, freeOK, keysOK, apartK, Region.binds, plainD, plainV, plainC, hnb, hnb2, hnb3, hnb4], hK' _ _ ?_⟩
          refine Wc.ret (Op.ret [.tmp 6] [.c (.gs (q.length + 1) (s.nx + 18) 0 (q.length + 1) 10)] rfl rfl (by simp only [resultsD, go_sem, ti3, ti4, ti32, ti39, ti41, ti31, ti96, ti87, ti29, Int.natCast_zero]) (hK _ [(s.nx + 18, .grow 10 (q.length + 1) (cB q ++ (joinB k a b).pd.map .p) false)] _ ?_ ?_ (.inr ⟨s.nx + 18, by rw [e7], by rw [e7, e8]⟩)))
          · refine OA.sub (OA.mono hs2 (by simp only [St.nx_put, St.nx_adv] at hnx hnx2 ⊢; omega)) (List.Sublist.refl _) ?_
            exact List.Sublist.cons_cons _ (List.Sublist.cons _ (List.Sublist.cons _ (List.Sublist.refl _)))
          · simp only [St.nx_put, St.nx_adv] at hnx hnx2 ⊢; omega
end Go.Proofs.YtedcnhbblgmdnaaGreat.Ab
namespace Go.Proofs.YtedcnhbblgmdnaaGreat.Ab
set_option maxHeartbeats 8000000
set_option maxRecDepth 10000
set_option linter.unusedSimpArgs false
set_option linter.unusedVariables false
def zR : Rlp := ⟨[], 0, 0, []⟩
abbrev resR (x : Rlp) (e : Int) : D := .tup [.agg (x.pd.map .p), .c (.p (pI e))]
def limB (x : Rlp) : Bool := bigB x.bs || decide (2000 < x.bs.length)
theorem bigB_step {l : List Bkt} {i : Nat} {b : Bkt} (h : l[i]? = some b) : bigB (l.drop i) = (decide (2000 < b.c) || bigB (l.drop (i + 1))) := by
  have hi := (List.getElem?_eq_some_iff.1 h).1
  have hx := (List.getElem?_eq_some_iff.1 h).2
  rw [List.drop_eq_getElem_cons hi, hx]
  rfl
/-- 49: limited -/
theorem pf49 (x : Rlp) (hn : x.bs.length < 2^40) : Pf E0 49 [.agg (x.pd.map .p)] (resR (if limB x then zR else x) (if limB x then 4 else 0)) := by
  have hfl : (x.bs.flatMap Bkt.pd).length = x.bs.length * 10 := flat_len (k := 10) (fun _ => rfl) _
  refine Pf.body (fn := Tryz.f49) (by kernel_rfl) rfl ?_; simp only [List.map_cons, List.map_nil, List.cons_append, List.nil_append, List.length_cons, List.length_nil, Tryz.ntmps49, List.replicate, Nat.reduceSub, Nat.reduceAdd]
  refine Wc.seq ?_
  refine Wc.reg fun K hK => ?_; simp only [go_sem, ti3, ti4, ti32, ti39, ti41, ti31, ti96, ti87, ti29, ti22, ti26, ti23, Int.natCast_zero]; refine hK _ _ ?_; clear hK K
  refine Wc.seqR (fun y => bigB x.bs = false ∧ y.ds = [] ∧ Fs y.e 26 [(1, .v (.c (.ref 0 0))), (2, .v (.c (.ref 1 0)))] ∧ OA y.s.nx y.s [] [(1, .cells [.nils, .p (pI 0), .p (pI 0), .nils] false), (0, .cells (x.pd.map .p) false)]) ?_ ?_
  · refine Wc.seq ?_
    refine Wc.reg fun K hK => ?_; simp only [go_sem, ti3, ti4, ti32, ti39, ti41, ti31, ti96, ti87, ti29, ti22, ti26, ti23, Int.natCast_zero]; refine hK _ _ ?_; clear hK K
    refine Wc.block (Wc.loop (fun c y => ∃ i : Nat, c = x.bs.length - i ∧ i ≤ x.bs.length ∧ y.ds = [] ∧ Fs y.e 26 [(1, .v (.c (.ref 0 0))), (2, .v (.c (.ref 1 0))), (4, P' (pI i))] ∧ OA y.s.nx y.s [] [(1, .cells [.nils, .p (pI 0), .p (pI 0), .nils] false), (0, .cells (x.pd.map .p) false)] ∧ bigB (x.bs.drop i) = bigB x.bs) ?_ (k := x.bs.length) ?_)
    · rintro c ⟨e, ds, s1⟩ ⟨i, rfl, hi, rfl, hF, ho, hR⟩
      simp only [Fs] at hF ho
      have g0 := ho.at_ (0, .cells (x.pd.map .p) false) (by simp)
      have g1 := ho.at_ (1, .cells [.nils, .p (pI 0), .p (pI 0), .nils] false) (by simp)
      simp only [List.map_cons, List.map_nil] at g0 g1
      refine Wc.seq (Wc.seq ?_)
      refine Wc.reg fun K hK => ?_; simp only [go_sem, ti3, ti4, ti32, ti39, ti41, ti31, ti96, ti87, ti29, ti22, ti26, ti23, Int.natCast_zero, hF, g0]; refine hK _ _ ?_; clear hK K
      refine Wc.cond (t := decide ((i : Int) < x.bs.length)) (by simp only [go_sem, ti3, ti4, ti32, ti39, ti41, ti31, ti96, ti87, ti29, ti22, ti26, ti23, Int.natCast_zero, hF]) (fun hc => ?_) (fun hc => ?_)
      · have hil : i < x.bs.length := by have := of_decide_eq_true hc; omega
        obtain ⟨b, hb⟩ : ∃ b, x.bs[i]? = some b := ⟨x.bs[i], List.getElem?_eq_getElem hil⟩
        have hix := ixA ti29 rfl ti41 (j := i) (m := x.bs.length) (cs := x.bs.flatMap Bkt.pd) hil hfl (by decide)
        have hca := rpA (off := i * 10 + 1) (pre := b.pd.drop 1) (rest := (x.bs.drop (i + 1)).flatMap Bkt.pd) (cs := x.bs.flatMap Bkt.pd) (by rw [← List.drop_drop, drop_flat (f := Bkt.pd) (k := 10) (fun _ => rfl) hb]; rfl) (by rw [hfl]; omega)
        simp only [List.drop_succ_cons, List.drop_zero] at hca
        rw [bigB_step hb] at hR
        refine Wc.skip (Wc.seq (Wc.block (Wc.seq ?_)))
        refine Wc.reg fun K hK => ?_; simp only [go_sem, ti3, ti4, ti32, ti39, ti41, ti31, ti96, ti87, ti29, ti22, ti26, ti23, Int.natCast_zero, hF, g0, hix, hca]; refine hK _ _ ?_; clear hK K
        refine Wc.cond (t := decide (2000 < b.c)) (by simp only [go_sem, ti3, ti4, ti32, ti39, ti41, ti31, ti96, ti87, ti29, ti22, ti26, ti23, Int.natCast_zero, hF]) (fun hc => ?_) (fun hc => ?_)
        · refine Wc.seq ?_
          refine Wc.reg fun K hK => ?_; simp only [go_sem, ti3, ti4, ti32, ti39, ti41, ti31, ti96, ti87, ti29, ti22, ti26, ti23, Int.natCast_zero, hF, g1]; refine hK _ _ ?_; clear hK K
          have e : limB x = true := by rw [limB, ← hR, hc]; rfl
          rw [e]
          exact Wc.ret (Pf.ret [.cell 2 31, .tmp 3] [.agg [.nils, .p (pI 0), .p (pI 0), .nils], .c (.p (pI 4))] rfl rfl (by simp only [resultsD, go_sem, ti3, ti4, ti32, ti39, ti41, ti31, ti96, ti87, ti29, ti22, ti26, ti23, Int.natCast_zero, hF]) rfl)
        · rw [hc, Bool.false_or] at hR
          refine Wc.skip ?_
          refine Wc.reg fun K hK => ?_; simp only [go_sem, ti3, ti4, ti32, ti39, ti41, ti31, ti96, ti87, ti29, ti22, ti26, ti23, Int.natCast_zero, hF, i64n i (by omega)]; refine hK _ _ ?_; clear hK K
          exact ⟨x.bs.length - (i + 1), by omega, i + 1, rfl, by omega, rfl, by simp only [Fs, Int.natCast_zero, go_sem, ti3, ti4, ti32, ti39, ti41, ti31, ti96, ti87, ti29, ti22, ti26, ti23, Int.natCast_zero, hF], by (try simp only [St.nx_put, St.nx_adv]); repeat (first | exact OA.mono ho (by omega) | refine OA.newB ?_ (by omega) rfl | refine OA.advB ?_), hR⟩
      · have hil : i = x.bs.length := by have := of_decide_eq_false hc; omega
        rw [hil, List.drop_length] at hR
        exact Wc.exit ⟨hR.symm, rfl, by simp only [Fs, Int.natCast_zero, go_sem, ti3, ti4, ti32, ti39, ti41, ti31, ti96, ti87, ti29, ti22, ti26, ti23, Int.natCast_zero, hF], by (try simp only [St.nx_put, St.nx_adv]); repeat (first | exact OA.mono ho (by omega) | refine OA.newB ?_ (by omega) rfl | refine OA.advB ?_)⟩
    · exact ⟨0, rfl, by omega, rfl, by simp only [Fs, Int.natCast_zero, go_sem, ti3, ti4, ti32, ti39, ti41, ti31, ti96, ti87, ti29, ti22, ti26, ti23, Int.natCast_zero], by (try simp only [St.nx_put, St.nx_adv]); repeat (first | exact OA.mono s00_oa (by omega) | refine OA.newB ?_ (by omega) rfl | refine OA.advB ?_), rfl⟩
  rintro ⟨e, ds, s1⟩ ⟨hB, rfl, hF, ho⟩
  simp only [Fs] at hF ho
  have g0 := ho.at_ (0, .cells (x.pd.map .p) false) (by simp)
  have g1 := ho.at_ (1, .cells [.nils, .p (pI 0), .p (pI 0), .nils] false) (by simp)
  simp only [List.map_cons, List.map_nil] at g0 g1
  refine Wc.seq ?_
  refine Wc.seq ?_
  refine Wc.reg fun K hK => ?_; simp only [go_sem, ti3, ti4, ti32, ti39, ti41, ti31, ti96, ti87, ti29, ti22, ti26, ti23, Int.natCast_zero, hF, g0]; refine hK _ _ ?_; clear hK K
  refine Wc.cond (t := decide ((2000 : Int) < x.bs.length)) (by simp only [go_sem, ti3, ti4, ti32, ti39, ti41, ti31, ti96, ti87, ti29, ti22, ti26, ti23, Int.natCast_zero, hF]) (fun hc => ?_) (fun hc => ?_)
  · refine Wc.seq ?_
    refine Wc.reg fun K hK => ?_; simp only [go_sem, ti3, ti4, ti32, ti39, ti41, ti31, ti96, ti87, ti29, ti22, ti26, ti23, Int.natCast_zero, hF, g1]; refine hK _ _ ?_; clear hK K
    have e : limB x = true := by rw [limB, hB, Bool.false_or]; have := of_decide_eq_true hc; simp; omega
    rw [e]
    exact Wc.ret (Pf.ret [.cell 2 31, .tmp 3] [.agg [.nils, .p (pI 0), .p (pI 0), .nils], .c (.p (pI 4))] rfl rfl (by simp only [resultsD, go_sem, ti3, ti4, ti32, ti39, ti41, ti31, ti96, ti87, ti29, ti22, ti26, ti23, Int.natCast_zero, hF]) rfl)
  · refine Wc.skip ?_
    refine Wc.seq ?_
    refine Wc.reg fun K hK => ?_; simp only [go_sem, ti3, ti4, ti32, ti39, ti41, ti31, ti96, ti87, ti29, ti22, ti26, ti23, Int.natCast_zero, hF, g0, g1]; refine hK _ _ ?_; clear hK K
    have e : limB x = false := by rw [limB, hB, Bool.false_or]; have := of_decide_eq_false hc; simp; omega
    rw [e]
    exact Wc.ret (Pf.ret [.cell 2 31, .tmp 3] [.agg (x.pd.map .p), .c (.p (pI 0))] rfl rfl (by simp only [resultsD, go_sem, ti3, ti4, ti32, ti39, ti41, ti31, ti96, ti87, ti29, ti22, ti26, ti23, Int.natCast_zero, hF]) rfl)
end Go.Proofs.YtedcnhbblgmdnaaGreat.Ab
namespace Go.Proofs.YtedcnhbblgmdnaaGreat.Ab
set_option maxHeartbeats 8000000
set_option maxRecDepth 10000
set_option linter.unusedSimpArgs false
set_option linter.unusedVariables false
theorem sck_sorted {k : Int} : ∀ {l : List I2} {p : Option Int}, sck k p l = 0 → l.Pairwise (fun a b => a.1 < b.1) ∧ ∀ y, p = some y → ∀ a ∈ l, y < a.1
  | [], p, _ => ⟨List.Pairwise.nil, fun _ _ a ha => by cases ha⟩
  | x :: r, p, h => by
    simp only [sck] at h
    split at h
    · cases h
    · have key : sck k (some x.1) r = 0 ∧ ∀ y, p = some y → y < x.1 := by
        split at h
        · rename_i y
          split at h
          · cases h
          · refine ⟨h, fun z hz => ?_⟩
            cases hz; omega
        · exact ⟨h, fun z hz => by cases hz⟩
      obtain ⟨h1, h2⟩ := sck_sorted key.1
      refine ⟨List.pairwise_cons.2 ⟨fun b hb => h2 x.1 rfl b hb, h1⟩, fun y hy a ha => ?_⟩
      have := key.2 y hy
      rcases List.mem_cons.1 ha with rfl | ha
      · exact this
      · have := h2 x.1 rfl a ha; omega
theorem sck_pos {k : Int} (hk : k = 2) : ∀ {l : List I2} {p : Option Int}, sck k p l = 0 → ∀ x ∈ l, 0 ≤ x.2
  | [], p, h, x, hx => by cases hx
  | y :: r, p, h, x, hx => by
    have h1 : ¬ (smpOK y = false ∨ (k = 2 ∧ y.2 < 0)) := fun hb => by
      cases p <;> simp only [sck] at h <;> rw [if_pos hb] at h <;> cases h
    have h2 : sck k (some y.1) r = 0 := by
      cases p with
      | none => simp only [sck] at h; rw [if_neg h1] at h; exact h
      | some z =>
        simp only [sck] at h
        rw [if_neg h1] at h
        split at h
        · cases h
        · exact h
    rcases List.mem_cons.1 hx with rfl | hx
    · exact Int.not_lt.1 fun hn => h1 (.inr ⟨hk, hn⟩)
    · exact sck_pos hk h2 x hx
/-- A valid gauge or counter. -/
structure Sv (x : Ser) : Prop where
  lb : lckA x.lb = 0
  k : x.k = 1 ∨ x.k = 2
  ne : x.sm ≠ []
  len : x.sm.length ≤ 2000
  srt : x.sm.Pairwise (fun a b => a.1 < b.1)
  ok : ∀ y ∈ x.sm, okS x.k y
  hs : x.hs = []
theorem serOK_v {x : Ser} (h : serOK x = true) (hk : ¬ x.k = 3) : Sv x := by
  have h0 := h
  unfold serOK at h
  split at h
  · cases h
  rename_i hl
  simp only [Bool.and_eq_true] at h
  obtain ⟨h1, h2, h3⟩ := h
  have hs0 : sckA x.k x.sm = 0 := by simpa using h3
  obtain ⟨k1, k2, k3⟩ := sckA_ok hs0
  have hs1 : sck x.k none x.sm = 0 := by
    unfold sckA at hs0
    split at hs0
    · cases hs0
    · split at hs0
      · cases hs0
      · exact hs0
  refine ⟨Decidable.not_not.1 hl, k1, fun e => by rw [e] at h2; simp at h2, k2, (sck_sorted hs1).1, fun y hy => ?_, List.length_eq_zero_iff.1 (by simpa using h1)⟩
  obtain ⟨a1, a2⟩ := k3 y hy
  simp only [isT, isVl, Bool.and_eq_true, decide_eq_true_eq] at a1 a2
  refine ⟨a1, a2, fun e => ?_⟩
  exact sck_pos e hs1 y hy
/-- A bucket within bounds. -/
structure WB (b : Bkt) : Prop where
  c1 : 0 ≤ b.c
  c2 : b.c ≤ 1000000
  f1 : -1099511627776 ≤ b.f
  f2 : b.f ≤ 1099511627776
  l1 : -1099511627776 ≤ b.l
  l2 : b.l ≤ 1099511627776
  i1 : -1152921504606846976 ≤ b.inc
  i2 : b.inc ≤ 1152921504606846976
  s1 : -1152921504606846976 ≤ b.s
  s2 : b.s ≤ 1152921504606846976
theorem JB.of {a b : Bkt} (ha : WB a) (hb : WB b) : JB a b := by
  obtain ⟨a1, a2, a3, a4, a5, a6, a7, a8, a9, a10⟩ := ha
  obtain ⟨b1, b2, b3, b4, b5, b6, b7, b8, b9, b10⟩ := hb
  constructor <;> omega
theorem WB.single {k w : Int} {x : I2} (h : okS k x) : WB (single w x) := by
  obtain ⟨h1, h2, h3⟩ := h
  constructor <;> simp only [Ab.single] <;> omega
theorem GoodB.wb {k n : Int} {b : Bkt} (h : GoodB k n b) (hn : n ≤ 1000000) : WB b := by
  have c1 := h.c1; have c2 := h.c2; have f1 := h.f1; have f2 := h.f2; have lo := h.lo; have hi := h.hi; have l1 := h.l1; have l2 := h.l2; have s1 := h.s1; have s2 := h.s2; have i0 := h.i0; have i1 := h.i1
  have a1 : b.c * (-1099511627776) ≤ b.c * b.mn := Int.mul_le_mul_of_nonneg_left lo (by omega)
  have a2 : b.c * b.mx ≤ b.c * 1099511627776 := Int.mul_le_mul_of_nonneg_left hi (by omega)
  constructor <;> omega
def ofC (x : Ser) (w : Int) : Int := if serOK x = false then 1 else if x.k = 3 then 8 else if btw w 1 1099511627776 = false then 2 else 0
/-- The rollup of a series. -/
def ofR (x : Ser) (w : Int) : Rlp := if ofC x w = 0 then ⟨x.lb, x.k, w, ofB x.k w x.sm⟩ else zR
theorem take_succ {A : Type} {l : List A} {i : Nat} {x : A} (h : l[i]? = some x) : l.take (i + 1) = l.take i ++ [x] := by rw [List.take_add_one, h]; rfl
theorem appB_len (k : Int) (l : List Bkt) (b : Bkt) : (appB k l b).length ≤ l.length + 1 := by
  unfold appB
  split
  · simp
  · split <;> simp <;> omega
theorem apps_len (k : Int) : ∀ (m l : List Bkt), (m.foldl (appB k) l).length ≤ l.length + m.length
  | [], l => by simp
  | b :: m, l => by
    have h1 := apps_len k m (appB k l b)
    have h2 := appB_len k l b
    simp only [List.foldl_cons, List.length_cons]
    omega
theorem ofB_len (k w : Int) (l : List I2) : (ofB k w l).length ≤ l.length := by
  rw [ofB_grp]
  have := apps_len k (l.map (single w)) []
  simp only [List.length_nil, List.length_map] at this
  show ((l.map (single w)).foldl (appB k) []).length ≤ _
  omega
theorem cB_all (l : List Bkt) : allM purS (cB l) = some (l.flatMap Bkt.pd) := allM_p _
theorem GB.pur {b : Nat} {s : St} {L : List (Nat × D × Nat × List Pd)} {M G : List (Nat × Ob)} {x : C} {l : List Bkt} (ho : OA b s L (G ++ M)) (h : GB x l G) : ∃ s', purC s x = some (.lst l.length (l.flatMap Bkt.pd), s') := by
  rcases h with ⟨rfl, rfl, rfl⟩ | ⟨id, rfl, rfl⟩
  · exact ⟨s, rfl⟩
  · have g : s.get id = some (.grow 10 l.length (cB l) false) := ho.at_ (id, .grow 10 l.length (cB l) false) (by simp)
    have hf : (l.flatMap Bkt.pd).length = l.length * 10 := flat_len (k := 10) (fun _ => rfl) l
    refine ⟨s.put id (.grow 10 l.length ((l.flatMap Bkt.pd).map .p) true), ?_⟩
    simp only [purC, g, cB_all, true_and, Nat.zero_add, hf, Nat.le_refl, if_true, List.drop_zero]
    rw [List.take_of_length_le (by omega)]
theorem OA.keepG {b k : Nat} {s : St} {o o' : Ob} {L : List (Nat × D × Nat × List Pd)} {M G : List (Nat × Ob)} (h : OA b s L (G ++ M)) (hm : (k, o) ∈ M) (hf : o'.isFront = false) : OA b (s.put k o') L (G ++ []) := by
  obtain ⟨M1, M2, rfl⟩ := List.append_of_mem hm
  rw [← List.append_assoc] at h
  refine (h.set hf).sub (List.Sublist.refl _) ?_
  rw [List.append_nil, List.append_assoc]
  exact List.sublist_append_left _ _
theorem Pf.retG {fn : Func} {x : Fr} {xc : C} {l : List Bkt} {G M : List (Nat × Ob)} {L : List (Nat × D × Nat × List Pd)} {b : Nat} {lb : List Lb} {k w e : Int} (rs : List ResultVar) (hd : x.ds = []) (hrs : fn.results.toList = rs)
    (hr : resultsD E0 x.e x.s rs = some [.agg [.p (.lst lb.length (lb.flatMap lbP)), .p (pI k), .p (pI w), xc], .c (.p (pI e))]) (ho : OA b x.s L (G ++ M)) (h : GB xc l G) :
    bodyQ E0 fn (fun d0 s2 => ∃ s3, purD s2 d0 = some (resR ⟨lb, k, w, l⟩ e, s3)) .ret x := by
  obtain ⟨s3, h3⟩ := h.pur ho
  refine Pf.ret rs _ hd hrs hr (s3 := s3) ?_
  have hp : ∀ (s : St) (x : Pd), purC s (.p x) = some (x, s) := fun _ _ => rfl
  simp only [packD, purD, purVs, purV, purCs, hp, h3, List.map_cons, List.map_nil]
  rfl
theorem o46 : E0.opn 46 = true := by kernel_rfl
theorem x46 : E0.xt 46 = none := by kernel_rfl
theorem o47 : E0.opn 47 = false := by kernel_rfl
theorem x47 : E0.xt 47 = none := by kernel_rfl
/-- 14: the reference's Of -/
theorem pf14 (x : Ser) (z : x.Sz) (w : Int) : Pf E0 14 [.agg (x.pd.map .p), .c (.p (pI w))] (resR (ofR x w) (ofC x w)) := by
  have hfl : (x.sm.flatMap p2).length = x.sm.length * 2 := flat_len (k := 2) (fun _ => rfl) _
  refine Pf.body (fn := Tryz.f14) (by kernel_rfl) rfl ?_; simp only [List.map_cons, List.map_nil, List.cons_append, List.nil_append, List.length_cons, List.length_nil, Tryz.ntmps14, List.replicate, Nat.reduceSub, Nat.reduceAdd]
  refine Wc.seq ?_
  refine Wc.reg fun K hK => ?_; simp only [go_sem, ti3, ti4, ti32, ti39, ti41, ti31, ti96, ti87, ti29, ti22, ti26, ti23, Int.natCast_zero]; refine hK _ _ ?_; clear hK K
  refine Wc.seq (Wc.seq ?_)
  refine Wc.reg fun K hK => ?_; simp only [go_sem, ti3, ti4, ti32, ti39, ti41, ti31, ti96, ti87, ti29, ti22, ti26, ti23, Int.natCast_zero]
  refine wpCall.pf (pf44 x z) (by kernel_rfl) (by kernel_rfl) rfl rfl ?_
  cases hok : serOK x with
  | false =>
    simp only [go_sem, ti3, ti4, ti32, ti39, ti41, ti31, ti96, ti87, ti29, ti22, ti26, ti23, Int.natCast_zero]; refine hK _ _ ?_; clear hK K
    refine Wc.cond (t := true) (by simp only [go_sem, ti3, ti4, ti32, ti39, ti41, ti31, ti96, ti87, ti29, ti22, ti26, ti23, Int.natCast_zero]) (fun _ => ?_) (fun hc => by cases hc)
    refine Wc.seq ?_
    refine Wc.reg fun K hK => ?_; simp only [go_sem, ti3, ti4, ti32, ti39, ti41, ti31, ti96, ti87, ti29, ti22, ti26, ti23, Int.natCast_zero]; refine hK _ _ ?_; clear hK K
    have e : ofC x w = 1 := by unfold ofC; rw [if_pos hok]
    rw [ofR, e]
    exact Wc.ret (Pf.ret [.cell 4 31, .tmp 5] [.agg [.nils, .p (pI 0), .p (pI 0), .nils], .c (.p (pI 1))] rfl rfl (by simp only [resultsD, go_sem, ti3, ti4, ti32, ti39, ti41, ti31, ti96, ti87, ti29, ti22, ti26, ti23, Int.natCast_zero]) rfl)
  | true =>
  simp only [go_sem, ti3, ti4, ti32, ti39, ti41, ti31, ti96, ti87, ti29, ti22, ti26, ti23, Int.natCast_zero]; refine hK _ _ ?_; clear hK K
  refine Wc.cond (t := false) (by simp only [go_sem, ti3, ti4, ti32, ti39, ti41, ti31, ti96, ti87, ti29, ti22, ti26, ti23, Int.natCast_zero]) (fun hc => by cases hc) (fun _ => Wc.skip ?_)
  refine Wc.seq (Wc.seq ?_)
  refine Wc.reg fun K hK => ?_; simp only [go_sem, ti3, ti4, ti32, ti39, ti41, ti31, ti96, ti87, ti29, ti22, ti26, ti23, Int.natCast_zero]; refine hK _ _ ?_; clear hK K
  refine Wc.cond (t := x.k == 3) (by simp only [go_sem, ti3, ti4, ti32, ti39, ti41, ti31, ti96, ti87, ti29, ti22, ti26, ti23, Int.natCast_zero]) (fun hc => ?_) (fun hc => ?_)
  · have hk : x.k = 3 := by simpa using hc
    refine Wc.seq ?_
    refine Wc.reg fun K hK => ?_; simp only [go_sem, ti3, ti4, ti32, ti39, ti41, ti31, ti96, ti87, ti29, ti22, ti26, ti23, Int.natCast_zero]; refine hK _ _ ?_; clear hK K
    have e : ofC x w = 8 := by unfold ofC; rw [if_neg (by simp [hok]), if_pos hk]
    rw [ofR, e]
    exact Wc.ret (Pf.ret [.cell 4 31, .tmp 5] [.agg [.nils, .p (pI 0), .p (pI 0), .nils], .c (.p (pI 8))] rfl rfl (by simp only [resultsD, go_sem, ti3, ti4, ti32, ti39, ti41, ti31, ti96, ti87, ti29, ti22, ti26, ti23, Int.natCast_zero]) rfl)
  have hk : ¬ x.k = 3 := by simpa using hc
  refine Wc.skip (Wc.seq (Wc.seq ?_))
  refine Wc.reg fun K hK => ?_; simp only [go_sem, ti3, ti4, ti32, ti39, ti41, ti31, ti96, ti87, ti29, ti22, ti26, ti23, Int.natCast_zero]
  refine wpCall.pf (pf45 w 1 1099511627776) (by kernel_rfl) (by kernel_rfl) rfl rfl ?_
  cases hw : btw w 1 1099511627776 with
  | false =>
    simp only [go_sem, ti3, ti4, ti32, ti39, ti41, ti31, ti96, ti87, ti29, ti22, ti26, ti23, Int.natCast_zero]; refine hK _ _ ?_; clear hK K
    refine Wc.cond (t := true) (by simp only [go_sem, ti3, ti4, ti32, ti39, ti41, ti31, ti96, ti87, ti29, ti22, ti26, ti23, Int.natCast_zero]) (fun _ => ?_) (fun hc => by cases hc)
    refine Wc.seq ?_
    refine Wc.reg fun K hK => ?_; simp only [go_sem, ti3, ti4, ti32, ti39, ti41, ti31, ti96, ti87, ti29, ti22, ti26, ti23, Int.natCast_zero]; refine hK _ _ ?_; clear hK K
    have e : ofC x w = 2 := by unfold ofC; rw [if_neg (by simp [hok]), if_neg hk, if_pos hw]
    rw [ofR, e]
    exact Wc.ret (Pf.ret [.cell 4 31, .tmp 5] [.agg [.nils, .p (pI 0), .p (pI 0), .nils], .c (.p (pI 2))] rfl rfl (by simp only [resultsD, go_sem, ti3, ti4, ti32, ti39, ti41, ti31, ti96, ti87, ti29, ti22, ti26, ti23, Int.natCast_zero]) rfl)
  | true =>
  simp only [go_sem, ti3, ti4, ti32, ti39, ti41, ti31, ti96, ti87, ti29, ti22, ti26, ti23, Int.natCast_zero]; refine hK _ _ ?_; clear hK K
  refine Wc.cond (t := false) (by simp only [go_sem, ti3, ti4, ti32, ti39, ti41, ti31, ti96, ti87, ti29, ti22, ti26, ti23, Int.natCast_zero]) (fun hc => by cases hc) (fun _ => Wc.skip ?_)
  have e : ofC x w = 0 := by unfold ofC; rw [if_neg (by simp [hok]), if_neg hk, if_neg (by simp [hw])]
  rw [ofR, e, if_pos rfl]
  have hw' : 1 ≤ w ∧ w ≤ 1099511627776 := by simpa [btw] using hw
  have v := serOK_v hok hk
  refine Wc.seq ?_
  refine Wc.reg fun K hK => ?_; simp only [go_sem, ti3, ti4, ti32, ti39, ti41, ti31, ti96, ti87, ti29, ti22, ti26, ti23, Int.natCast_zero]; refine hK _ _ ?_; clear hK K
  refine Wc.seqR (fun y => ∃ k6 xc G, y.ds = [] ∧ Fs y.e 47 [(2, .v (.c (.ref 0 0))), (4, .v (.c (.ref 1 0))), (6, .v (.c (.ref k6 0)))] ∧ OA y.s.nx y.s [] (G ++ [(k6, .cells [.p (.lst x.lb.length (x.lb.flatMap lbP)), .p (pI x.k), .p (pI w), xc] false), (1, .cells [.nils, .p (pI 0), .p (pI 0), .nils] false), (0, .cells (x.pd.map .p) false)]) ∧ GB xc (ofB x.k w x.sm) G) ?_ ?_
  · refine Wc.seq ?_
    refine Wc.reg fun K hK => ?_; simp only [go_sem, ti3, ti4, ti32, ti39, ti41, ti31, ti96, ti87, ti29, ti22, ti26, ti23, Int.natCast_zero]; refine hK _ _ ?_; clear hK K
    refine Wc.block (Wc.loop (fun c y => ∃ (i k6 : Nat) (xc : C) (G : List (Nat × Ob)), c = x.sm.length - i ∧ i ≤ x.sm.length ∧ y.ds = [] ∧ Fs y.e 47 [(1, P' (pI w)), (2, .v (.c (.ref 0 0))), (4, .v (.c (.ref 1 0))), (6, .v (.c (.ref k6 0))), (7, P' (pI i))] ∧ OA y.s.nx y.s [] (G ++ [(k6, .cells [.p (.lst x.lb.length (x.lb.flatMap lbP)), .p (pI x.k), .p (pI w), xc] false), (1, .cells [.nils, .p (pI 0), .p (pI 0), .nils] false), (0, .cells (x.pd.map .p) false)]) ∧ GB xc (ofB x.k w (x.sm.take i)) G) ?_ (k := x.sm.length) ?_)
    · rintro c ⟨e, ds, s1⟩ ⟨i, k6, xc, G, rfl, hi, rfl, hF, ho, hG⟩
      simp only [Fs] at hF ho
      have g6 := ho.at_ (k6, .cells [.p (.lst x.lb.length (x.lb.flatMap lbP)), .p (pI x.k), .p (pI w), xc] false) (by simp)
      have g0 := ho.at_ (0, .cells (x.pd.map .p) false) (by simp)
      simp only [List.map_cons, List.map_nil] at g0
      refine Wc.seq (Wc.seq ?_)
      refine Wc.reg fun K hK => ?_; simp only [go_sem, ti3, ti4, ti32, ti39, ti41, ti31, ti96, ti87, ti29, ti22, ti26, ti23, Int.natCast_zero, hF, g0]; refine hK _ _ ?_; clear hK K
      refine Wc.cond (t := decide ((i : Int) < x.sm.length)) (by simp only [go_sem, ti3, ti4, ti32, ti39, ti41, ti31, ti96, ti87, ti29, ti22, ti26, ti23, Int.natCast_zero, hF]) (fun hc => ?_) (fun hc => ?_)
      · have hil : i < x.sm.length := by have := of_decide_eq_true hc; omega
        obtain ⟨u, hu⟩ : ∃ u, x.sm[i]? = some u := ⟨x.sm[i], List.getElem?_eq_getElem hil⟩
        have hix := ixA ti23 rfl ti39 (j := i) (m := x.sm.length) (cs := x.sm.flatMap p2) hil hfl (by decide)
        have hca := rpA (off := i * 2) (drop_flat (f := p2) (k := 2) (fun _ => rfl) hu) (by rw [hfl]; omega)
        have hus := v.ok u (List.mem_of_getElem? hu)
        have htk : x.sm.take (i + 1) = x.sm.take i ++ [u] := take_succ hu
        have hsr : (x.sm.take i).Pairwise (fun a b => a.1 < b.1) := v.srt.sublist (List.take_sublist _ _)
        have hlen : (x.sm.take i).length = i := by simp; omega
        have hvl := v.len
        refine Wc.skip (Wc.seq (Wc.block ?_))
        refine Wc.regT fun K hK => ?_
        simp only [go_sem, ti3, ti4, ti32, ti39, ti41, ti31, ti96, ti87, ti29, ti22, ti26, ti23, Int.natCast_zero, hF, g6, g0, hix, hca]
        refine wpCall.pf (pf47 u w hus.1 hw') (by kernel_rfl) (by kernel_rfl) rfl rfl ?_
        simp only [go_sem, ti3, ti4, ti32, ti39, ti41, ti31, ti96, ti87, ti29, ti22, ti26, ti23, Int.natCast_zero, hF, g6, g0, hix, hca, o47, x47]
        refine call46 (G := G) (M := [(k6, .cells [.p (.lst x.lb.length (x.lb.flatMap lbP)), .p (pI x.k), .p (pI w), xc] false), (1, .cells [.nils, .p (pI 0), .p (pI 0), .nils] false), (0, .cells (x.pd.map .p) false)]) (L := []) (b := single w u) ?_ hG (by have := ofB_len x.k w (x.sm.take i); omega) (fun a ha _ => JB.of ((ofB_good hw'.1 i _ hlen hsr (fun y hy => v.ok y (List.mem_of_mem_take hy)) a (List.mem_of_getLast? ha)).wb (by omega)) (WB.single hus)) fun x' G' s' hs hnx hG' => ?_
        · exact by (try simp only [St.nx_put, St.nx_adv]); repeat (first | exact OA.mono ho (by omega) | refine OA.newB ?_ (by omega) rfl | refine OA.putB ?_ (by omega) | refine OA.advB ?_)
        have g6' := hs.at_ (k6, .cells [.p (.lst x.lb.length (x.lb.flatMap lbP)), .p (pI x.k), .p (pI w), xc] false) (by simp)
        simp only [go_sem, ti3, ti4, ti32, ti39, ti41, ti31, ti96, ti87, ti29, ti22, ti26, ti23, Int.natCast_zero, hF, g6', o46, x46, hix]
        refine ⟨by rw [trOK_eq]; rfl, hK _ _ ?_⟩
        refine Wc.reg fun K hK => ?_; simp only [go_sem, ti3, ti4, ti32, ti39, ti41, ti31, ti96, ti87, ti29, ti22, ti26, ti23, Int.natCast_zero, hF, i64n i (by omega)]; refine hK _ _ ?_; clear hK K
        refine ⟨x.sm.length - (i + 1), by omega, i + 1, k6, x', G', rfl, by omega, rfl, by simp only [Fs, Int.natCast_zero, go_sem, ti3, ti4, ti32, ti39, ti41, ti31, ti96, ti87, ti29, ti22, ti26, ti23, Int.natCast_zero, hF], ?_, ?_⟩
        · exact by (try simp only [St.nx_put, St.nx_adv]); first | ((repeat (first | exact OA.mono hs (by omega) | refine OA.advB ?_)); done) | ((repeat refine OA.advB ?_); refine OA.ofS ?_; repeat (first | exact ⟨_, OA.mono hs (by omega)⟩ | refine OAs.adv ?_ | refine OAs.put ?_))
        · rw [htk, ofB_snoc]; exact hG'
      · have hil : i = x.sm.length := by have := of_decide_eq_false hc; omega
        rw [hil, List.take_length] at hG
        exact Wc.exit ⟨k6, xc, G, rfl, by simp only [Fs, Int.natCast_zero, go_sem, ti3, ti4, ti32, ti39, ti41, ti31, ti96, ti87, ti29, ti22, ti26, ti23, Int.natCast_zero, hF], by (try simp only [St.nx_put, St.nx_adv]); repeat (first | exact OA.mono ho (by omega) | refine OA.newB ?_ (by omega) rfl | refine OA.advB ?_), hG⟩
    · exact ⟨0, 18, .nils, [], rfl, by omega, rfl, by simp only [Fs, Int.natCast_zero, go_sem, ti3, ti4, ti32, ti39, ti41, ti31, ti96, ti87, ti29, ti22, ti26, ti23, Int.natCast_zero], by (try simp only [St.nx_put, St.nx_adv]); repeat (first | exact OA.mono s00_oa (by omega) | refine OA.newB ?_ (by omega) rfl | refine OA.advB ?_), .inl ⟨rfl, rfl, rfl⟩⟩
  rintro ⟨e, ds, s1⟩ ⟨k6, xc, G, rfl, hF, ho, hG⟩
  simp only [Fs] at hF ho
  have g6 := ho.at_ (k6, .cells [.p (.lst x.lb.length (x.lb.flatMap lbP)), .p (pI x.k), .p (pI w), xc] false) (by simp)
  have g1 := ho.at_ (1, .cells [.nils, .p (pI 0), .p (pI 0), .nils] false) (by simp)
  refine Wc.seq ?_
  refine Wc.reg fun K hK => ?_; simp only [go_sem, ti3, ti4, ti32, ti39, ti41, ti31, ti96, ti87, ti29, ti22, ti26, ti23, Int.natCast_zero, hF, g6, g1]; refine hK _ _ ?_; clear hK K
  exact Wc.ret (Pf.retG [.cell 4 31, .tmp 5] rfl rfl (by simp only [resultsD, go_sem, ti3, ti4, ti32, ti39, ti41, ti31, ti96, ti87, ti29, ti22, ti26, ti23, Int.natCast_zero, hF]) ((ho.adv (n := 3)).keepG (k := 1) (o := .cells [.nils, .p (pI 0), .p (pI 0), .nils] false) (by simp) rfl) hG)
end Go.Proofs.YtedcnhbblgmdnaaGreat.Ab
