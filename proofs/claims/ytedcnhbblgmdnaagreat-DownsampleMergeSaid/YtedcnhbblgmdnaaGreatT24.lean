/- A part of the proof: an evaluator of the code, its contracts, the law. No condition. -/
import Derived.Test.YtedcnhbblgmdnaaGreatT23
namespace Go.Proofs.YtedcnhbblgmdnaaGreat.Ab
set_option maxHeartbeats 8000000
set_option maxRecDepth 10000
set_option linter.unusedSimpArgs false
set_option linter.unusedVariables false
theorem o153 : E0.opn 153 = false := by kernel_rfl
theorem x153 : E0.xt 153 = none := by kernel_rfl
theorem minB2 (a b : Int) : foldO minD (.v (.c (.p (.int .i64 a)))) [.v (.c (.p (.int .i64 b)))] = some (.v (.c (.p (.int .i64 (minI a b))))) := by
  simp only [foldO, minD, P', Option.some.injEq, D.v.injEq, V.c.injEq, C.p.injEq, Pd.int.injEq, true_and, decide_eq_true_eq, if_true, minI]
theorem maxB2 (a b : Int) : foldO maxD (.v (.c (.p (.int .i64 a)))) [.v (.c (.p (.int .i64 b)))] = some (.v (.c (.p (.int .i64 (maxI a b))))) := by
  simp only [foldO, maxD, P', Option.some.injEq, D.v.injEq, V.c.injEq, C.p.injEq, Pd.int.injEq, true_and, decide_eq_true_eq, if_true, maxI]
/-- 95: Join -/
theorem pf95 (a b : Bkt) (k : Int) (hv : (-1099511627776 ≤ a.l ∧ a.l ≤ 1099511627776) ∧ (-1099511627776 ≤ b.f ∧ b.f ≤ 1099511627776)) (hi : -4611686018427387904 ≤ a.inc + b.inc ∧ a.inc + b.inc ≤ 4611686018427387904)
    (hc : -4611686018427387904 ≤ a.c + b.c ∧ a.c + b.c ≤ 4611686018427387904) (hs : -9223372036854775808 ≤ a.s + b.s ∧ a.s + b.s ≤ 9223372036854775807) : Pf E0 95 [.agg (a.pd.map .p), .agg (b.pd.map .p), .c (.p (pI k))] (.v (.agg ((joinB k a b).pd.map .p))) := by
  have p := pf153 a.l b.f hv.1 hv.2
  have hst : -2199023255552 ≤ stepV a.l b.f ∧ stepV a.l b.f ≤ 2199023255552 := by unfold stepV; split <;> omega
  have e1 : IntKind.i64.wrap (a.inc + b.inc) = a.inc + b.inc := by rw [wi64]; omega
  have e2 : IntKind.i64.wrap (a.inc + b.inc + stepV a.l b.f) = a.inc + b.inc + stepV a.l b.f := by rw [wi64]; omega
  have e3 : IntKind.i64.wrap (a.c + b.c) = a.c + b.c := by rw [wi64]; omega
  have e4 : IntKind.i64.wrap (a.s + b.s) = a.s + b.s := by rw [wi64]; omega
  refine Pf.body (fn := Tryz.f95) (by kernel_rfl) rfl ?_; simp only [List.map_cons, List.map_nil, List.cons_append, List.nil_append, List.length_cons, List.length_nil, Tryz.ntmps95, List.replicate, Nat.reduceSub, Nat.reduceAdd]
  refine Wc.seq ?_
  refine Wc.reg fun K hK => ?_; simp only [go_sem, ti3, ti4, ti32, ti39, ti41, ti31, ti96]; refine hK _ _ ?_; clear hK K
  obtain ⟨inc, hinc⟩ : ∃ inc, inc = (if k = 2 then a.inc + b.inc + stepV a.l b.f else a.inc) := ⟨_, rfl⟩
  have hF : True := trivial
  refine Wc.seqR (fun y => y.ds = [] ∧ Fs y.e 52 [(3, .v (.c (.ref 0 0))), (4, .v (.c (.ref 1 0))), (6, .v (.c (.ref 2 0)))] ∧ y.s.get 2 = some (.cells ((List.replicate 10 (pI 0)).map .p) false) ∧ y.s.get 1 = some (.cells (b.pd.map .p) false) ∧ y.s.get 0 = some (.cells ([pI a.st, pI a.c, pI a.s, pI a.mn, pI a.mx, pI a.f, pI a.l, pI a.ft, pI a.lt, pI inc].map .p) false)) ?_ ?_
  · refine Wc.seq ?_
    by_cases hk : k = 2
    · subst hk
      refine Wc.reg fun K hK => ?_; simp only [go_sem, ti3, ti4, ti32, ti39, ti41, ti31, ti96]; refine hK _ _ ?_; clear hK K
      refine Wc.cond (t := true) (by simp only [go_sem, ti3, ti4, ti32, ti39, ti41, ti31, ti96]) (fun _ => ?_) (fun hc => by cases hc)
      refine Wc.regT fun K hK => ?_
      simp only [go_sem, ti3, ti4, ti32, ti39, ti41, ti31, ti96, e1, e2]
      refine wpCall.pf p (by kernel_rfl) (by kernel_rfl) rfl rfl ?_
      simp only [go_sem, ti3, ti4, ti32, ti39, ti41, ti31, ti96, e1, e2, o153, x153]
      refine ⟨by rfl, hK _ _ ?_⟩
      rw [if_pos rfl] at hinc
      subst hinc
      exact ⟨rfl, by simp only [Fs, Int.natCast_zero, go_sem, ti3, ti4, ti32, ti39, ti41, ti31, ti96], by simp only [go_sem, ti3, ti4, ti32, ti39, ti41, ti31, ti96], by simp only [go_sem, ti3, ti4, ti32, ti39, ti41, ti31, ti96], by simp only [go_sem, ti3, ti4, ti32, ti39, ti41, ti31, ti96]⟩
    · have hkd : (k == 2) = false := by simpa using hk
      rw [if_neg hk] at hinc
      subst hinc
      refine Wc.reg fun K hK => ?_; simp only [go_sem, ti3, ti4, ti32, ti39, ti41, ti31, ti96]; refine hK _ _ ?_; clear hK K
      refine Wc.cond (t := false) (by simp only [go_sem, ti3, ti4, ti32, ti39, ti41, ti31, ti96]; exact congrArg some hkd) (fun hc => by cases hc) (fun _ => Wc.skip ?_)
      exact ⟨rfl, by simp only [Fs, Int.natCast_zero, go_sem, ti3, ti4, ti32, ti39, ti41, ti31, ti96], by simp only [go_sem, ti3, ti4, ti32, ti39, ti41, ti31, ti96], by simp only [go_sem, ti3, ti4, ti32, ti39, ti41, ti31, ti96], by simp only [go_sem, ti3, ti4, ti32, ti39, ti41, ti31, ti96]⟩
  clear hF
  rintro ⟨e, ds, s1⟩ ⟨rfl, hF, g2, g1, g0⟩
  simp only [Fs] at hF
  simp only [List.map_cons, List.map_nil] at g0 g1 g2
  refine Wc.seq ?_
  refine Wc.regT fun K hK => ?_
  simp only [go_sem, ti3, ti4, ti32, ti39, ti41, ti31, ti96, hF, g0, g1, e3, e4]
  refine ⟨by rfl, hK _ _ ?_⟩
  refine Wc.seq ?_
  refine Wc.regT fun K hK => ?_
  simp only [go_sem, ti3, ti4, ti32, ti39, ti41, ti31, ti96, hF, g0, g1, minB2, maxB2]
  refine ⟨by rfl, hK _ _ ?_⟩
  refine Wc.seq ?_
  refine Wc.regT fun K hK => ?_
  simp only [go_sem, ti3, ti4, ti32, ti39, ti41, ti31, ti96, hF, g0, g1]
  refine ⟨by rfl, hK _ _ ?_⟩
  refine Wc.seq ?_
  refine Wc.reg fun K hK => ?_; simp only [go_sem, ti3, ti4, ti32, ti39, ti41, ti31, ti96, hF, g2]; refine hK _ _ ?_; clear hK K
  exact Wc.ret (Pf.ret [.cell 6 41] [.agg ((joinB k a b).pd.map .p)] rfl rfl (by simp only [resultsD, go_sem, ti3, ti4, ti32, ti39, ti41, ti31, ti96, hF, joinB, hinc]; try rfl) rfl)
end Go.Proofs.YtedcnhbblgmdnaaGreat.Ab
namespace Go.Proofs.YtedcnhbblgmdnaaGreat.Ab
set_option maxHeartbeats 8000000
set_option maxRecDepth 10000
set_option linter.unusedSimpArgs false
set_option linter.unusedVariables false
/-- 48: bucket.join -/
theorem pf48 (a b : Bkt) (k : Int) (hv : (-1099511627776 ≤ a.l ∧ a.l ≤ 1099511627776) ∧ (-1099511627776 ≤ b.f ∧ b.f ≤ 1099511627776)) (hi : -4611686018427387904 ≤ a.inc + b.inc ∧ a.inc + b.inc ≤ 4611686018427387904)
    (hc : -4611686018427387904 ≤ a.c + b.c ∧ a.c + b.c ≤ 4611686018427387904) (hs : -9223372036854775808 ≤ a.s + b.s ∧ a.s + b.s ≤ 9223372036854775807) : Pf E0 48 [.agg (a.pd.map .p), .agg (b.pd.map .p), .c (.p (pI k))] (.v (.agg ((joinB k a b).pd.map .p))) := by
  have e1 : IntKind.i64.wrap (a.inc + b.inc) = a.inc + b.inc := by rw [wi64]; omega
  have e5 : IntKind.i64.wrap (b.f - a.l) = b.f - a.l := by rw [wi64]; omega
  have e6 : IntKind.i64.wrap (a.inc + b.inc + b.f) = a.inc + b.inc + b.f := by rw [wi64]; omega
  have e7 : IntKind.i64.wrap (a.inc + b.inc + (b.f - a.l)) = a.inc + b.inc + (b.f - a.l) := by rw [wi64]; omega
  have e3 : IntKind.i64.wrap (a.c + b.c) = a.c + b.c := by rw [wi64]; omega
  have e4 : IntKind.i64.wrap (a.s + b.s) = a.s + b.s := by rw [wi64]; omega
  refine Pf.body (fn := Tryz.f48) (by kernel_rfl) rfl ?_; simp only [List.map_cons, List.map_nil, List.cons_append, List.nil_append, List.length_cons, List.length_nil, Tryz.ntmps48, List.replicate, Nat.reduceSub, Nat.reduceAdd]
  refine Wc.seq ?_
  refine Wc.reg fun K hK => ?_; simp only [go_sem, ti3, ti4, ti32, ti39, ti41, ti31, ti96, ti87]; refine hK _ _ ?_; clear hK K
  refine Wc.seq ?_
  refine Wc.reg fun K hK => ?_; simp only [go_sem, ti3, ti4, ti32, ti39, ti41, ti31, ti96, ti87]; refine hK _ _ ?_; clear hK K
  obtain ⟨inc, hinc⟩ : ∃ inc, inc = (if k = 2 then a.inc + b.inc + stepV a.l b.f else a.inc) := ⟨_, rfl⟩
  refine Wc.seqR (fun y => y.ds = [] ∧ Fs y.e 96 [(3, .v (.c (.ref 0 0))), (4, .v (.c (.ref 1 0))), (6, .v (.c (.ref 2 0))), (7, .v (.c (.ref 4 0)))] ∧ y.s.get 2 = some (.cells ((List.replicate 10 (pI 0)).map .p) false) ∧ y.s.get 1 = some (.cells (b.pd.map .p) false) ∧ y.s.get 0 = some (.cells (a.pd.map .p) false) ∧ y.s.get 4 = some (.cells ([pI a.st, pI a.c, pI a.s, pI a.mn, pI a.mx, pI a.f, pI a.l, pI a.ft, pI a.lt, pI inc].map .p) false)) ?_ ?_
  · refine Wc.seq ?_
    by_cases hk : k = 2
    · subst hk
      rw [if_pos rfl] at hinc
      refine Wc.reg fun K hK => ?_; simp only [go_sem, ti3, ti4, ti32, ti39, ti41, ti31, ti96, ti87]; refine hK _ _ ?_; clear hK K
      refine Wc.cond (t := true) (by simp only [go_sem, ti3, ti4, ti32, ti39, ti41, ti31, ti96, ti87]) (fun _ => ?_) (fun hc => by cases hc)
      refine Wc.seq ?_
      refine Wc.reg fun K hK => ?_; simp only [go_sem, ti3, ti4, ti32, ti39, ti41, ti31, ti96, ti87, e1]; refine hK _ _ ?_; clear hK K
      refine Wc.seq ?_
      refine Wc.reg fun K hK => ?_; simp only [go_sem, ti3, ti4, ti32, ti39, ti41, ti31, ti96, ti87]; refine hK _ _ ?_; clear hK K
      refine Wc.cond (t := decide (b.f < a.l)) (by simp only [go_sem, ti3, ti4, ti32, ti39, ti41, ti31, ti96, ti87]) (fun hc => ?_) (fun hc => ?_)
      · have h : b.f < a.l := of_decide_eq_true hc
        rw [show stepV a.l b.f = b.f from if_pos h] at hinc
        subst hinc
        refine Wc.reg fun K hK => ?_; simp only [go_sem, ti3, ti4, ti32, ti39, ti41, ti31, ti96, ti87, e6]; refine hK _ _ ?_; clear hK K
        exact ⟨rfl, by simp only [Fs, Int.natCast_zero, go_sem, ti3, ti4, ti32, ti39, ti41, ti31, ti96, ti87], by simp only [go_sem, ti3, ti4, ti32, ti39, ti41, ti31, ti96, ti87], by simp only [go_sem, ti3, ti4, ti32, ti39, ti41, ti31, ti96, ti87], by simp only [go_sem, ti3, ti4, ti32, ti39, ti41, ti31, ti96, ti87], by simp only [go_sem, ti3, ti4, ti32, ti39, ti41, ti31, ti96, ti87]⟩
      · have h : ¬ b.f < a.l := of_decide_eq_false hc
        rw [show stepV a.l b.f = b.f - a.l from if_neg h] at hinc
        subst hinc
        refine Wc.reg fun K hK => ?_; simp only [go_sem, ti3, ti4, ti32, ti39, ti41, ti31, ti96, ti87, e5, e7]; refine hK _ _ ?_; clear hK K
        exact ⟨rfl, by simp only [Fs, Int.natCast_zero, go_sem, ti3, ti4, ti32, ti39, ti41, ti31, ti96, ti87], by simp only [go_sem, ti3, ti4, ti32, ti39, ti41, ti31, ti96, ti87], by simp only [go_sem, ti3, ti4, ti32, ti39, ti41, ti31, ti96, ti87], by simp only [go_sem, ti3, ti4, ti32, ti39, ti41, ti31, ti96, ti87], by simp only [go_sem, ti3, ti4, ti32, ti39, ti41, ti31, ti96, ti87]⟩
    · have hkd : (k == 2) = false := by simpa using hk
      rw [if_neg hk] at hinc
      subst hinc
      refine Wc.reg fun K hK => ?_; simp only [go_sem, ti3, ti4, ti32, ti39, ti41, ti31, ti96, ti87]; refine hK _ _ ?_; clear hK K
      refine Wc.cond (t := false) (by simp only [go_sem, ti3, ti4, ti32, ti39, ti41, ti31, ti96, ti87]; exact congrArg some hkd) (fun hc => by cases hc) (fun _ => Wc.skip ?_)
      exact ⟨rfl, by simp only [Fs, Int.natCast_zero, go_sem, ti3, ti4, ti32, ti39, ti41, ti31, ti96, ti87], by simp only [go_sem, ti3, ti4, ti32, ti39, ti41, ti31, ti96, ti87], by simp only [go_sem, ti3, ti4, ti32, ti39, ti41, ti31, ti96, ti87], by simp only [go_sem, ti3, ti4, ti32, ti39, ti41, ti31, ti96, ti87], by simp only [go_sem, ti3, ti4, ti32, ti39, ti41, ti31, ti96, ti87]⟩
  rintro ⟨e, ds, s1⟩ ⟨rfl, hF, g2, g1, g0, g3⟩
  simp only [Fs] at hF
  simp only [List.map_cons, List.map_nil] at g0 g1 g2 g3
  refine Wc.seq ?_
  refine Wc.reg fun K hK => ?_; simp only [go_sem, ti3, ti4, ti32, ti39, ti41, ti31, ti96, ti87, hF, g1, g3, e3]; refine hK _ _ ?_; clear hK K
  refine Wc.seq ?_
  refine Wc.reg fun K hK => ?_; simp only [go_sem, ti3, ti4, ti32, ti39, ti41, ti31, ti96, ti87, hF, g1, g3, e4]; refine hK _ _ ?_; clear hK K
  refine Wc.seq ?_
  refine Wc.reg fun K hK => ?_; simp only [go_sem, ti3, ti4, ti32, ti39, ti41, ti31, ti96, ti87, hF, g0, g1, g3, minB2]; refine hK _ _ ?_; clear hK K
  refine Wc.seq ?_
  refine Wc.reg fun K hK => ?_; simp only [go_sem, ti3, ti4, ti32, ti39, ti41, ti31, ti96, ti87, hF, g0, g1, g3, maxB2]; refine hK _ _ ?_; clear hK K
  refine Wc.seq ?_
  refine Wc.reg fun K hK => ?_; simp only [go_sem, ti3, ti4, ti32, ti39, ti41, ti31, ti96, ti87, hF, g1, g3]; refine hK _ _ ?_; clear hK K
  refine Wc.seq ?_
  refine Wc.reg fun K hK => ?_; simp only [go_sem, ti3, ti4, ti32, ti39, ti41, ti31, ti96, ti87, hF, g1, g3]; refine hK _ _ ?_; clear hK K
  refine Wc.seq ?_
  refine Wc.reg fun K hK => ?_; simp only [go_sem, ti3, ti4, ti32, ti39, ti41, ti31, ti96, ti87, hF, g2]; refine hK _ _ ?_; clear hK K
  exact Wc.ret (Pf.ret [.cell 6 87] [.agg ((joinB k a b).pd.map .p)] rfl rfl (by simp only [resultsD, go_sem, ti3, ti4, ti32, ti39, ti41, ti31, ti96, ti87, hF, joinB, hinc]; try rfl) rfl)
end Go.Proofs.YtedcnhbblgmdnaaGreat.Ab
namespace Go.Proofs.YtedcnhbblgmdnaaGreat.Ab
set_option maxHeartbeats 8000000
set_option maxRecDepth 10000
set_option linter.unusedSimpArgs false
set_option linter.unusedVariables false
/-! ### slices that are objects of the state -/
theorem ixG {t e : Nat} {i ie : TI} (ht : E0.ti t = some i) (hk : i.kn = .slice e) (he : E0.ti e = some ie) {q id off es j n : Nat} (hj : j < n) (hes : ie.size = es) :
    indexAddrD E0 t (.v (.c (.gs q id off n es))) (.v (.c (.p (.int .i64 (j : Int))))) = some (.v (.c (.gref q id (off + j * es)))) := by
  unfold indexAddrD
  rw [ht]
  simp only [D.int?, hk, he, Int.toNat_natCast]
  rw [if_pos ⟨Int.natCast_nonneg j, by omega, hes.symm⟩]
theorem allM_p : ∀ (l : List Pd), allM purS (l.map .p) = some l
  | [] => rfl
  | x :: r => by simp only [List.map_cons, allM, purS, allM_p r]
def cB (l : List Bkt) : List C := (l.flatMap Bkt.pd).map .p
theorem cB_len (l : List Bkt) : (cB l).length = l.length * 10 := by rw [cB, List.length_map]; exact flat_len (k := 10) (fun _ => rfl) l
theorem cB_app (l m : List Bkt) : cB (l ++ m) = cB l ++ cB m := by simp [cB]
theorem cB_drop (q : List Bkt) (a : Bkt) (r : List Bkt) : (cB (q ++ a :: r)).drop (q.length * 10) = a.pd.map .p ++ cB r := by
  rw [cB_app, ← cB_len q, List.drop_left]
  simp [cB]
theorem cB_take (q r : List Bkt) : (cB (q ++ r)).take (q.length * 10) = cB q := by
  rw [cB_app, ← cB_len q, List.take_left]
/-- A slice of buckets, and its object. -/
def GB (x : C) (l : List Bkt) (G : List (Nat × Ob)) : Prop := (x = .nils ∧ l = [] ∧ G = []) ∨ ∃ id, x = .gs l.length id 0 l.length 10 ∧ G = [(id, .grow 10 l.length (cB l) false)]
/-- Two buckets may be joined: no number is too great. -/
structure JB (a b : Bkt) : Prop where
  l1 : -1099511627776 ≤ a.l
  l2 : a.l ≤ 1099511627776
  f1 : -1099511627776 ≤ b.f
  f2 : b.f ≤ 1099511627776
  i1 : -4611686018427387904 ≤ a.inc + b.inc
  i2 : a.inc + b.inc ≤ 4611686018427387904
  c1 : -4611686018427387904 ≤ a.c + b.c
  c2 : a.c + b.c ≤ 4611686018427387904
  s1 : -9223372036854775808 ≤ a.s + b.s
  s2 : a.s + b.s ≤ 9223372036854775807
theorem JB.pf95 {a b : Bkt} (h : JB a b) (k : Int) : Pf E0 95 [.agg (a.pd.map .p), .agg (b.pd.map .p), .c (.p (pI k))] (.v (.agg ((joinB k a b).pd.map .p))) := Ab.pf95 a b k ⟨⟨h.l1, h.l2⟩, h.f1, h.f2⟩ ⟨h.i1, h.i2⟩ ⟨h.c1, h.c2⟩ ⟨h.s1, h.s2⟩
theorem JB.pf48 {a b : Bkt} (h : JB a b) (k : Int) : Pf E0 48 [.agg (a.pd.map .p), .agg (b.pd.map .p), .c (.p (pI k))] (.v (.agg ((joinB k a b).pd.map .p))) := Ab.pf48 a b k ⟨⟨h.l1, h.l2⟩, h.f1, h.f2⟩ ⟨h.i1, h.i2⟩ ⟨h.c1, h.c2⟩ ⟨h.s1, h.s2⟩
theorem OA.putB {s : St} {c k : Nat} {o : Ob} {L : List (Nat × D × Nat × List Pd)} {M : List (Nat × Ob)} (h : OA k s L M) (hc : k < c) : OA c (s.put k o) L M := (h.put (Nat.le_refl _)).mono hc
theorem o95 : E0.opn 95 = false := by kernel_rfl
theorem x95 : E0.xt 95 = none := by kernel_rfl
theorem OAs.putB {c key k : Nat} {s : St} {o : Ob} {L : List (Nat × D × Nat × List Pd)} {M1 M2 : List (Nat × Ob)} (h : OAs key s L M1 k M2) (hc : key < c) : OAs c (s.put key o) L M1 k M2 := by
  obtain ⟨o', h⟩ := h; exact ⟨o', OA.putB h hc⟩
/-- 46: appended -/
theorem call46 {s : St} {L : List (Nat × D × Nat × List Pd)} {M G : List (Nat × Ob)} {x : C} {l : List Bkt} {b : Bkt} {k : Int} {K : D → St → Prop} (ho : OA s.nx s L (G ++ M)) (hx : GB x l G) (hn : l.length < 2^30) (hj : ∀ a, l.getLast? = some a → a.st = b.st → JB a b)
    (hK : ∀ x' G' s', OA s'.nx s' L (G' ++ M) → s.nx ≤ s'.nx → GB x' (appB k l b) G' → K (.v (.c x')) s') : wpCall E0 (P' (.fnc 46)) [.v (.c x), .v (.agg (b.pd.map .p)), P' (pI k)] s K := by
  rcases hx with ⟨rfl, rfl, rfl⟩ | ⟨id, rfl, rfl⟩
  · refine wpCall.opn (fn := Tryz.f46) (by kernel_rfl) (by kernel_rfl) rfl (by kernel_rfl) rfl ?_; simp only [List.map_cons, List.map_nil, List.cons_append, List.nil_append, List.length_cons, List.length_nil, Tryz.ntmps46, List.replicate, Nat.reduceSub, Nat.reduceAdd]
    refine Wc.seq ?_
    refine Wc.reg fun K hK => ?_; simp only [go_sem, ti3, ti4, ti32, ti39, ti41, ti31, ti96, ti87, ti29, Int.natCast_zero]; refine hK _ _ ?_; clear hK K
    refine Wc.seq ?_
    refine Wc.reg fun K hK => ?_; simp only [go_sem, ti3, ti4, ti32, ti39, ti41, ti31, ti96, ti87, ti29, Int.natCast_zero]; refine hK _ _ ?_; clear hK K
    refine Wc.seq (Wc.seq ?_)
    refine Wc.regD fun K hK => ?_; simp only [go_sem, ti3, ti4, ti32, ti39, ti41, ti31, ti96, ti87, ti29, Int.natCast_zero]; refine hK _ _ ?_; clear hK K
    refine Wc.cond (t := true) (by simp only [go_sem, ti3, ti4, ti32, ti39, ti41, ti31, ti96, ti87, ti29, Int.natCast_zero]) (fun _ => ?_) (fun hc => by cases hc)
    refine Wc.seq ?_
    refine Wc.reg fun K hK => ?_; simp only [go_sem, ti3, ti4, ti32, ti39, ti41, ti31, ti96, ti87, ti29, Int.natCast_zero]
    refine OA.appN (by_ := 80) (m := 1) (ys := b.pd) (L := L) (M := M) ?_ (Nat.le_refl _) rfl ⟨_, ti29, rfl⟩ ti41 rfl rfl rfl (by decide) (by decide) (by simp only [go_sem, ti3, ti4, ti32, ti39, ti41, ti31, ti96, ti87, ti29, Int.natCast_zero]) rfl (by decide) (by decide) fun s' hs hnx => ?_
    · exact by (try simp only [St.nx_put, St.nx_adv]); repeat (first | exact OA.mono ho (by omega) | refine OA.newB ?_ (by omega) rfl | refine OA.putB ?_ (by omega) | refine OA.advB ?_)
    simp only [go_sem, ti3, ti4, ti32, ti39, ti41, ti31, ti96, ti87, ti29, Int.natCast_zero]; refine hK _ _ ?_; clear hK K
    refine Wc.ret (Op.ret [.tmp 6] [.c (.gs 1 (s.nx + 21) 0 1 10)] rfl rfl (by simp only [resultsD, go_sem, ti3, ti4, ti32, ti39, ti41, ti31, ti96, ti87, ti29, Int.natCast_zero]) (hK _ _ _ ?_ ?_ (.inr ⟨_, rfl, rfl⟩)))
    · exact hs.mono (by simp only [St.nx_put, St.nx_adv] at hnx ⊢; omega)
    · simp only [St.nx_put, St.nx_adv] at hnx ⊢; omega
  · have g : s.get id = some (.grow 10 l.length (cB l) false) := ho.at_ (id, .grow 10 l.length (cB l) false) (by simp)
    have hid := ho.lt g
    have nid : ∀ j, (s.nx + j = id) = False := fun j => by simp; omega
    have nid0 : (s.nx = id) = False := by simp; omega
    rcases List.eq_nil_or_concat l with rfl | ⟨q, a, rfl⟩
    · refine wpCall.opn (fn := Tryz.f46) (by kernel_rfl) (by kernel_rfl) rfl (by kernel_rfl) rfl ?_; simp only [List.map_cons, List.map_nil, List.cons_append, List.nil_append, List.length_cons, List.length_nil, Tryz.ntmps46, List.replicate, Nat.reduceSub, Nat.reduceAdd]
      refine Wc.seq ?_
      refine Wc.reg fun K hK => ?_; simp only [go_sem, ti3, ti4, ti32, ti39, ti41, ti31, ti96, ti87, ti29, Int.natCast_zero]; refine hK _ _ ?_; clear hK K
      refine Wc.seq ?_
      refine Wc.reg fun K hK => ?_; simp only [go_sem, ti3, ti4, ti32, ti39, ti41, ti31, ti96, ti87, ti29, Int.natCast_zero]; refine hK _ _ ?_; clear hK K
      refine Wc.seq (Wc.seq ?_)
      refine Wc.regD fun K hK => ?_; simp only [go_sem, ti3, ti4, ti32, ti39, ti41, ti31, ti96, ti87, ti29, Int.natCast_zero]; refine hK _ _ ?_; clear hK K
      refine Wc.cond (t := true) (by simp only [go_sem, ti3, ti4, ti32, ti39, ti41, ti31, ti96, ti87, ti29, Int.natCast_zero]) (fun _ => ?_) (fun hc => by cases hc)
      refine Wc.seq ?_
      refine Wc.reg fun K hK => ?_; simp only [go_sem, ti3, ti4, ti32, ti39, ti41, ti31, ti96, ti87, ti29, Int.natCast_zero]
      refine OA.appG (M1 := []) (M2 := M) (by_ := 80) (n := 0) (m := 1) (ys := b.pd) (cs := cB []) (L := L) (b := s.nx + 22) ?_ rfl ⟨_, ti29, rfl⟩ ti41 rfl rfl rfl (by decide) (by decide) (by simp only [go_sem, ti3, ti4, ti32, ti39, ti41, ti31, ti96, ti87, ti29, Int.natCast_zero]) rfl (by decide) fun s' hs hnx => ?_
      · exact by (try simp only [St.nx_put, St.nx_adv]); repeat (first | exact OA.mono ho (by omega) | refine OA.newB ?_ (by omega) rfl | refine OA.putB ?_ (by omega) | refine OA.advB ?_)
      simp only [go_sem, ti3, ti4, ti32, ti39, ti41, ti31, ti96, ti87, ti29, Int.natCast_zero]; refine hK _ _ ?_; clear hK K
      refine Wc.ret (Op.ret [.tmp 6] [.c (.gs 1 id 0 1 10)] rfl rfl (by simp only [resultsD, go_sem, ti3, ti4, ti32, ti39, ti41, ti31, ti96, ti87, ti29, Int.natCast_zero]) (hK _ _ _ ?_ ?_ (.inr ⟨_, rfl, rfl⟩)))
      · exact hs.mono (by simp only [St.nx_put, St.nx_adv] at hnx ⊢; omega)
      · simp only [St.nx_put, St.nx_adv] at hnx ⊢; omega
    · rw [List.concat_eq_append] at *
      have hl : (q ++ [a]).length = q.length + 1 := by simp
      have hix : indexAddrD E0 29 (.v (.c (.gs (q ++ [a]).length id 0 (q ++ [a]).length 10))) (.v (.c (.p (.int .i64 (q.length : Int))))) = _ := ixG ti29 rfl ti41 (j := q.length) (n := (q ++ [a]).length) (by omega) rfl
      have e1 : IntKind.i64.wrap (((q ++ [a]).length : Int) - 1) = (q.length : Int) := by rw [wi64, hl]; omega
      have hdr : (cB (q ++ [a])).drop (q.length * 10) = a.pd.map .p ++ cB [] := cB_drop q a []
      have hle : (q.length * 10 ≤ (cB (q ++ [a])).length) = True := by rw [cB_len, hl]; simp; omega
      have hz : (((q ++ [a]).length : Int) == 0) = false := by rw [beq_eq_false_iff_ne, hl]; omega
      simp only [Nat.zero_add] at hix
      generalize hN : (q ++ [a]).length = N at *
      generalize hCS : cB (q ++ [a]) = CS at *
      refine wpCall.opn (fn := Tryz.f46) (by kernel_rfl) (by kernel_rfl) rfl (by kernel_rfl) rfl ?_; simp only [List.map_cons, List.map_nil, List.cons_append, List.nil_append, List.length_cons, List.length_nil, Tryz.ntmps46, List.replicate, Nat.reduceSub, Nat.reduceAdd]
      refine Wc.seq ?_
      refine Wc.reg fun K hK => ?_; simp only [go_sem, ti3, ti4, ti32, ti39, ti41, ti31, ti96, ti87, ti29, Int.natCast_zero]; refine hK _ _ ?_; clear hK K
      refine Wc.seq ?_
      refine Wc.reg fun K hK => ?_; simp only [go_sem, ti3, ti4, ti32, ti39, ti41, ti31, ti96, ti87, ti29, Int.natCast_zero]; refine hK _ _ ?_; clear hK K
      refine Wc.seq (Wc.seq ?_)
      refine Wc.regD fun K hK => ?_; simp only [go_sem, ti3, ti4, ti32, ti39, ti41, ti31, ti96, ti87, ti29, Int.natCast_zero, hz, e1, hix, hle, hdr, g, nid, nid0]; refine hK _ _ ?_; clear hK K
      refine Wc.cond (t := a.st != b.st) (by simp only [go_sem, ti3, ti4, ti32, ti39, ti41, ti31, ti96, ti87, ti29, Int.natCast_zero]) (fun hc => ?_) (fun hc => ?_)
      · have hne : a.st ≠ b.st := by simpa using hc
        have hA : appB k (q ++ [a]) b = (q ++ [a]) ++ [b] := appB_new fun x hx => by simp at hx; subst hx; exact hne
        rw [hA] at hK
        refine Wc.seq ?_
        refine Wc.reg fun K hK => ?_; simp only [go_sem, ti3, ti4, ti32, ti39, ti41, ti31, ti96, ti87, ti29, Int.natCast_zero]
        refine OA.appG (M1 := []) (M2 := M) (by_ := 80) (n := N) (m := 1) (ys := b.pd) (cs := CS) (L := L) (b := s.nx + 22) ?_ rfl ⟨_, ti29, rfl⟩ ti41 rfl rfl rfl (by decide) (by decide) (by simp only [go_sem, ti3, ti4, ti32, ti39, ti41, ti31, ti96, ti87, ti29, Int.natCast_zero]) rfl (by omega) fun s' hs hnx => ?_
        · exact by (try simp only [St.nx_put, St.nx_adv]); repeat (first | exact OA.mono ho (by omega) | refine OA.newB ?_ (by omega) rfl | refine OA.putB ?_ (by omega) | refine OA.advB ?_)
        simp only [go_sem, ti3, ti4, ti32, ti39, ti41, ti31, ti96, ti87, ti29, Int.natCast_zero]; refine hK _ _ ?_; clear hK K
        refine Wc.ret (Op.ret [.tmp 6] [.c (.gs (N + 1) id 0 (N + 1) 10)] rfl rfl (by simp only [resultsD, go_sem, ti3, ti4, ti32, ti39, ti41, ti31, ti96, ti87, ti29, Int.natCast_zero]) (hK _ _ _ ?_ ?_ (.inr ⟨id, ?_, rfl⟩)))
        · have e9 : ((q ++ [a]) ++ [b]).length = N + 1 := by simp [← hN]
          rw [cB_app, hCS, e9]
          exact hs.mono (by simp only [St.nx_put, St.nx_adv] at hnx ⊢; omega)
        · simp only [St.nx_put, St.nx_adv] at hnx ⊢; omega
        · have e9 : ((q ++ [a]) ++ [b]).length = N + 1 := by simp [← hN]
          rw [e9]
      · have heq : a.st = b.st := by simpa using hc
        have hA : appB k (q ++ [a]) b = q ++ [joinB k a b] := appB_same heq
        rw [hA] at hK
        have p95 := (hj a (by simp) heq).pf95 k
        have hqN : ((q.length : Int) ≤ (N : Int)) = True := by simp; omega
        have e7 : (q ++ [joinB k a b]).length = q.length + 1 := by simp
        have e8 : cB (q ++ [joinB k a b]) = cB q ++ (joinB k a b).pd.map .p := by rw [cB_app]; simp [cB]
        have hpu : allM purS ((CS.drop 0).take (q.length * 10)) = some (q.flatMap Bkt.pd) := by
          rw [List.drop_zero, ← hCS, cB_take, cB, allM_p]
        have hfl : (q.flatMap Bkt.pd).length = q.length * 10 := flat_len (k := 10) (fun _ => rfl) q
        have hle2 : q.length * 10 ≤ CS.length := by rw [← hCS, cB_len]; omega
        simp only [List.drop_zero] at hpu
        have hnb : ∀ j, (s.nx + j != id) = true := fun j => by rw [bne_iff_ne]; omega
        have hnb2 : ∀ j, (id != s.nx + j) = true := fun j => by rw [bne_iff_ne]; omega
        have hnb3 : ∀ j, (s.nx + (j + 1) != s.nx) = true := fun j => by rw [bne_iff_ne]; omega
        have hnb4 : ∀ j, (s.nx != s.nx + (j + 1)) = true := fun j => by rw [bne_iff_ne]; omega
        refine Wc.skip (Wc.seq ?_)
        refine Wc.regT fun K' hK' => ?_
        by_cases hq0 : 0 < q.length
        · simp only [go_sem, ti3, ti4, ti32, ti39, ti41, ti31, ti96, ti87, ti29, Int.natCast_zero, e1, hqN, hq0, Option.isSome_none, Nat.sub_zero]
          refine OA.appG (M1 := []) (M2 := (s.nx, .cells (b.pd.map .p) false) :: (id, .grow 10 N CS false) :: M) (by_ := 80) (n := 0) (m := q.length) (ys := q.flatMap Bkt.pd) (cs := []) (L := L) (b := s.nx + 20) ?_ rfl ⟨_, ti29, rfl⟩ ti41 rfl rfl rfl (by decide) (by decide) (by simp only [go_sem, ti3, ti4, ti32, ti39, ti41, ti31, ti96, ti87, ti29, Int.natCast_zero, g, nid, nid0, hpu, hle2]) hfl (by omega) fun s' hs hnx => ?_
          · exact by (try simp only [St.nx_put, St.nx_adv]); repeat (first | exact OA.mono ho (by omega) | refine OA.newB ?_ (by omega) rfl | refine OA.putB ?_ (by omega) | refine OA.advB ?_)
          simp only [Nat.zero_add, List.nil_append] at hs
          have g' : s'.get id = some (.grow 10 N CS false) := hs.at_ (id, .grow 10 N CS false) (by simp)
          have g2 : s'.get s.nx = some (.cells (b.pd.map .p) false) := hs.at_ (s.nx, .cells (b.pd.map .p) false) (by simp)
          simp only [List.map_cons, List.map_nil] at g2
          simp only [go_sem, ti3, ti4, ti32, ti39, ti41, ti31, ti96, ti87, ti29, Int.natCast_zero, e1, hix, g', g2, hle, hdr]
          refine wpCall.pf p95 (by kernel_rfl) (by kernel_rfl) rfl rfl ?_
          simp only [go_sem, ti3, ti4, ti32, ti39, ti41, ti31, ti96, ti87, ti29, Int.natCast_zero, x95, o95]
          refine OA.appG (M1 := []) (M2 := (s.nx, .cells (b.pd.map .p) false) :: (id, .grow 10 N CS false) :: M) (by_ := 80) (n := q.length) (m := 1) (ys := (joinB k a b).pd) (cs := (q.flatMap Bkt.pd).map .p) (L := L) (b := s.nx + 34) ?_ rfl ⟨_, ti29, rfl⟩ ti41 rfl rfl rfl (by decide) (by decide) (by simp only [go_sem, ti3, ti4, ti32, ti39, ti41, ti31, ti96, ti87, ti29, Int.natCast_zero]) rfl (by omega) fun s'' hs2 hnx2 => ?_
          · exact by (try simp only [St.nx_put, St.nx_adv]); repeat (first | exact OA.mono hs (by omega) | refine OA.newB ?_ (by omega) rfl | refine OA.putB ?_ (by omega) | refine OA.advB ?_)
          simp only [go_sem, ti3, ti4, ti32, ti39, ti41, ti31, ti96, ti87, ti29, Int.natCast_zero]
          refine ⟨by rw [trOK_eq]; simp [trOK2, dirEdge, freeOK, keysOK, apartK, Region.binds, plainD, plainV, plainC, hnb, hnb2, hnb3, hnb4], hK' _ _ ?_⟩
          refine Wc.ret (Op.ret [.tmp 6] [.c (.gs (q.length + 1) (s.nx + 18) 0 (q.length + 1) 10)] rfl rfl (by simp only [resultsD, go_sem, ti3, ti4, ti32, ti39, ti41, ti31, ti96, ti87, ti29, Int.natCast_zero]) (hK _ [(s.nx + 18, .grow 10 (q.length + 1) (cB q ++ (joinB k a b).pd.map .p) false)] _ ?_ ?_ (.inr ⟨s.nx + 18, by rw [e7], by rw [e7, e8]⟩)))
          · refine OA.sub (OA.mono hs2 (by simp only [St.nx_put, St.nx_adv] at hnx hnx2 ⊢; omega)) (List.Sublist.refl _) ?_
            exact List.Sublist.cons_cons _ (List.Sublist.cons _ (List.Sublist.cons _ (List.Sublist.refl _)))
          · simp only [St.nx_put, St.nx_adv] at hnx hnx2 ⊢; omega
        · have hq0' : q = [] := List.length_eq_zero_iff.1 (by omega)
          have hqe : q.length = 0 := by omega
          simp only [go_sem, ti3, ti4, ti32, ti39, ti41, ti31, ti96, ti87, ti29, Int.natCast_zero, e1, hqN, hq0, hqe, Option.isSome_none, Nat.sub_zero]
          refine OA.appG (M1 := []) (M2 := (s.nx, .cells (b.pd.map .p) false) :: (id, .grow 10 N CS false) :: M) (by_ := 80) (n := 0) (m := q.length) (ys := q.flatMap Bkt.pd) (cs := []) (L := L) (b := s.nx + 20) ?_ rfl ⟨_, ti29, rfl⟩ ti41 rfl rfl rfl (by decide) (by decide) (by simp only [go_sem, ti3, ti4, ti32, ti39, ti41, ti31, ti96, ti87, ti29, Int.natCast_zero, hq0', List.flatMap_nil]) hfl (by omega) fun s' hs hnx => ?_
          · exact by (try simp only [St.nx_put, St.nx_adv]); repeat (first | exact OA.mono ho (by omega) | refine OA.newB ?_ (by omega) rfl | refine OA.putB ?_ (by omega) | refine OA.advB ?_)
          simp only [Nat.zero_add, List.nil_append] at hs
          have g' : s'.get id = some (.grow 10 N CS false) := hs.at_ (id, .grow 10 N CS false) (by simp)
          have g2 : s'.get s.nx = some (.cells (b.pd.map .p) false) := hs.at_ (s.nx, .cells (b.pd.map .p) false) (by simp)
          simp only [List.map_cons, List.map_nil] at g2
          simp only [go_sem, ti3, ti4, ti32, ti39, ti41, ti31, ti96, ti87, ti29, Int.natCast_zero, e1, hix, g', g2, hle, hdr]
          refine wpCall.pf p95 (by kernel_rfl) (by kernel_rfl) rfl rfl ?_
          simp only [go_sem, ti3, ti4, ti32, ti39, ti41, ti31, ti96, ti87, ti29, Int.natCast_zero, x95, o95]
          refine OA.appG (M1 := []) (M2 := (s.nx, .cells (b.pd.map .p) false) :: (id, .grow 10 N CS false) :: M) (by_ := 80) (n := q.length) (m := 1) (ys := (joinB k a b).pd) (cs := (q.flatMap Bkt.pd).map .p) (L := L) (b := s.nx + 34) ?_ rfl ⟨_, ti29, rfl⟩ ti41 rfl rfl rfl (by decide) (by decide) (by simp only [go_sem, ti3, ti4, ti32, ti39, ti41, ti31, ti96, ti87, ti29, Int.natCast_zero]) rfl (by omega) fun s'' hs2 hnx2 => ?_
          · exact by (try simp only [St.nx_put, St.nx_adv]); repeat (first | exact OA.mono hs (by omega) | refine OA.newB ?_ (by omega) rfl | refine OA.putB ?_ (by omega) | refine OA.advB ?_)
          simp only [go_sem, ti3, ti4, ti32, ti39, ti41, ti31, ti96, ti87, ti29, Int.natCast_zero]
          refine ⟨by rw [trOK_eq]; simp [trOK2, dirEdge, freeOK, keysOK, apartK, Region.binds, plainD, plainV, plainC, hnb, hnb2, hnb3, hnb4], hK' _ _ ?_⟩
          refine Wc.ret (Op.ret [.tmp 6] [.c (.gs (q.length + 1) (s.nx + 18) 0 (q.length + 1) 10)] rfl rfl (by simp only [resultsD, go_sem, ti3, ti4, ti32, ti39, ti41, ti31, ti96, ti87, ti29, Int.natCast_zero]) (hK _ [(s.nx + 18, .grow 10 (q.length + 1) (cB q ++ (joinB k a b).pd.map .p) false)] _ ?_ ?_ (.inr ⟨s.nx + 18, by rw [e7], by rw [e7, e8]⟩)))
          · refine OA.sub (OA.mono hs2 (by simp only [St.nx_put, St.nx_adv] at hnx hnx2 ⊢; omega)) (List.Sublist.refl _) ?_
            exact List.Sublist.cons_cons _ (List.Sublist.cons _ (List.Sublist.cons _ (List.Sublist.refl _)))
          · simp only [St.nx_put, St.nx_adv] at hnx hnx2 ⊢; omega
end Go.Proofs.YtedcnhbblgmdnaaGreat.Ab
namespace Go.Proofs.YtedcnhbblgmdnaaGreat.Ab
set_option maxHeartbeats 8000000
set_option maxRecDepth 10000
set_option linter.unusedSimpArgs false
set_option linter.unusedVariables false
def zR : Rlp := ⟨[], 0, 0, []⟩
abbrev resR (x : Rlp) (e : Int) : D := .tup [.agg (x.pd.map .p), .c (.p (pI e))]
def limB (x : Rlp) : Bool := bigB x.bs || decide (2000 < x.bs.length)
theorem bigB_step {l : List Bkt} {i : Nat} {b : Bkt} (h : l[i]? = some b) : bigB (l.drop i) = (decide (2000 < b.c) || bigB (l.drop (i + 1))) := by
  have hi := (List.getElem?_eq_some_iff.1 h).1
  have hx := (List.getElem?_eq_some_iff.1 h).2
  rw [List.drop_eq_getElem_cons hi, hx]
  rfl
/-- 49: limited -/
theorem pf49 (x : Rlp) (hn : x.bs.length < 2^40) : Pf E0 49 [.agg (x.pd.map .p)] (resR (if limB x then zR else x) (if limB x then 4 else 0)) := by
  have hfl : (x.bs.flatMap Bkt.pd).length = x.bs.length * 10 := flat_len (k := 10) (fun _ => rfl) _
  refine Pf.body (fn := Tryz.f49) (by kernel_rfl) rfl ?_; simp only [List.map_cons, List.map_nil, List.cons_append, List.nil_append, List.length_cons, List.length_nil, Tryz.ntmps49, List.replicate, Nat.reduceSub, Nat.reduceAdd]
  refine Wc.seq ?_
  refine Wc.reg fun K hK => ?_; simp only [go_sem, ti3, ti4, ti32, ti39, ti41, ti31, ti96, ti87, ti29, ti22, ti26, ti23, Int.natCast_zero]; refine hK _ _ ?_; clear hK K
  refine Wc.seqR (fun y => bigB x.bs = false ∧ y.ds = [] ∧ Fs y.e 26 [(1, .v (.c (.ref 0 0))), (2, .v (.c (.ref 1 0)))] ∧ OA y.s.nx y.s [] [(1, .cells [.nils, .p (pI 0), .p (pI 0), .nils] false), (0, .cells (x.pd.map .p) false)]) ?_ ?_
  · refine Wc.seq ?_
    refine Wc.reg fun K hK => ?_; simp only [go_sem, ti3, ti4, ti32, ti39, ti41, ti31, ti96, ti87, ti29, ti22, ti26, ti23, Int.natCast_zero]; refine hK _ _ ?_; clear hK K
    refine Wc.block (Wc.loop (fun c y => ∃ i : Nat, c = x.bs.length - i ∧ i ≤ x.bs.length ∧ y.ds = [] ∧ Fs y.e 26 [(1, .v (.c (.ref 0 0))), (2, .v (.c (.ref 1 0))), (4, P' (pI i))] ∧ OA y.s.nx y.s [] [(1, .cells [.nils, .p (pI 0), .p (pI 0), .nils] false), (0, .cells (x.pd.map .p) false)] ∧ bigB (x.bs.drop i) = bigB x.bs) ?_ (k := x.bs.length) ?_)
    · rintro c ⟨e, ds, s1⟩ ⟨i, rfl, hi, rfl, hF, ho, hR⟩
      simp only [Fs] at hF ho
      have g0 := ho.at_ (0, .cells (x.pd.map .p) false) (by simp)
      have g1 := ho.at_ (1, .cells [.nils, .p (pI 0), .p (pI 0), .nils] false) (by simp)
      simp only [List.map_cons, List.map_nil] at g0 g1
      refine Wc.seq (Wc.seq ?_)
      refine Wc.reg fun K hK => ?_; simp only [go_sem, ti3, ti4, ti32, ti39, ti41, ti31, ti96, ti87, ti29, ti22, ti26, ti23, Int.natCast_zero, hF, g0]; refine hK _ _ ?_; clear hK K
      refine Wc.cond (t := decide ((i : Int) < x.bs.length)) (by simp only [go_sem, ti3, ti4, ti32, ti39, ti41, ti31, ti96, ti87, ti29, ti22, ti26, ti23, Int.natCast_zero, hF]) (fun hc => ?_) (fun hc => ?_)
      · have hil : i < x.bs.length := by have := of_decide_eq_true hc; omega
        obtain ⟨b, hb⟩ : ∃ b, x.bs[i]? = some b := ⟨x.bs[i], List.getElem?_eq_getElem hil⟩
        have hix := ixA ti29 rfl ti41 (j := i) (m := x.bs.length) (cs := x.bs.flatMap Bkt.pd) hil hfl (by decide)
        have hca := rpA (off := i * 10 + 1) (pre := b.pd.drop 1) (rest := (x.bs.drop (i + 1)).flatMap Bkt.pd) (cs := x.bs.flatMap Bkt.pd) (by rw [← List.drop_drop, drop_flat (f := Bkt.pd) (k := 10) (fun _ => rfl) hb]; rfl) (by rw [hfl]; omega)
        simp only [List.drop_succ_cons, List.drop_zero] at hca
        rw [bigB_step hb] at hR
        refine Wc.skip (Wc.seq (Wc.block (Wc.seq ?_)))
        refine Wc.reg fun K hK => ?_; simp only [go_sem, ti3, ti4, ti32, ti39, ti41, ti31, ti96, ti87, ti29, ti22, ti26, ti23, Int.natCast_zero, hF, g0, hix, hca]; refine hK _ _ ?_; clear hK K
        refine Wc.cond (t := decide (2000 < b.c)) (by simp only [go_sem, ti3, ti4, ti32, ti39, ti41, ti31, ti96, ti87, ti29, ti22, ti26, ti23, Int.natCast_zero, hF]) (fun hc => ?_) (fun hc => ?_)
        · refine Wc.seq ?_
          refine Wc.reg fun K hK => ?_; simp only [go_sem, ti3, ti4, ti32, ti39, ti41, ti31, ti96, ti87, ti29, ti22, ti26, ti23, Int.natCast_zero, hF, g1]; refine hK _ _ ?_; clear hK K
          have e : limB x = true := by rw [limB, ← hR, hc]; rfl
          rw [e]
          exact Wc.ret (Pf.ret [.cell 2 31, .tmp 3] [.agg [.nils, .p (pI 0), .p (pI 0), .nils], .c (.p (pI 4))] rfl rfl (by simp only [resultsD, go_sem, ti3, ti4, ti32, ti39, ti41, ti31, ti96, ti87, ti29, ti22, ti26, ti23, Int.natCast_zero, hF]) rfl)
        · rw [hc, Bool.false_or] at hR
          refine Wc.skip ?_
          refine Wc.reg fun K hK => ?_; simp only [go_sem, ti3, ti4, ti32, ti39, ti41, ti31, ti96, ti87, ti29, ti22, ti26, ti23, Int.natCast_zero, hF, i64n i (by omega)]; refine hK _ _ ?_; clear hK K
          exact ⟨x.bs.length - (i + 1), by omega, i + 1, rfl, by omega, rfl, by simp only [Fs, Int.natCast_zero, go_sem, ti3, ti4, ti32, ti39, ti41, ti31, ti96, ti87, ti29, ti22, ti26, ti23, Int.natCast_zero, hF], by (try simp only [St.nx_put, St.nx_adv]); repeat (first | exact OA.mono ho (by omega) | refine OA.newB ?_ (by omega) rfl | refine OA.advB ?_), hR⟩
      · have hil : i = x.bs.length := by have := of_decide_eq_false hc; omega
        rw [hil, List.drop_length] at hR
        exact Wc.exit ⟨hR.symm, rfl, by simp only [Fs, Int.natCast_zero, go_sem, ti3, ti4, ti32, ti39, ti41, ti31, ti96, ti87, ti29, ti22, ti26, ti23, Int.natCast_zero, hF], by (try simp only [St.nx_put, St.nx_adv]); repeat (first | exact OA.mono ho (by omega) | refine OA.newB ?_ (by omega) rfl | refine OA.advB ?_)⟩
    · exact ⟨0, rfl, by omega, rfl, by simp only [Fs, Int.natCast_zero, go_sem, ti3, ti4, ti32, ti39, ti41, ti31, ti96, ti87, ti29, ti22, ti26, ti23, Int.natCast_zero], by (try simp only [St.nx_put, St.nx_adv]); repeat (first | exact OA.mono s00_oa (by omega) | refine OA.newB ?_ (by omega) rfl | refine OA.advB ?_), rfl⟩
  rintro ⟨e, ds, s1⟩ ⟨hB, rfl, hF, ho⟩
  simp only [Fs] at hF ho
  have g0 := ho.at_ (0, .cells (x.pd.map .p) false) (by simp)
  have g1 := ho.at_ (1, .cells [.nils, .p (pI 0), .p (pI 0), .nils] false) (by simp)
  simp only [List.map_cons, List.map_nil] at g0 g1
  refine Wc.seq ?_
  refine Wc.seq ?_
  refine Wc.reg fun K hK => ?_; simp only [go_sem, ti3, ti4, ti32, ti39, ti41, ti31, ti96, ti87, ti29, ti22, ti26, ti23, Int.natCast_zero, hF, g0]; refine hK _ _ ?_; clear hK K
  refine Wc.cond (t := decide ((2000 : Int) < x.bs.length)) (by simp only [go_sem, ti3, ti4, ti32, ti39, ti41, ti31, ti96, ti87, ti29, ti22, ti26, ti23, Int.natCast_zero, hF]) (fun hc => ?_) (fun hc => ?_)
  · refine Wc.seq ?_
    refine Wc.reg fun K hK => ?_; simp only [go_sem, ti3, ti4, ti32, ti39, ti41, ti31, ti96, ti87, ti29, ti22, ti26, ti23, Int.natCast_zero, hF, g1]; refine hK _ _ ?_; clear hK K
    have e : limB x = true := by rw [limB, hB, Bool.false_or]; have := of_decide_eq_true hc; simp; omega
    rw [e]
    exact Wc.ret (Pf.ret [.cell 2 31, .tmp 3] [.agg [.nils, .p (pI 0), .p (pI 0), .nils], .c (.p (pI 4))] rfl rfl (by simp only [resultsD, go_sem, ti3, ti4, ti32, ti39, ti41, ti31, ti96, ti87, ti29, ti22, ti26, ti23, Int.natCast_zero, hF]) rfl)
  · refine Wc.skip ?_
    refine Wc.seq ?_
    refine Wc.reg fun K hK => ?_; simp only [go_sem, ti3, ti4, ti32, ti39, ti41, ti31, ti96, ti87, ti29, ti22, ti26, ti23, Int.natCast_zero, hF, g0, g1]; refine hK _ _ ?_; clear hK K
    have e : limB x = false := by rw [limB, hB, Bool.false_or]; have := of_decide_eq_false hc; simp; omega
    rw [e]
    exact Wc.ret (Pf.ret [.cell 2 31, .tmp 3] [.agg (x.pd.map .p), .c (.p (pI 0))] rfl rfl (by simp only [resultsD, go_sem, ti3, ti4, ti32, ti39, ti41, ti31, ti96, ti87, ti29, ti22, ti26, ti23, Int.natCast_zero, hF]) rfl)
end Go.Proofs.YtedcnhbblgmdnaaGreat.Ab
namespace Go.Proofs.YtedcnhbblgmdnaaGreat.Ab
set_option maxHeartbeats 8000000
set_option maxRecDepth 10000
set_option linter.unusedSimpArgs false
set_option linter.unusedVariables false
/-- A valid gauge or counter. -/
structure Sv (x : Ser) : Prop where
  lb : lckA x.lb = 0
  k : x.k = 1 ∨ x.k = 2
  ne : x.sm ≠ []
  len : x.sm.length ≤ 2000
  srt : x.sm.Pairwise (fun a b => a.1 < b.1)
  ok : ∀ y ∈ x.sm, okS x.k y
  hs : x.hs = []
/-- A bucket within bounds. -/
structure WB (b : Bkt) : Prop where
  c1 : 0 ≤ b.c
  c2 : b.c ≤ 1000000
  f1 : -1099511627776 ≤ b.f
  f2 : b.f ≤ 1099511627776
  l1 : -1099511627776 ≤ b.l
  l2 : b.l ≤ 1099511627776
  i1 : -1152921504606846976 ≤ b.inc
  i2 : b.inc ≤ 1152921504606846976
  s1 : -1152921504606846976 ≤ b.s
  s2 : b.s ≤ 1152921504606846976
theorem JB.of {a b : Bkt} (ha : WB a) (hb : WB b) : JB a b := by
  obtain ⟨a1, a2, a3, a4, a5, a6, a7, a8, a9, a10⟩ := ha
  obtain ⟨b1, b2, b3, b4, b5, b6, b7, b8, b9, b10⟩ := hb
  constructor <;> omega
theorem WB.single {k w : Int} {x : I2} (h : okS k x) : WB (single w x) := by
  obtain ⟨h1, h2, h3⟩ := h
  constructor <;> simp only [Ab.single] <;> omega
def ofC (x : Ser) (w : Int) : Int := if serOK x = false then 1 else if x.k = 3 then 8 else if btw w 1 1099511627776 = false then 2 else 0
/-- The rollup of a series. -/
def ofR (x : Ser) (w : Int) : Rlp := if ofC x w = 0 then ⟨x.lb, x.k, w, ofB x.k w x.sm⟩ else zR
theorem take_succ {A : Type} {l : List A} {i : Nat} {x : A} (h : l[i]? = some x) : l.take (i + 1) = l.take i ++ [x] := by rw [List.take_add_one, h]; rfl
theorem appB_len (k : Int) (l : List Bkt) (b : Bkt) : (appB k l b).length ≤ l.length + 1 := by
  unfold appB
  split
  · simp
  · split <;> simp <;> omega
theorem apps_len (k : Int) : ∀ (m l : List Bkt), (m.foldl (appB k) l).length ≤ l.length + m.length
  | [], l => by simp
  | b :: m, l => by
    have h1 := apps_len k m (appB k l b)
    have h2 := appB_len k l b
    simp only [List.foldl_cons, List.length_cons]
    omega
theorem cB_all (l : List Bkt) : allM purS (cB l) = some (l.flatMap Bkt.pd) := allM_p _
theorem GB.pur {b : Nat} {s : St} {L : List (Nat × D × Nat × List Pd)} {M G : List (Nat × Ob)} {x : C} {l : List Bkt} (ho : OA b s L (G ++ M)) (h : GB x l G) : ∃ s', purC s x = some (.lst l.length (l.flatMap Bkt.pd), s') := by
  rcases h with ⟨rfl, rfl, rfl⟩ | ⟨id, rfl, rfl⟩
  · exact ⟨s, rfl⟩
  · have g : s.get id = some (.grow 10 l.length (cB l) false) := ho.at_ (id, .grow 10 l.length (cB l) false) (by simp)
    have hf : (l.flatMap Bkt.pd).length = l.length * 10 := flat_len (k := 10) (fun _ => rfl) l
    refine ⟨s.put id (.grow 10 l.length ((l.flatMap Bkt.pd).map .p) true), ?_⟩
    simp only [purC, g, cB_all, true_and, Nat.zero_add, hf, Nat.le_refl, if_true, List.drop_zero]
    rw [List.take_of_length_le (by omega)]
theorem OA.keepG {b k : Nat} {s : St} {o o' : Ob} {L : List (Nat × D × Nat × List Pd)} {M G : List (Nat × Ob)} (h : OA b s L (G ++ M)) (hm : (k, o) ∈ M) (hf : o'.isFront = false) : OA b (s.put k o') L (G ++ []) := by
  obtain ⟨M1, M2, rfl⟩ := List.append_of_mem hm
  rw [← List.append_assoc] at h
  refine (h.set hf).sub (List.Sublist.refl _) ?_
  rw [List.append_nil, List.append_assoc]
  exact List.sublist_append_left _ _
theorem Pf.retG {fn : Func} {x : Fr} {xc : C} {l : List Bkt} {G M : List (Nat × Ob)} {L : List (Nat × D × Nat × List Pd)} {b : Nat} {lb : List Lb} {k w e : Int} (rs : List ResultVar) (hd : x.ds = []) (hrs : fn.results.toList = rs)
    (hr : resultsD E0 x.e x.s rs = some [.agg [.p (.lst lb.length (lb.flatMap lbP)), .p (pI k), .p (pI w), xc], .c (.p (pI e))]) (ho : OA b x.s L (G ++ M)) (h : GB xc l G) :
    bodyQ E0 fn (fun d0 s2 => ∃ s3, purD s2 d0 = some (resR ⟨lb, k, w, l⟩ e, s3)) .ret x := by
  obtain ⟨s3, h3⟩ := h.pur ho
  refine Pf.ret rs _ hd hrs hr (s3 := s3) ?_
  have hp : ∀ (s : St) (x : Pd), purC s (.p x) = some (x, s) := fun _ _ => rfl
  simp only [packD, purD, purVs, purV, purCs, hp, h3, List.map_cons, List.map_nil]
  rfl
end Go.Proofs.YtedcnhbblgmdnaaGreat.Ab
namespace Go.Proofs.YtedcnhbblgmdnaaGreat.Ab
set_option maxHeartbeats 8000000
set_option maxRecDepth 10000
set_option linter.unusedSimpArgs false
set_option linter.unusedVariables false
/-! ### the buckets of a series, in the program's way -/
theorem take_flat {A : Type} {f : A → List Pd} {k : Nat} (hk : ∀ x, (f x).length = k) : ∀ (l : List A) (n : Nat), (l.flatMap f).take (n * k) = (l.take n).flatMap f
  | [], n => by simp
  | x :: r, 0 => by simp
  | x :: r, n + 1 => by
    rw [List.flatMap_cons, List.take_succ_cons, List.flatMap_cons, List.take_append, List.take_of_length_le (by rw [hk, Nat.succ_mul]; omega), hk, show (n + 1) * k - k = n * k by rw [Nat.succ_mul]; omega, take_flat hk r n]
theorem drop_flats {A : Type} {f : A → List Pd} {k : Nat} (hk : ∀ x, (f x).length = k) : ∀ (l : List A) (n : Nat), (l.flatMap f).drop (n * k) = (l.drop n).flatMap f
  | [], n => by simp
  | x :: r, 0 => by simp
  | x :: r, n + 1 => by
    rw [List.flatMap_cons, List.drop_succ_cons, List.drop_append, List.drop_of_length_le (by rw [hk, Nat.succ_mul]; omega), List.nil_append, hk, show (n + 1) * k - k = n * k by rw [Nat.succ_mul]; omega, drop_flats hk r n]
end Go.Proofs.YtedcnhbblgmdnaaGreat.Ab
namespace Go.Proofs.YtedcnhbblgmdnaaGreat.Ab
set_option maxHeartbeats 8000000
set_option maxRecDepth 10000
set_option linter.unusedSimpArgs false
set_option linter.unusedVariables false
end Go.Proofs.YtedcnhbblgmdnaaGreat.Ab
namespace Go.Proofs.YtedcnhbblgmdnaaGreat.Ab
set_option maxHeartbeats 8000000
set_option maxRecDepth 10000
set_option linter.unusedSimpArgs false
set_option linter.unusedVariables false
theorem OA.rot {b : Nat} {s : St} {L : List (Nat × D × Nat × List Pd)} {A B M : List (Nat × Ob)} (h : OA b s L (A ++ B ++ M)) : OA b s L (B ++ A ++ M) := h.permM (List.perm_append_comm.append_right M)
end Go.Proofs.YtedcnhbblgmdnaaGreat.Ab
namespace Go.Proofs.YtedcnhbblgmdnaaGreat.Ab
set_option maxHeartbeats 8000000
set_option maxRecDepth 10000
set_option linter.unusedSimpArgs false
set_option linter.unusedVariables false
end Go.Proofs.YtedcnhbblgmdnaaGreat.Ab
namespace Go.Proofs.YtedcnhbblgmdnaaGreat.Ab
set_option maxHeartbeats 8000000
set_option maxRecDepth 10000
set_option linter.unusedSimpArgs false
set_option linter.unusedVariables false
/-- The same as trOK, paths looked up first. -/
def trOK3 (ops : Array Oper) : List Tr → Bool
  | [] => true
  | x :: r => (r.all fun y => dirEdge ops y.i x.i || (reach ops 9 y.i x.i || freeOK x y)) && trOK3 ops r
theorem trOK_eq3 (ops : Array Oper) : ∀ l, trOK ops l = trOK3 ops l
  | [] => rfl
  | x :: r => by
    rw [trOK, trOK3, trOK_eq3 ops r]
    congr 2
    funext y
    unfold pairOK hasEdge
    cases dirEdge ops y.i x.i <;> cases freeOK x y <;> cases reach ops 9 y.i x.i <;> rfl
theorem GB.app {b key : Nat} {s : St} {L : List (Nat × D × Nat × List Pd)} {M G : List (Nat × Ob)} {x : C} {l m : List Bkt} {y : D} {K : D → St → Prop} (ho : OA b s L (G ++ M)) (hx : GB x l G) (hkey : b ≤ key) (hn : l.length + m.length < 2^30) (hy : srcD E0 29 s y = some (m.length, m.flatMap Bkt.pd)) (hm : m ≠ [])
    (hk : ∀ x' G' s', OA (key + 1) s' L (G' ++ M) → s'.nx = s.nx → GB x' (l ++ m) G' → K (.v (.c x')) s') : stepK (appendD E0 key [29, 29] (.v (.c x)) y s) K := by
  have hfl : (m.flatMap Bkt.pd).length = m.length * 10 := flat_len (k := 10) (fun _ => rfl) m
  have hm0 : 0 < m.length := List.length_pos_iff.2 hm
  rcases hx with ⟨rfl, rfl, rfl⟩ | ⟨id, rfl, rfl⟩
  · refine OA.appN (by_ := 80) (m := m.length) (ys := m.flatMap Bkt.pd) (L := L) (M := M) ho hkey rfl ⟨_, ti29, rfl⟩ ti41 rfl rfl rfl (by decide) (by decide) hy hfl hm0 (by simp only [List.length_nil] at hn; omega) fun s' hs hnx => ?_
    exact hk _ [(key, .grow 10 m.length (cB m) false)] s' hs hnx (.inr ⟨key, by simp, by simp⟩)
  · refine OA.appG (M1 := []) (M2 := M) (by_ := 80) (n := l.length) (m := m.length) (ys := m.flatMap Bkt.pd) (cs := cB l) (L := L) ho rfl ⟨_, ti29, rfl⟩ ti41 rfl rfl rfl (by decide) (by decide) hy hfl (by omega) fun s' hs hnx => ?_
    refine hk _ [(id, .grow 10 (l.length + m.length) (cB l ++ (m.flatMap Bkt.pd).map .p) false)] s' (hs.mono (by omega)) hnx (.inr ⟨id, by rw [List.length_append], by rw [List.length_append, cB_app]; rfl⟩)
theorem OA.setAt {b k : Nat} {s : St} {o o' : Ob} {L : List (Nat × D × Nat × List Pd)} {A B R : List (Nat × Ob)} (h : OA b s L (A ++ (B ++ (k, o) :: R))) (hf : o'.isFront = false) : OA b (s.put k o') L (A ++ (B ++ (k, o') :: R)) := by
  rw [← List.append_assoc] at h ⊢
  exact h.set hf
end Go.Proofs.YtedcnhbblgmdnaaGreat.Ab
namespace Go.Proofs.YtedcnhbblgmdnaaGreat.Ab
set_option maxHeartbeats 8000000
set_option maxRecDepth 10000
set_option linter.unusedSimpArgs false
set_option linter.unusedVariables false
end Go.Proofs.YtedcnhbblgmdnaaGreat.Ab
namespace Go.Proofs.YtedcnhbblgmdnaaGreat.Ab
set_option maxHeartbeats 8000000
set_option maxRecDepth 10000
set_option linter.unusedSimpArgs false
set_option linter.unusedVariables false
theorem b10 : ((1 : Int) != 0) = true := rfl
end Go.Proofs.YtedcnhbblgmdnaaGreat.Ab
namespace Go.Proofs.YtedcnhbblgmdnaaGreat.Ab
set_option maxHeartbeats 8000000
set_option maxRecDepth 10000
set_option linter.unusedSimpArgs false
set_option linter.unusedVariables false
/-! ### valid rollups -/
structure VB (w : Int) (b : Bkt) : Prop where
  c1 : 1 ≤ b.c
  c2 : b.c ≤ 2000
  f1 : -1099511627776 ≤ b.f
  f2 : b.f ≤ 1099511627776
  l1 : -1099511627776 ≤ b.l
  l2 : b.l ≤ 1099511627776
  i1 : 0 ≤ b.inc
  i2 : b.inc ≤ 2197923743924224
  s1 : -2199023255552000 ≤ b.s
  s2 : b.s ≤ 2199023255552000
  t0 : 0 ≤ b.st
  t1 : b.st < 1099511627776
  t2 : b.st < b.ft
  t3 : b.ft ≤ b.lt
  t4 : b.lt ≤ b.st + w
  t5 : b.lt ≤ 1099511627776
  tm : b.st.tmod w = 0
theorem VB.of {k w : Int} {b : Bkt} (hk : k = 1 ∨ k = 2) (h : bkA k w b = true) (t0 : 0 ≤ b.st) (t1 : b.st < 1099511627776) (tm : b.st.tmod w = 0) : VB w b := by
  have hv : ∀ v, okV k v = true → -1099511627776 ≤ v ∧ v ≤ 1099511627776 := fun v hv => by
    simp only [okV, isVl, Bool.and_eq_true, decide_eq_true_eq] at hv
    exact hv.1
  simp only [bkA, Bool.and_eq_true, Bool.not_eq_true'] at h
  obtain ⟨h1, h2, h3, h4, h5, h6, h7⟩ := h
  simp only [bkA1, Bool.or_eq_false_iff, decide_eq_false_iff_not] at h1
  simp only [bkA2, Bool.or_eq_false_iff, decide_eq_false_iff_not] at h2
  simp only [bkA3, Bool.and_eq_true] at h3
  simp only [bkA5, Bool.or_eq_false_iff, decide_eq_false_iff_not] at h5
  simp only [bkA6, Bool.or_eq_false_iff, decide_eq_false_iff_not] at h6
  obtain ⟨m1, m2⟩ := hv _ h3.1
  obtain ⟨x1, x2⟩ := hv _ h3.2.1
  obtain ⟨f1, f2⟩ := hv _ h3.2.2.1
  obtain ⟨l1, l2⟩ := hv _ h3.2.2.2
  have c1 : 1 ≤ b.c := by omega
  have c2 : b.c ≤ 2000 := by omega
  have a1 := mulB c1 c2 m1 m2
  have a2 := mulB c1 c2 x1 x2
  exact ⟨c1, c2, f1, f2, l1, l2, by omega, by omega, by omega, by omega, t0, t1, by omega, by omega, by omega, by omega, tm⟩
theorem bksOK_v {k w : Int} (hk : k = 1 ∨ k = 2) : ∀ {l : List Bkt} {p : Int}, -1 ≤ p → bksOK k w p l = true → AscB l ∧ ∀ b ∈ l, p < b.st ∧ VB w b
  | [], p, _, _ => ⟨List.Pairwise.nil, fun b hb => by cases hb⟩
  | b :: r, p, hp, h => by
    simp only [bksOK, Bool.and_eq_true, Bool.not_eq_true', Bool.or_eq_false_iff, decide_eq_false_iff_not] at h
    obtain ⟨⟨⟨h1, h2⟩, h3⟩, h4, h5⟩ := h
    have hm : b.st.tmod w = 0 := by simpa using h3
    obtain ⟨i1, i2⟩ := bksOK_v hk (show -1 ≤ b.st by omega) h5
    refine ⟨List.pairwise_cons.2 ⟨fun y hy => (i2 y hy).1, i1⟩, fun y hy => ?_⟩
    rcases List.mem_cons.1 hy with rfl | hy
    · exact ⟨by omega, VB.of hk h4 (by omega) (by omega) hm⟩
    · exact ⟨by have := (i2 y hy).1; omega, (i2 y hy).2⟩
structure Rv (x : Rlp) : Prop where
  lb : lckA x.lb = 0
  k : x.k = 1 ∨ x.k = 2
  w1 : 1 ≤ x.w
  w2 : x.w ≤ 1099511627776
  ne : x.bs ≠ []
  len : x.bs.length ≤ 2000
  asc : AscB x.bs
  vb : ∀ b ∈ x.bs, VB x.w b
theorem rlpOK_v {x : Rlp} (h : rlpOK x = true) : Rv x := by
  simp only [rlpOK, Bool.and_eq_true, Bool.not_eq_true', Bool.or_eq_false_iff, decide_eq_false_iff_not] at h
  obtain ⟨⟨h1, h2⟩, ⟨⟨⟨h3, h4⟩, h5⟩, h6⟩, h7⟩ := h
  have hk : x.k = 1 ∨ x.k = 2 := by
    by_cases h8 : x.k = 1
    · exact .inl h8
    · by_cases h9 : x.k = 2
      · exact .inr h9
      · have b1 : (x.k != 1) = true := by simpa using h8
        have b2 : (x.k != 2) = true := by simpa using h9
        rw [b1, b2] at h2; cases h2
  obtain ⟨a1, a2⟩ := bksOK_v hk (by omega) h7
  exact ⟨by simpa using h1, hk, by omega, by omega, fun e => by rw [e] at h5; simp at h5, by omega, a1, fun b hb => (a2 b hb).2⟩
/-- What n valid buckets come to, joined. -/
structure Wn (n : Int) (b : Bkt) : Prop where
  c1 : 0 ≤ b.c
  c2 : b.c ≤ n * 2000
  f1 : -1099511627776 ≤ b.f
  f2 : b.f ≤ 1099511627776
  l1 : -1099511627776 ≤ b.l
  l2 : b.l ≤ 1099511627776
  i1 : -(n * 2200122767179776) ≤ b.inc
  i2 : b.inc ≤ n * 2200122767179776
  s1 : -(n * 2199023255552000) ≤ b.s
  s2 : b.s ≤ n * 2199023255552000
theorem VB.wn {w n : Int} {b : Bkt} (h : VB w b) (hn : 1 ≤ n) : Wn n b := by
  obtain ⟨c1, c2, f1, f2, l1, l2, i1, i2, s1, s2, _⟩ := h
  constructor <;> omega
theorem Wn.more {n m : Int} {b : Bkt} (h : Wn n b) (hm : n ≤ m) : Wn m b := by
  obtain ⟨c1, c2, f1, f2, l1, l2, i1, i2, s1, s2⟩ := h
  constructor <;> omega
theorem Wn.join {w n k : Int} {a b : Bkt} (ha : Wn n a) (hb : VB w b) (h0 : 0 ≤ n) : Wn (n + 1) (joinB k a b) := by
  obtain ⟨c1, c2, f1, f2, l1, l2, i1, i2, s1, s2⟩ := ha
  obtain ⟨d1, d2, g1, g2, m1, m2, j1, j2, t1, t2, _⟩ := hb
  have hst : -2199023255552 ≤ stepV a.l b.f ∧ stepV a.l b.f ≤ 2199023255552 := by unfold stepV; split <;> omega
  constructor <;> simp only [joinB] <;> first | omega | (split <;> omega)
theorem Wn.jb {w n : Int} {a b : Bkt} (ha : Wn n a) (hb : VB w b) (h0 : 0 ≤ n) (hn : n ≤ 2000) : JB a b := by
  obtain ⟨c1, c2, f1, f2, l1, l2, i1, i2, s1, s2⟩ := ha
  obtain ⟨d1, d2, g1, g2, m1, m2, j1, j2, t1, t2, _⟩ := hb
  constructor <;> omega
theorem VB.re {w w' : Int} {b : Bkt} (h : VB w b) (hw : 1 ≤ w') : VB w' (reB (fun s => s.tdiv w' * w') b) ∨ True := .inr trivial
/-- The bounds of a bucket that do not look at its start. -/
theorem Wn.re {n : Int} {g : Int → Int} {b : Bkt} (h : Wn n b) : Wn n (reB g b) := ⟨h.c1, h.c2, h.f1, h.f2, h.l1, h.l2, h.i1, h.i2, h.s1, h.s2⟩
theorem JB.re {g : Int → Int} {a b : Bkt} (h : JB a b) : JB a (reB g b) := ⟨h.l1, h.l2, h.f1, h.f2, h.i1, h.i2, h.c1, h.c2, h.s1, h.s2⟩
theorem joinB_reR (k : Int) (g : Int → Int) (a b : Bkt) : joinB k a (reB g b) = joinB k a b := rfl
/-- Grouped buckets stay within bounds. -/
theorem grpB_wn {k w : Int} (g : Int → Int) : ∀ (n : Nat) (l : List Bkt), l.length = n → (∀ b ∈ l, VB w b) → ∀ a ∈ grpB k (l.map (reB g)), Wn n a
  | 0, l, hn, _, a, ha => by
    have : l = [] := List.length_eq_zero_iff.1 hn
    subst this; cases ha
  | n + 1, l, hn, hb, a, ha => by
    have hne : l ≠ [] := fun e => by rw [e] at hn; simp at hn
    obtain ⟨q, z, rfl⟩ : ∃ q y, l = q ++ [y] := ⟨l.dropLast, l.getLast hne, (List.dropLast_concat_getLast hne).symm⟩
    have ih := grpB_wn (k := k) g n q (by simpa using hn) (fun b h => hb b (by simp [h]))
    have hz := hb z (by simp)
    rw [List.map_append, List.map_cons, List.map_nil, grpB_snoc] at ha
    rcases List.eq_nil_or_concat (grpB k (q.map (reB g))) with h0 | ⟨D, c, h0⟩
    · rw [h0] at ha
      rw [List.mem_singleton.1 (show a ∈ [reB g z] from ha)]
      exact ((hz.wn (n := ((n + 1 : Nat) : Int)) (by omega))).re
    · rw [h0, List.concat_eq_append] at ha
      rw [h0, List.concat_eq_append] at ih
      by_cases hc : c.st = (reB g z).st
      · rw [appB_same hc] at ha
        rcases List.mem_append.1 ha with ha | ha
        · exact (ih a (by simp [ha])).more (by omega)
        · rw [List.mem_singleton.1 ha, joinB_reR]
          exact (ih c (by simp)).join hz (by omega) |>.more (by omega)
      · rw [appB_new (fun x hx => by simp at hx; subst hx; exact hc)] at ha
        rcases List.mem_append.1 ha with ha | ha
        · exact (ih a ha).more (by omega)
        · rw [List.mem_singleton.1 ha]
          exact (hz.wn (n := ((n + 1 : Nat) : Int)) (by omega)).re
theorem grpB_len (k : Int) (l : List Bkt) : (grpB k l).length ≤ l.length := by
  have := apps_len k l []
  simp only [List.length_nil] at this
  show (l.foldl (appB k) []).length ≤ _
  omega
/-- What a call with such a slice leaves. -/
theorem GB.pur2 {b : Nat} {s : St} {L : List (Nat × D × Nat × List Pd)} {M G : List (Nat × Ob)} {x : C} {l : List Bkt} (ho : OA b s L (G ++ M)) (h : GB x l G) : ∃ s' G', purC s x = some (.lst l.length (l.flatMap Bkt.pd), s') ∧ OA b s' L (G' ++ M) ∧ s'.nx = s.nx := by
  rcases h with ⟨rfl, rfl, rfl⟩ | ⟨id, rfl, rfl⟩
  · exact ⟨s, [], rfl, ho, rfl⟩
  · have g : s.get id = some (.grow 10 l.length (cB l) false) := ho.at_ (id, .grow 10 l.length (cB l) false) (by simp)
    have hf : (l.flatMap Bkt.pd).length = l.length * 10 := flat_len (k := 10) (fun _ => rfl) l
    refine ⟨s.put id (.grow 10 l.length ((l.flatMap Bkt.pd).map .p) true), [(id, .grow 10 l.length ((l.flatMap Bkt.pd).map .p) true)], ?_, OA.set (M1 := []) ho rfl, rfl⟩
    simp only [purC, g, cB_all, true_and, Nat.zero_add, hf, Nat.le_refl, if_true, List.drop_zero]
    rw [List.take_of_length_le (by omega)]
theorem GB.purA {b : Nat} {s : St} {L : List (Nat × D × Nat × List Pd)} {M G : List (Nat × Ob)} {x : C} {l : List Bkt} (ho : OA b s L (G ++ M)) (h : GB x l G) (lb : List Lb) (k w : Int) : ∃ s' G', purVs s [.agg [.p (.lst lb.length (lb.flatMap lbP)), .p (pI k), .p (pI w), x]] = some ([.agg ((Rlp.mk lb k w l).pd.map .p)], s') ∧ OA b s' L (G' ++ M) ∧ s'.nx = s.nx := by
  obtain ⟨s', G', h1, h2, h3⟩ := h.pur2 ho
  have hp : ∀ (s : St) (x : Pd), purC s (.p x) = some (x, s) := fun _ _ => rfl
  exact ⟨s', G', by simp only [purVs, purV, purCs, hp, h1, List.map_cons, List.map_nil], h2, h3⟩
end Go.Proofs.YtedcnhbblgmdnaaGreat.Ab
