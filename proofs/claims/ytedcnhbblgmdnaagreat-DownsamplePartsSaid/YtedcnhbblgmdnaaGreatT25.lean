/- A part of the proof: an evaluator of the code, its contracts, the law. No condition. -/
import Derived.Test.YtedcnhbblgmdnaaGreatT24
namespace Go.Proofs.YtedcnhbblgmdnaaGreat.Ab
set_option maxHeartbeats 8000000
set_option maxRecDepth 10000
set_option linter.unusedSimpArgs false
set_option linter.unusedVariables false
def chkR (x : Rlp) : Int := if rlpOK x then 0 else 1
theorem encR_form (x : Rlp) : ∃ (c : List C) (e : Int), encR x = .tup [.agg c, .c (.p (pI e))] ∧ c.length = 16 ∧ ((e == 1) = !rlpOK x) := by
  unfold encR
  cases hok : rlpOK x with
  | false => exact ⟨_, 1, by rw [if_pos rfl], rfl, rfl⟩
  | true =>
    rw [if_neg (by simp)]
    cases packE x.bs bktCols with
    | none => exact ⟨_, 4, rfl, rfl, rfl⟩
    | some ss =>
      simp only [finE]
      cases jn (appV (appV [] x.k).1 x.w).1 ss with
      | none => exact ⟨_, 4, rfl, rfl, rfl⟩
      | some d => exact ⟨_, 0, rfl, rfl, rfl⟩
/-- 19: Check -/
theorem pf19 (x : Rlp) (hlb : x.lb.length < 2^40) (hls : ∀ y ∈ x.lb, y.1.length < 2^50 ∧ y.2.length < 2^50) : Pf E0 19 [.agg (x.pd.map .p)] (P' (pI (chkR x))) := by
  have p := pf51 x hlb hls
  obtain ⟨c, e, he, hl, h1⟩ := encR_form x
  rw [he] at p
  obtain ⟨c0, c1, c2, c3, c4, c5, c6, c7, c8, c9, c10, c11, c12, c13, c14, c15, rfl⟩ : ∃ c0 c1 c2 c3 c4 c5 c6 c7 c8 c9 c10 c11 c12 c13 c14 c15, c = [c0, c1, c2, c3, c4, c5, c6, c7, c8, c9, c10, c11, c12, c13, c14, c15] := by
    match c, hl with
    | [c0, c1, c2, c3, c4, c5, c6, c7, c8, c9, c10, c11, c12, c13, c14, c15], _ => exact ⟨_, _, _, _, _, _, _, _, _, _, _, _, _, _, _, _, rfl⟩
  unfold chkR
  refine Pf.body (fn := Tryz.f19) (by kernel_rfl) rfl ?_; simp only [List.map_cons, List.map_nil, List.cons_append, List.nil_append, List.length_cons, List.length_nil, Tryz.ntmps19, List.replicate, Nat.reduceSub, Nat.reduceAdd]
  refine Wc.seq ?_
  refine Wc.reg fun K hK => ?_; simp only [go_sem, ti3, ti4, ti32, ti39, ti41, ti31, ti96]; refine hK _ _ ?_; clear hK K
  refine Wc.seq (Wc.seq ?_)
  refine Wc.reg fun K hK => ?_; simp only [go_sem, ti3, ti4, ti32, ti39, ti41, ti31, ti96]
  refine wpCall.pf p (by kernel_rfl) (by kernel_rfl) rfl rfl ?_
  simp only [go_sem, ti3, ti4, ti32, ti39, ti41, ti31, ti96]; refine hK _ _ ?_; clear hK K
  refine Wc.seq ?_
  refine Wc.reg fun K hK => ?_; simp only [go_sem, ti3, ti4, ti32, ti39, ti41, ti31, ti96]; refine hK _ _ ?_; clear hK K
  refine Wc.cond (t := (e == 1)) (by simp only [go_sem, ti3, ti4, ti32, ti39, ti41, ti31, ti96]) (fun hc => ?_) (fun hc => ?_)
  · have hok : rlpOK x = false := by rw [hc] at h1; simpa using h1
    refine Wc.seq ?_
    refine Wc.reg fun K hK => ?_; simp only [go_sem, ti3, ti4, ti32, ti39, ti41, ti31, ti96]; refine hK _ _ ?_; clear hK K
    rw [hok]
    exact Wc.ret (Pf.ret [.tmp 2] [.c (.p (pI 1))] rfl rfl (by simp only [resultsD, go_sem, ti3, ti4, ti32, ti39, ti41, ti31, ti96]) rfl)
  · have hok : rlpOK x = true := by rw [hc] at h1; simpa using h1
    refine Wc.skip (Wc.seq ?_)
    refine Wc.reg fun K hK => ?_; simp only [go_sem, ti3, ti4, ti32, ti39, ti41, ti31, ti96]; refine hK _ _ ?_; clear hK K
    rw [hok]
    exact Wc.ret (Pf.ret [.tmp 2] [.c (.p (pI 0))] rfl rfl (by simp only [resultsD, go_sem, ti3, ti4, ti32, ti39, ti41, ti31, ti96]) rfl)
end Go.Proofs.YtedcnhbblgmdnaaGreat.Ab
namespace Go.Proofs.YtedcnhbblgmdnaaGreat.Ab
set_option maxHeartbeats 8000000
set_option maxRecDepth 10000
set_option linter.unusedSimpArgs false
set_option linter.unusedVariables false
theorem minB2 (a b : Int) : foldO minD (.v (.c (.p (.int .i64 a)))) [.v (.c (.p (.int .i64 b)))] = some (.v (.c (.p (.int .i64 (minI a b))))) := by
  simp only [foldO, minD, P', Option.some.injEq, D.v.injEq, V.c.injEq, C.p.injEq, Pd.int.injEq, true_and, decide_eq_true_eq, if_true, minI]
theorem maxB2 (a b : Int) : foldO maxD (.v (.c (.p (.int .i64 a)))) [.v (.c (.p (.int .i64 b)))] = some (.v (.c (.p (.int .i64 (maxI a b))))) := by
  simp only [foldO, maxD, P', Option.some.injEq, D.v.injEq, V.c.injEq, C.p.injEq, Pd.int.injEq, true_and, decide_eq_true_eq, if_true, maxI]
end Go.Proofs.YtedcnhbblgmdnaaGreat.Ab
namespace Go.Proofs.YtedcnhbblgmdnaaGreat.Ab
set_option maxHeartbeats 8000000
set_option maxRecDepth 10000
set_option linter.unusedSimpArgs false
set_option linter.unusedVariables false
/-- 48: bucket.join -/
theorem pf48 (a b : Bkt) (k : Int) (hv : (-1099511627776 ≤ a.l ∧ a.l ≤ 1099511627776) ∧ (-1099511627776 ≤ b.f ∧ b.f ≤ 1099511627776)) (hi : -4611686018427387904 ≤ a.inc + b.inc ∧ a.inc + b.inc ≤ 4611686018427387904)
    (hc : -4611686018427387904 ≤ a.c + b.c ∧ a.c + b.c ≤ 4611686018427387904) (hs : -9223372036854775808 ≤ a.s + b.s ∧ a.s + b.s ≤ 9223372036854775807) : Pf E0 48 [.agg (a.pd.map .p), .agg (b.pd.map .p), .c (.p (pI k))] (.v (.agg ((joinB k a b).pd.map .p))) := by
  have e1 : IntKind.i64.wrap (a.inc + b.inc) = a.inc + b.inc := by rw [wi64]; omega
  have e5 : IntKind.i64.wrap (b.f - a.l) = b.f - a.l := by rw [wi64]; omega
  have e6 : IntKind.i64.wrap (a.inc + b.inc + b.f) = a.inc + b.inc + b.f := by rw [wi64]; omega
  have e7 : IntKind.i64.wrap (a.inc + b.inc + (b.f - a.l)) = a.inc + b.inc + (b.f - a.l) := by rw [wi64]; omega
  have e3 : IntKind.i64.wrap (a.c + b.c) = a.c + b.c := by rw [wi64]; omega
  have e4 : IntKind.i64.wrap (a.s + b.s) = a.s + b.s := by rw [wi64]; omega
  refine Pf.body (fn := Tryz.f48) (by kernel_rfl) rfl ?_; simp only [List.map_cons, List.map_nil, List.cons_append, List.nil_append, List.length_cons, List.length_nil, Tryz.ntmps48, List.replicate, Nat.reduceSub, Nat.reduceAdd]
  refine Wc.seq ?_
  refine Wc.reg fun K hK => ?_; simp only [go_sem, ti3, ti4, ti32, ti39, ti41, ti31, ti96, ti87]; refine hK _ _ ?_; clear hK K
  refine Wc.seq ?_
  refine Wc.reg fun K hK => ?_; simp only [go_sem, ti3, ti4, ti32, ti39, ti41, ti31, ti96, ti87]; refine hK _ _ ?_; clear hK K
  obtain ⟨inc, hinc⟩ : ∃ inc, inc = (if k = 2 then a.inc + b.inc + stepV a.l b.f else a.inc) := ⟨_, rfl⟩
  refine Wc.seqR (fun y => y.ds = [] ∧ Fs y.e 96 [(3, .v (.c (.ref 0 0))), (4, .v (.c (.ref 1 0))), (6, .v (.c (.ref 2 0))), (7, .v (.c (.ref 4 0)))] ∧ y.s.get 2 = some (.cells ((List.replicate 10 (pI 0)).map .p) false) ∧ y.s.get 1 = some (.cells (b.pd.map .p) false) ∧ y.s.get 0 = some (.cells (a.pd.map .p) false) ∧ y.s.get 4 = some (.cells ([pI a.st, pI a.c, pI a.s, pI a.mn, pI a.mx, pI a.f, pI a.l, pI a.ft, pI a.lt, pI inc].map .p) false)) ?_ ?_
  · refine Wc.seq ?_
    by_cases hk : k = 2
    · subst hk
      rw [if_pos rfl] at hinc
      refine Wc.reg fun K hK => ?_; simp only [go_sem, ti3, ti4, ti32, ti39, ti41, ti31, ti96, ti87]; refine hK _ _ ?_; clear hK K
      refine Wc.cond (t := true) (by simp only [go_sem, ti3, ti4, ti32, ti39, ti41, ti31, ti96, ti87]) (fun _ => ?_) (fun hc => by cases hc)
      refine Wc.seq ?_
      refine Wc.reg fun K hK => ?_; simp only [go_sem, ti3, ti4, ti32, ti39, ti41, ti31, ti96, ti87, e1]; refine hK _ _ ?_; clear hK K
      refine Wc.seq ?_
      refine Wc.reg fun K hK => ?_; simp only [go_sem, ti3, ti4, ti32, ti39, ti41, ti31, ti96, ti87]; refine hK _ _ ?_; clear hK K
      refine Wc.cond (t := decide (b.f < a.l)) (by simp only [go_sem, ti3, ti4, ti32, ti39, ti41, ti31, ti96, ti87]) (fun hc => ?_) (fun hc => ?_)
      · have h : b.f < a.l := of_decide_eq_true hc
        rw [show stepV a.l b.f = b.f from if_pos h] at hinc
        subst hinc
        refine Wc.reg fun K hK => ?_; simp only [go_sem, ti3, ti4, ti32, ti39, ti41, ti31, ti96, ti87, e6]; refine hK _ _ ?_; clear hK K
        exact ⟨rfl, by simp only [Fs, Int.natCast_zero, go_sem, ti3, ti4, ti32, ti39, ti41, ti31, ti96, ti87], by simp only [go_sem, ti3, ti4, ti32, ti39, ti41, ti31, ti96, ti87], by simp only [go_sem, ti3, ti4, ti32, ti39, ti41, ti31, ti96, ti87], by simp only [go_sem, ti3, ti4, ti32, ti39, ti41, ti31, ti96, ti87], by simp only [go_sem, ti3, ti4, ti32, ti39, ti41, ti31, ti96, ti87]⟩
      · have h : ¬ b.f < a.l := of_decide_eq_false hc
        rw [show stepV a.l b.f = b.f - a.l from if_neg h] at hinc
        subst hinc
        refine Wc.reg fun K hK => ?_; simp only [go_sem, ti3, ti4, ti32, ti39, ti41, ti31, ti96, ti87, e5, e7]; refine hK _ _ ?_; clear hK K
        exact ⟨rfl, by simp only [Fs, Int.natCast_zero, go_sem, ti3, ti4, ti32, ti39, ti41, ti31, ti96, ti87], by simp only [go_sem, ti3, ti4, ti32, ti39, ti41, ti31, ti96, ti87], by simp only [go_sem, ti3, ti4, ti32, ti39, ti41, ti31, ti96, ti87], by simp only [go_sem, ti3, ti4, ti32, ti39, ti41, ti31, ti96, ti87], by simp only [go_sem, ti3, ti4, ti32, ti39, ti41, ti31, ti96, ti87]⟩
    · have hkd : (k == 2) = false := by simpa using hk
      rw [if_neg hk] at hinc
      subst hinc
      refine Wc.reg fun K hK => ?_; simp only [go_sem, ti3, ti4, ti32, ti39, ti41, ti31, ti96, ti87]; refine hK _ _ ?_; clear hK K
      refine Wc.cond (t := false) (by simp only [go_sem, ti3, ti4, ti32, ti39, ti41, ti31, ti96, ti87]; exact congrArg some hkd) (fun hc => by cases hc) (fun _ => Wc.skip ?_)
      exact ⟨rfl, by simp only [Fs, Int.natCast_zero, go_sem, ti3, ti4, ti32, ti39, ti41, ti31, ti96, ti87], by simp only [go_sem, ti3, ti4, ti32, ti39, ti41, ti31, ti96, ti87], by simp only [go_sem, ti3, ti4, ti32, ti39, ti41, ti31, ti96, ti87], by simp only [go_sem, ti3, ti4, ti32, ti39, ti41, ti31, ti96, ti87], by simp only [go_sem, ti3, ti4, ti32, ti39, ti41, ti31, ti96, ti87]⟩
  rintro ⟨e, ds, s1⟩ ⟨rfl, hF, g2, g1, g0, g3⟩
  simp only [Fs] at hF
  simp only [List.map_cons, List.map_nil] at g0 g1 g2 g3
  refine Wc.seq ?_
  refine Wc.reg fun K hK => ?_; simp only [go_sem, ti3, ti4, ti32, ti39, ti41, ti31, ti96, ti87, hF, g1, g3, e3]; refine hK _ _ ?_; clear hK K
  refine Wc.seq ?_
  refine Wc.reg fun K hK => ?_; simp only [go_sem, ti3, ti4, ti32, ti39, ti41, ti31, ti96, ti87, hF, g1, g3, e4]; refine hK _ _ ?_; clear hK K
  refine Wc.seq ?_
  refine Wc.reg fun K hK => ?_; simp only [go_sem, ti3, ti4, ti32, ti39, ti41, ti31, ti96, ti87, hF, g0, g1, g3, minB2]; refine hK _ _ ?_; clear hK K
  refine Wc.seq ?_
  refine Wc.reg fun K hK => ?_; simp only [go_sem, ti3, ti4, ti32, ti39, ti41, ti31, ti96, ti87, hF, g0, g1, g3, maxB2]; refine hK _ _ ?_; clear hK K
  refine Wc.seq ?_
  refine Wc.reg fun K hK => ?_; simp only [go_sem, ti3, ti4, ti32, ti39, ti41, ti31, ti96, ti87, hF, g1, g3]; refine hK _ _ ?_; clear hK K
  refine Wc.seq ?_
  refine Wc.reg fun K hK => ?_; simp only [go_sem, ti3, ti4, ti32, ti39, ti41, ti31, ti96, ti87, hF, g1, g3]; refine hK _ _ ?_; clear hK K
  refine Wc.seq ?_
  refine Wc.reg fun K hK => ?_; simp only [go_sem, ti3, ti4, ti32, ti39, ti41, ti31, ti96, ti87, hF, g2]; refine hK _ _ ?_; clear hK K
  exact Wc.ret (Pf.ret [.cell 6 87] [.agg ((joinB k a b).pd.map .p)] rfl rfl (by simp only [resultsD, go_sem, ti3, ti4, ti32, ti39, ti41, ti31, ti96, ti87, hF, joinB, hinc]; try rfl) rfl)
end Go.Proofs.YtedcnhbblgmdnaaGreat.Ab
namespace Go.Proofs.YtedcnhbblgmdnaaGreat.Ab
set_option maxHeartbeats 8000000
set_option maxRecDepth 10000
set_option linter.unusedSimpArgs false
set_option linter.unusedVariables false
/-! ### slices that are objects of the state -/
theorem ixG {t e : Nat} {i ie : TI} (ht : E0.ti t = some i) (hk : i.kn = .slice e) (he : E0.ti e = some ie) {q id off es j n : Nat} (hj : j < n) (hes : ie.size = es) :
    indexAddrD E0 t (.v (.c (.gs q id off n es))) (.v (.c (.p (.int .i64 (j : Int))))) = some (.v (.c (.gref q id (off + j * es)))) := by
  unfold indexAddrD
  rw [ht]
  simp only [D.int?, hk, he, Int.toNat_natCast]
  rw [if_pos ⟨Int.natCast_nonneg j, by omega, hes.symm⟩]
theorem allM_p : ∀ (l : List Pd), allM purS (l.map .p) = some l
  | [] => rfl
  | x :: r => by simp only [List.map_cons, allM, purS, allM_p r]
def cB (l : List Bkt) : List C := (l.flatMap Bkt.pd).map .p
theorem cB_len (l : List Bkt) : (cB l).length = l.length * 10 := by rw [cB, List.length_map]; exact flat_len (k := 10) (fun _ => rfl) l
theorem cB_app (l m : List Bkt) : cB (l ++ m) = cB l ++ cB m := by simp [cB]
/-- A slice of buckets, and its object. -/
def GB (x : C) (l : List Bkt) (G : List (Nat × Ob)) : Prop := (x = .nils ∧ l = [] ∧ G = []) ∨ ∃ id, x = .gs l.length id 0 l.length 10 ∧ G = [(id, .grow 10 l.length (cB l) false)]
/-- Two buckets may be joined: no number is too great. -/
structure JB (a b : Bkt) : Prop where
  l1 : -1099511627776 ≤ a.l
  l2 : a.l ≤ 1099511627776
  f1 : -1099511627776 ≤ b.f
  f2 : b.f ≤ 1099511627776
  i1 : -4611686018427387904 ≤ a.inc + b.inc
  i2 : a.inc + b.inc ≤ 4611686018427387904
  c1 : -4611686018427387904 ≤ a.c + b.c
  c2 : a.c + b.c ≤ 4611686018427387904
  s1 : -9223372036854775808 ≤ a.s + b.s
  s2 : a.s + b.s ≤ 9223372036854775807
theorem JB.pf48 {a b : Bkt} (h : JB a b) (k : Int) : Pf E0 48 [.agg (a.pd.map .p), .agg (b.pd.map .p), .c (.p (pI k))] (.v (.agg ((joinB k a b).pd.map .p))) := Ab.pf48 a b k ⟨⟨h.l1, h.l2⟩, h.f1, h.f2⟩ ⟨h.i1, h.i2⟩ ⟨h.c1, h.c2⟩ ⟨h.s1, h.s2⟩
theorem OA.putB {s : St} {c k : Nat} {o : Ob} {L : List (Nat × D × Nat × List Pd)} {M : List (Nat × Ob)} (h : OA k s L M) (hc : k < c) : OA c (s.put k o) L M := (h.put (Nat.le_refl _)).mono hc
theorem OAs.putB {c key k : Nat} {s : St} {o : Ob} {L : List (Nat × D × Nat × List Pd)} {M1 M2 : List (Nat × Ob)} (h : OAs key s L M1 k M2) (hc : key < c) : OAs c (s.put key o) L M1 k M2 := by
  obtain ⟨o', h⟩ := h; exact ⟨o', OA.putB h hc⟩
end Go.Proofs.YtedcnhbblgmdnaaGreat.Ab
namespace Go.Proofs.YtedcnhbblgmdnaaGreat.Ab
set_option maxHeartbeats 8000000
set_option maxRecDepth 10000
set_option linter.unusedSimpArgs false
set_option linter.unusedVariables false
def zR : Rlp := ⟨[], 0, 0, []⟩
abbrev resR (x : Rlp) (e : Int) : D := .tup [.agg (x.pd.map .p), .c (.p (pI e))]
def limB (x : Rlp) : Bool := bigB x.bs || decide (2000 < x.bs.length)
theorem bigB_step {l : List Bkt} {i : Nat} {b : Bkt} (h : l[i]? = some b) : bigB (l.drop i) = (decide (2000 < b.c) || bigB (l.drop (i + 1))) := by
  have hi := (List.getElem?_eq_some_iff.1 h).1
  have hx := (List.getElem?_eq_some_iff.1 h).2
  rw [List.drop_eq_getElem_cons hi, hx]
  rfl
end Go.Proofs.YtedcnhbblgmdnaaGreat.Ab
namespace Go.Proofs.YtedcnhbblgmdnaaGreat.Ab
set_option maxHeartbeats 8000000
set_option maxRecDepth 10000
set_option linter.unusedSimpArgs false
set_option linter.unusedVariables false
theorem sck_sorted {k : Int} : ∀ {l : List I2} {p : Option Int}, sck k p l = 0 → l.Pairwise (fun a b => a.1 < b.1) ∧ ∀ y, p = some y → ∀ a ∈ l, y < a.1
  | [], p, _ => ⟨List.Pairwise.nil, fun _ _ a ha => by cases ha⟩
  | x :: r, p, h => by
    simp only [sck] at h
    split at h
    · cases h
    · have key : sck k (some x.1) r = 0 ∧ ∀ y, p = some y → y < x.1 := by
        split at h
        · rename_i y
          split at h
          · cases h
          · refine ⟨h, fun z hz => ?_⟩
            cases hz; omega
        · exact ⟨h, fun z hz => by cases hz⟩
      obtain ⟨h1, h2⟩ := sck_sorted key.1
      refine ⟨List.pairwise_cons.2 ⟨fun b hb => h2 x.1 rfl b hb, h1⟩, fun y hy a ha => ?_⟩
      have := key.2 y hy
      rcases List.mem_cons.1 ha with rfl | ha
      · exact this
      · have := h2 x.1 rfl a ha; omega
theorem sck_pos {k : Int} (hk : k = 2) : ∀ {l : List I2} {p : Option Int}, sck k p l = 0 → ∀ x ∈ l, 0 ≤ x.2
  | [], p, h, x, hx => by cases hx
  | y :: r, p, h, x, hx => by
    have h1 : ¬ (smpOK y = false ∨ (k = 2 ∧ y.2 < 0)) := fun hb => by
      cases p <;> simp only [sck] at h <;> rw [if_pos hb] at h <;> cases h
    have h2 : sck k (some y.1) r = 0 := by
      cases p with
      | none => simp only [sck] at h; rw [if_neg h1] at h; exact h
      | some z =>
        simp only [sck] at h
        rw [if_neg h1] at h
        split at h
        · cases h
        · exact h
    rcases List.mem_cons.1 hx with rfl | hx
    · exact Int.not_lt.1 fun hn => h1 (.inr ⟨hk, hn⟩)
    · exact sck_pos hk h2 x hx
/-- A valid gauge or counter. -/
structure Sv (x : Ser) : Prop where
  lb : lckA x.lb = 0
  k : x.k = 1 ∨ x.k = 2
  ne : x.sm ≠ []
  len : x.sm.length ≤ 2000
  srt : x.sm.Pairwise (fun a b => a.1 < b.1)
  ok : ∀ y ∈ x.sm, okS x.k y
  hs : x.hs = []
theorem serOK_v {x : Ser} (h : serOK x = true) (hk : ¬ x.k = 3) : Sv x := by
  have h0 := h
  unfold serOK at h
  split at h
  · cases h
  rename_i hl
  simp only [Bool.and_eq_true] at h
  obtain ⟨h1, h2, h3⟩ := h
  have hs0 : sckA x.k x.sm = 0 := by simpa using h3
  obtain ⟨k1, k2, k3⟩ := sckA_ok hs0
  have hs1 : sck x.k none x.sm = 0 := by
    unfold sckA at hs0
    split at hs0
    · cases hs0
    · split at hs0
      · cases hs0
      · exact hs0
  refine ⟨Decidable.not_not.1 hl, k1, fun e => by rw [e] at h2; simp at h2, k2, (sck_sorted hs1).1, fun y hy => ?_, List.length_eq_zero_iff.1 (by simpa using h1)⟩
  obtain ⟨a1, a2⟩ := k3 y hy
  simp only [isT, isVl, Bool.and_eq_true, decide_eq_true_eq] at a1 a2
  refine ⟨a1, a2, fun e => ?_⟩
  exact sck_pos e hs1 y hy
/-- A bucket within bounds. -/
structure WB (b : Bkt) : Prop where
  c1 : 0 ≤ b.c
  c2 : b.c ≤ 1000000
  f1 : -1099511627776 ≤ b.f
  f2 : b.f ≤ 1099511627776
  l1 : -1099511627776 ≤ b.l
  l2 : b.l ≤ 1099511627776
  i1 : -1152921504606846976 ≤ b.inc
  i2 : b.inc ≤ 1152921504606846976
  s1 : -1152921504606846976 ≤ b.s
  s2 : b.s ≤ 1152921504606846976
theorem JB.of {a b : Bkt} (ha : WB a) (hb : WB b) : JB a b := by
  obtain ⟨a1, a2, a3, a4, a5, a6, a7, a8, a9, a10⟩ := ha
  obtain ⟨b1, b2, b3, b4, b5, b6, b7, b8, b9, b10⟩ := hb
  constructor <;> omega
theorem WB.single {k w : Int} {x : I2} (h : okS k x) : WB (single w x) := by
  obtain ⟨h1, h2, h3⟩ := h
  constructor <;> simp only [Ab.single] <;> omega
def ofC (x : Ser) (w : Int) : Int := if serOK x = false then 1 else if x.k = 3 then 8 else if btw w 1 1099511627776 = false then 2 else 0
/-- The rollup of a series. -/
def ofR (x : Ser) (w : Int) : Rlp := if ofC x w = 0 then ⟨x.lb, x.k, w, ofB x.k w x.sm⟩ else zR
theorem take_succ {A : Type} {l : List A} {i : Nat} {x : A} (h : l[i]? = some x) : l.take (i + 1) = l.take i ++ [x] := by rw [List.take_add_one, h]; rfl
theorem appB_len (k : Int) (l : List Bkt) (b : Bkt) : (appB k l b).length ≤ l.length + 1 := by
  unfold appB
  split
  · simp
  · split <;> simp <;> omega
theorem apps_len (k : Int) : ∀ (m l : List Bkt), (m.foldl (appB k) l).length ≤ l.length + m.length
  | [], l => by simp
  | b :: m, l => by
    have h1 := apps_len k m (appB k l b)
    have h2 := appB_len k l b
    simp only [List.foldl_cons, List.length_cons]
    omega
theorem ofB_len (k w : Int) (l : List I2) : (ofB k w l).length ≤ l.length := by
  rw [ofB_grp]
  have := apps_len k (l.map (single w)) []
  simp only [List.length_nil, List.length_map] at this
  show ((l.map (single w)).foldl (appB k) []).length ≤ _
  omega
theorem cB_all (l : List Bkt) : allM purS (cB l) = some (l.flatMap Bkt.pd) := allM_p _
theorem GB.pur {b : Nat} {s : St} {L : List (Nat × D × Nat × List Pd)} {M G : List (Nat × Ob)} {x : C} {l : List Bkt} (ho : OA b s L (G ++ M)) (h : GB x l G) : ∃ s', purC s x = some (.lst l.length (l.flatMap Bkt.pd), s') := by
  rcases h with ⟨rfl, rfl, rfl⟩ | ⟨id, rfl, rfl⟩
  · exact ⟨s, rfl⟩
  · have g : s.get id = some (.grow 10 l.length (cB l) false) := ho.at_ (id, .grow 10 l.length (cB l) false) (by simp)
    have hf : (l.flatMap Bkt.pd).length = l.length * 10 := flat_len (k := 10) (fun _ => rfl) l
    refine ⟨s.put id (.grow 10 l.length ((l.flatMap Bkt.pd).map .p) true), ?_⟩
    simp only [purC, g, cB_all, true_and, Nat.zero_add, hf, Nat.le_refl, if_true, List.drop_zero]
    rw [List.take_of_length_le (by omega)]
theorem OA.keepG {b k : Nat} {s : St} {o o' : Ob} {L : List (Nat × D × Nat × List Pd)} {M G : List (Nat × Ob)} (h : OA b s L (G ++ M)) (hm : (k, o) ∈ M) (hf : o'.isFront = false) : OA b (s.put k o') L (G ++ []) := by
  obtain ⟨M1, M2, rfl⟩ := List.append_of_mem hm
  rw [← List.append_assoc] at h
  refine (h.set hf).sub (List.Sublist.refl _) ?_
  rw [List.append_nil, List.append_assoc]
  exact List.sublist_append_left _ _
theorem Pf.retG {fn : Func} {x : Fr} {xc : C} {l : List Bkt} {G M : List (Nat × Ob)} {L : List (Nat × D × Nat × List Pd)} {b : Nat} {lb : List Lb} {k w e : Int} (rs : List ResultVar) (hd : x.ds = []) (hrs : fn.results.toList = rs)
    (hr : resultsD E0 x.e x.s rs = some [.agg [.p (.lst lb.length (lb.flatMap lbP)), .p (pI k), .p (pI w), xc], .c (.p (pI e))]) (ho : OA b x.s L (G ++ M)) (h : GB xc l G) :
    bodyQ E0 fn (fun d0 s2 => ∃ s3, purD s2 d0 = some (resR ⟨lb, k, w, l⟩ e, s3)) .ret x := by
  obtain ⟨s3, h3⟩ := h.pur ho
  refine Pf.ret rs _ hd hrs hr (s3 := s3) ?_
  have hp : ∀ (s : St) (x : Pd), purC s (.p x) = some (x, s) := fun _ _ => rfl
  simp only [packD, purD, purVs, purV, purCs, hp, h3, List.map_cons, List.map_nil]
  rfl
end Go.Proofs.YtedcnhbblgmdnaaGreat.Ab
namespace Go.Proofs.YtedcnhbblgmdnaaGreat.Ab
set_option maxHeartbeats 8000000
set_option maxRecDepth 10000
set_option linter.unusedSimpArgs false
set_option linter.unusedVariables false
/-! ### the buckets of a series, in the program's way -/
theorem pieces_at {w : Int} {l : List I2} {i : Nat} {x : I2} (h : l[i]? = some x) : ∃ k, i < k ∧ k ≤ l.length ∧ pieces w (l.drop i) = (startOf w x.1, (l.drop i).take (k - i)) :: pieces w (l.drop k) ∧ (∀ j y, i < j → j < k → l[j]? = some y → y.1 - startOf w x.1 ≤ w) ∧ (∀ y, l[k]? = some y → ¬ y.1 - startOf w x.1 ≤ w) := by
  have hi := (List.getElem?_eq_some_iff.1 h).1
  have hx := (List.getElem?_eq_some_iff.1 h).2
  have hd : l.drop i = x :: l.drop (i + 1) := by rw [List.drop_eq_getElem_cons hi, hx]
  obtain ⟨G, hG⟩ : ∃ G, (l.drop (i + 1)).takeWhile (fun y => decide (y.1 - startOf w x.1 ≤ w)) = G := ⟨_, rfl⟩
  obtain ⟨R, hR⟩ : ∃ R, (l.drop (i + 1)).dropWhile (fun y => decide (y.1 - startOf w x.1 ≤ w)) = R := ⟨_, rfl⟩
  have hGR : l.drop (i + 1) = G ++ R := by rw [← hG, ← hR]; exact takeWhile_append_drop _ _
  have hlen : l.length - (i + 1) = G.length + R.length := by rw [← List.length_drop, hGR, List.length_append]
  have hRd : R = l.drop (i + 1 + G.length) := by rw [← List.drop_drop, hGR, List.drop_left]
  refine ⟨i + 1 + G.length, by omega, by omega, ?_, fun j y h1 h2 h3 => ?_, fun y hy => ?_⟩
  · rw [hd, pieces, hG, hR, ← hRd]
    congr 2
    have : i + 1 + G.length - i = G.length + 1 := by omega
    rw [this, List.take_succ_cons, hGR, List.take_left]
  · have hm : y ∈ G := by
      have h4 : G[j - (i + 1)]? = some y := by
        have h5 : (l.drop (i + 1))[j - (i + 1)]? = some y := by rw [List.getElem?_drop, show i + 1 + (j - (i + 1)) = j by omega]; exact h3
        rw [hGR, List.getElem?_append_left (by omega)] at h5
        exact h5
      exact List.mem_of_getElem? h4
    rw [← hG] at hm
    have hp := List.all_eq_true.1 (List.all_takeWhile (p := fun y : I2 => decide (y.1 - startOf w x.1 ≤ w)) (l := l.drop (i + 1))) y hm
    simpa using hp
  · have hR0 : R[0]? = some y := by rw [hRd, List.getElem?_drop]; exact hy
    cases R with
    | nil => cases hR0
    | cons a q =>
      simp at hR0; subst hR0
      have := List.head_dropWhile_not (p := fun y : I2 => decide (y.1 - startOf w x.1 ≤ w)) (l := l.drop (i + 1)) (by rw [hR]; simp)
      simp only [hR, List.head_cons] at this
      simpa using this
theorem start_bnd {w t : Int} (hw : 1 ≤ w ∧ w ≤ 1099511627776) (ht : 1 ≤ t ∧ t ≤ 1099511627776) : IntKind.i64.wrap (t - 1) = t - 1 ∧ IntKind.i64.wrap ((t - 1).tdiv w) = (t - 1).tdiv w ∧ IntKind.i64.wrap ((t - 1).tdiv w * w) = startOf w t ∧ (0 ≤ startOf w t ∧ startOf w t < t) := by
  have hs := start_le hw.1 ht.1
  have e : startOf w t = (t - 1).tdiv w * w := rfl
  refine ⟨by rw [wi64]; omega, ?_, by rw [wi64]; omega, hs.2.2, hs.1⟩
  have h1 : 0 ≤ (t - 1).tdiv w := Int.tdiv_nonneg (by omega) (by omega)
  have h2 : (t - 1).tdiv w ≤ t - 1 := by rw [Int.tdiv_eq_ediv_of_nonneg (by omega)]; exact Int.ediv_le_self _ (by omega)
  rw [wi64]; omega
theorem take_flat {A : Type} {f : A → List Pd} {k : Nat} (hk : ∀ x, (f x).length = k) : ∀ (l : List A) (n : Nat), (l.flatMap f).take (n * k) = (l.take n).flatMap f
  | [], n => by simp
  | x :: r, 0 => by simp
  | x :: r, n + 1 => by
    rw [List.flatMap_cons, List.take_succ_cons, List.flatMap_cons, List.take_append, List.take_of_length_le (by rw [hk, Nat.succ_mul]; omega), hk, show (n + 1) * k - k = n * k by rw [Nat.succ_mul]; omega, take_flat hk r n]
theorem drop_flats {A : Type} {f : A → List Pd} {k : Nat} (hk : ∀ x, (f x).length = k) : ∀ (l : List A) (n : Nat), (l.flatMap f).drop (n * k) = (l.drop n).flatMap f
  | [], n => by simp
  | x :: r, 0 => by simp
  | x :: r, n + 1 => by
    rw [List.flatMap_cons, List.drop_succ_cons, List.drop_append, List.drop_of_length_le (by rw [hk, Nat.succ_mul]; omega), List.nil_append, hk, show (n + 1) * k - k = n * k by rw [Nat.succ_mul]; omega, drop_flats hk r n]
/-- 147: pieces$1 -/
theorem iter147 {r q : Nat} {fr fq : Bool} {w : Int} {l : List I2} (hw : 1 ≤ w ∧ w ≤ 1099511627776) (hl : l.length < 2^40) (hb : ∀ x ∈ l, 1 ≤ x.1 ∧ x.1 ≤ 1099511627776) :
    IterC 147 [.ref r 0, .ref q 0] (fun s => s.get r = some (.cells [.p (.lst l.length (l.flatMap p2))] fr) ∧ s.get q = some (.cells [.p (pI w)] fq))
    (fun i k a => ∃ st p, a = [.c (.p (pI st)), .c (.p (.lst p.length (p.flatMap p2)))] ∧ p ≠ [] ∧ (∀ x ∈ p, x ∈ l) ∧ p.length ≤ l.length ∧ pieces w (l.drop i) = (st, p) :: pieces w (l.drop k) ∧ p.Sublist l) l.length := by
  refine ⟨Tryz.f147, _, by kernel_rfl, rfl, fun L J hJ hJ2 hcap hy s h0 Q hQ => ?_⟩
  have hw0 : (w = 0) = False := by simp; omega
  simp only [List.map_cons, List.map_nil, List.cons_append, List.nil_append, List.length_cons, List.length_nil, Tryz.ntmps147, List.replicate, Nat.reduceSub, Nat.reduceAdd]
  obtain ⟨c1, c2⟩ := hcap _ _ h0
  refine Wc.seq ?_
  refine Wc.reg fun K hK => ?_; simp only [go_sem, ti3, ti4, ti32, ti39, ti41, ti31, ti96, ti87, ti29, ti22, ti26, ti23, ti202, ti143, Int.natCast_zero, c1, c2]; refine hK _ _ ?_; clear hK K
  refine Wc.block (Wc.loop (fun k y => ∃ (i : Nat), k = l.length - i ∧ i ≤ l.length ∧ y.ds = [] ∧ Fs y.e 47 [(0, .v (.c (.fn (.yield L) [] []))), (1, .v (.c (.ref r 0))), (2, .v (.c (.ref q 0))), (4, P' (.lst (l.length - i) ((l.drop i).flatMap p2)))] ∧ J i y.s) ?_ (k := l.length) ?_)
  · rintro k ⟨e, ds, s1⟩ ⟨i, rfl, hi, rfl, hF, hj⟩
    simp only [Fs] at hF hj
    obtain ⟨g1, g2⟩ := hcap _ _ hj
    refine Wc.seq (Wc.seq ?_)
    refine Wc.reg fun K hK => ?_; simp only [go_sem, ti3, ti4, ti32, ti39, ti41, ti31, ti96, ti87, ti29, ti22, ti26, ti23, ti202, ti143, Int.natCast_zero, hF]; refine hK _ _ ?_; clear hK K
    refine Wc.cond (t := decide (0 < ((l.length - i : Nat) : Int))) (by simp only [go_sem, ti3, ti4, ti32, ti39, ti41, ti31, ti96, ti87, ti29, ti22, ti26, ti23, ti202, ti143, Int.natCast_zero, hF]) (fun hc => ?_) (fun hc => ?_)
    · have hil : i < l.length := by have := of_decide_eq_true hc; omega
      obtain ⟨x, hx⟩ : ∃ x, l[i]? = some x := ⟨l[i], List.getElem?_eq_getElem hil⟩
      have hbx := hb x (List.mem_of_getElem? hx)
      obtain ⟨e1, e2, e3, e4⟩ := start_bnd hw hbx
      obtain ⟨k, hik, hkl, hpc, hin, hout⟩ := pieces_at (w := w) hx
      have hdl : (l.drop i).length = l.length - i := by simp
      have hfd : ((l.drop i).flatMap p2).length = (l.length - i) * 2 := by rw [flat_len (k := 2) (fun _ => rfl), hdl]
      have hd0 : (l.drop i)[0]? = some x := by rw [List.getElem?_drop]; exact hx
      have hix : indexAddrD E0 23 (.v (.c (.p (.lst (l.length - i) ((l.drop i).flatMap p2))))) (.v (.c (.p (.int .i64 0)))) = _ := ixA ti23 rfl ti39 (j := 0) (m := l.length - i) (cs := (l.drop i).flatMap p2) (by omega) hfd (by decide)
      have hca := rpA (off := 0 * 2) (drop_flat (f := p2) (k := 2) (fun _ => rfl) hd0) (by rw [hfd]; omega)
      refine Wc.skip (Wc.block (Wc.seq ?_))
      simp only [Nat.zero_mul] at hix hca
      refine Wc.regD fun K hK => ?_; simp only [go_sem, ti3, ti4, ti32, ti39, ti41, ti31, ti96, ti87, ti29, ti22, ti26, ti23, ti202, ti143, Int.natCast_zero, hF, g2, hix, hca, hw0, e1, e2, e3]; refine hK _ _ ?_; clear hK K
      refine Wc.seq ?_
      refine Wc.reg fun K hK => ?_; simp only [go_sem, ti3, ti4, ti32, ti39, ti41, ti31, ti96, ti87, ti29, ti22, ti26, ti23, ti202, ti143, Int.natCast_zero, hF]; refine hK _ _ ?_; clear hK K
      refine Wc.seqA (fun y => y.ds = [] ∧ Fs y.e 47 [(0, .v (.c (.fn (.yield L) [] []))), (1, .v (.c (.ref r 0))), (2, .v (.c (.ref q 0))), (4, P' (.lst (l.length - i) ((l.drop i).flatMap p2))), (5, P' (pI (startOf w x.1))), (6, P' (pI ((k - i : Nat) : Int)))] ∧ J i y.s) ?_ ?_
      · refine Wc.block (Wc.loop (fun c y => ∃ (j : Nat), c = k - j ∧ i < j ∧ j ≤ k ∧ y.ds = [] ∧ Fs y.e 47 [(0, .v (.c (.fn (.yield L) [] []))), (1, .v (.c (.ref r 0))), (2, .v (.c (.ref q 0))), (4, P' (.lst (l.length - i) ((l.drop i).flatMap p2))), (5, P' (pI (startOf w x.1))), (6, P' (pI ((j - i : Nat) : Int)))] ∧ J i y.s) ?_ (k := k - (i + 1)) ?_)
        · clear hF hj g1 g2 e s1
          rintro c ⟨e, ds, s1⟩ ⟨j, rfl, hij, hjk, rfl, hF, hj⟩
          simp only [Fs] at hF hj
          obtain ⟨g1, g2⟩ := hcap _ _ hj
          refine Wc.seq (Wc.seq ?_)
          by_cases hjl : j < l.length
          · obtain ⟨y, hy⟩ : ∃ y, l[j]? = some y := ⟨l[j], List.getElem?_eq_getElem hjl⟩
            have hby := hb y (List.mem_of_getElem? hy)
            have hyd : (l.drop i)[j - i]? = some y := by rw [List.getElem?_drop, show i + (j - i) = j by omega]; exact hy
            have hiy := ixA ti23 rfl ti39 (j := j - i) (m := l.length - i) (cs := (l.drop i).flatMap p2) (by omega) hfd (by decide)
            have hcb := rpA (off := (j - i) * 2) (drop_flat (f := p2) (k := 2) (fun _ => rfl) hyd) (by rw [hfd]; omega)
            have hd : (((j - i : Nat) : Int) < ((l.length - i : Nat) : Int)) = True := by simp; omega
            have e5 : IntKind.i64.wrap (y.1 - startOf w x.1) = y.1 - startOf w x.1 := by rw [wi64]; omega
            refine Wc.regD fun K hK => ?_; simp only [go_sem, ti3, ti4, ti32, ti39, ti41, ti31, ti96, ti87, ti29, ti22, ti26, ti23, ti202, ti143, Int.natCast_zero, hF, g2, hiy, hcb, hd, e5]; refine hK _ _ ?_; clear hK K
            refine Wc.cond (t := decide (y.1 - startOf w x.1 ≤ w)) (by simp only [go_sem, ti3, ti4, ti32, ti39, ti41, ti31, ti96, ti87, ti29, ti22, ti26, ti23, ti202, ti143, Int.natCast_zero, hF]) (fun hc => ?_) (fun hc => ?_)
            · have hc2 : y.1 - startOf w x.1 ≤ w := of_decide_eq_true hc
              have hjk2 : j < k := by
                rcases Nat.lt_or_ge j k with h | h
                · exact h
                · have : j = k := by omega
                  subst this
                  exact absurd hc2 (hout y hy)
              have e6 : IntKind.i64.wrap (((j - i : Nat) : Int) + 1) = ((j + 1 - i : Nat) : Int) := by rw [wi64]; omega
              refine Wc.skip (Wc.block ?_)
              refine Wc.reg fun K hK => ?_; simp only [go_sem, ti3, ti4, ti32, ti39, ti41, ti31, ti96, ti87, ti29, ti22, ti26, ti23, ti202, ti143, Int.natCast_zero, hF, e6]; refine hK _ _ ?_; clear hK K
              exact ⟨k - (j + 1), by omega, j + 1, rfl, by omega, by omega, rfl, by simp only [Fs, Int.natCast_zero, go_sem, ti3, ti4, ti32, ti39, ti41, ti31, ti96, ti87, ti29, ti22, ti26, ti23, ti202, ti143, Int.natCast_zero, hF], hJ _ _ _ (hJ _ _ _ hj)⟩
            · have hc2 : ¬ y.1 - startOf w x.1 ≤ w := of_decide_eq_false hc
              have hjk2 : j = k := by
                rcases Nat.lt_or_ge j k with h | h
                · exact absurd (hin j y hij h hy) hc2
                · omega
              subst hjk2
              exact Wc.exit ⟨rfl, rfl, by simp only [Fs, Int.natCast_zero, go_sem, ti3, ti4, ti32, ti39, ti41, ti31, ti96, ti87, ti29, ti22, ti26, ti23, ti202, ti143, Int.natCast_zero, hF], hJ _ _ _ hj⟩
          · have hjk2 : j = k := by omega
            subst hjk2
            have hd : (((j - i : Nat) : Int) < ((l.length - i : Nat) : Int)) = False := by simp; omega
            refine Wc.regD fun K hK => ?_; simp only [go_sem, ti3, ti4, ti32, ti39, ti41, ti31, ti96, ti87, ti29, ti22, ti26, ti23, ti202, ti143, Int.natCast_zero, hF, g2, hd]; refine hK _ _ ?_; clear hK K
            refine Wc.cond (t := false) (by simp only [go_sem, ti3, ti4, ti32, ti39, ti41, ti31, ti96, ti87, ti29, ti22, ti26, ti23, ti202, ti143, Int.natCast_zero, hF]) (fun hc => by cases hc) (fun _ => ?_)
            exact Wc.exit ⟨rfl, rfl, by simp only [Fs, Int.natCast_zero, go_sem, ti3, ti4, ti32, ti39, ti41, ti31, ti96, ti87, ti29, ti22, ti26, ti23, ti202, ti143, Int.natCast_zero, hF], hJ _ _ _ hj⟩
        · have e6 : i + 1 - i = 1 := by omega
          refine ⟨i + 1, rfl, by omega, by omega, rfl, ?_, hJ _ _ _ (hJ _ _ _ (hJ _ _ _ hj))⟩
          rw [e6]
          exact by simp only [Fs, Int.natCast_zero, go_sem, ti3, ti4, ti32, ti39, ti41, ti31, ti96, ti87, ti29, ti22, ti26, ti23, ti202, ti143, Int.natCast_zero, hF, Int.natCast_one]
      · clear hF hj g1 g2 e s1
        rintro ⟨e, ds, s1⟩ ⟨rfl, hF, hj⟩
        simp only [Fs] at hF hj
        obtain ⟨g1, g2⟩ := hcap _ _ hj
        have hpl : ((l.drop i).take (k - i)).length = k - i := by simp; omega
        have hpf : ((l.drop i).flatMap p2).take ((k - i) * 2) = ((l.drop i).take (k - i)).flatMap p2 := take_flat (k := 2) (fun _ => rfl) _ _
        have hdf : ((l.drop i).flatMap p2).drop ((k - i) * 2) = (l.drop k).flatMap p2 := by rw [drop_flats (k := 2) (fun _ => rfl), List.drop_drop, show i + (k - i) = k by omega]
        have hsl1 : ((((k - i : Nat) : Int)) ≤ ((l.length - i : Nat) : Int)) = True := by simp; omega
        refine Wc.seq (Wc.seq ?_)
        refine Wc.reg fun K hK => ?_; simp only [go_sem, ti3, ti4, ti32, ti39, ti41, ti31, ti96, ti87, ti29, ti22, ti26, ti23, ti202, ti143, Int.natCast_zero, hF, hfd, hsl1, hpf, Nat.sub_zero]
        obtain ⟨n, d, s2, hc1, hd, hj2⟩ := hy i k _ (s1.adv 7) (hJ _ _ _ hj) ⟨startOf w x.1, (l.drop i).take (k - i), rfl, fun e => by rw [e] at hpl; simp at hpl; omega, fun z hz => List.mem_of_mem_drop (List.mem_of_mem_take hz), by omega, hpc, (List.take_sublist _ _).trans (List.drop_sublist _ _)⟩
        subst hd
        rw [hpl] at hc1
        refine ⟨n, _, s2, hc1, ?_⟩
        simp only [go_sem, ti3, ti4, ti32, ti39, ti41, ti31, ti96, ti87, ti29, ti22, ti26, ti23, ti202, ti143, Int.natCast_zero, hF]; refine hK _ _ ?_; clear hK K
        refine Wc.cond (t := false) (by simp only [go_sem, ti3, ti4, ti32, ti39, ti41, ti31, ti96, ti87, ti29, ti22, ti26, ti23, ti202, ti143, Int.natCast_zero, hF]) (fun hc => by cases hc) (fun _ => Wc.skip ?_)
        have e7 : l.length - i - (k - i) = l.length - k := by omega
        have hsl2 : (((l.length - i : Nat) : Int) ≤ ((l.length - i : Nat) : Int)) = True := by simp
        have hfk : ((l.drop k).flatMap p2).length = (l.length - k) * 2 := by rw [flat_len (k := 2) (fun _ => rfl)]; simp
        have htk : ((l.drop k).flatMap p2).take ((l.length - k) * 2) = (l.drop k).flatMap p2 := List.take_of_length_le (by omega)
        refine Wc.reg fun K hK => ?_; simp only [go_sem, ti3, ti4, ti32, ti39, ti41, ti31, ti96, ti87, ti29, ti22, ti26, ti23, ti202, ti143, Int.natCast_zero, hF, hfd, hsl1, hsl2, hdf, e7, Nat.sub_zero, htk]; refine hK _ _ ?_; clear hK K
        exact ⟨l.length - k, by omega, k, rfl, hkl, rfl, by simp only [Fs, Int.natCast_zero, go_sem, ti3, ti4, ti32, ti39, ti41, ti31, ti96, ti87, ti29, ti22, ti26, ti23, ti202, ti143, Int.natCast_zero, hF], hJ _ _ _ hj2⟩
    · have hil : i = l.length := by have := of_decide_eq_false hc; omega
      refine Wc.exit ?_
      subst hil
      exact bodyQ.normal (vs := []) rfl rfl (hQ _ _ (hJ _ _ _ hj))
  · exact ⟨0, rfl, by omega, rfl, by simp only [Fs, Int.natCast_zero, go_sem, ti3, ti4, ti32, ti39, ti41, ti31, ti96, ti87, ti29, ti22, ti26, ti23, ti202, ti143, Int.natCast_zero, List.drop_zero, Nat.sub_zero], hJ _ _ _ h0⟩
end Go.Proofs.YtedcnhbblgmdnaaGreat.Ab
namespace Go.Proofs.YtedcnhbblgmdnaaGreat.Ab
set_option maxHeartbeats 8000000
set_option maxRecDepth 10000
set_option linter.unusedSimpArgs false
set_option linter.unusedVariables false
/-- 90: pieces, in its caller's state -/
theorem call90 {s : St} {L : List (Nat × D × Nat × List Pd)} {M : List (Nat × Ob)} {n : Nat} {cs : List Pd} {w : Int} {K : D → St → Prop} (h : OA s.nx s L M)
    (hK : ∀ s', OA s'.nx s' L ((s.nx + 1, .cells [.p (pI w)] false) :: (s.nx, .cells [.p (.lst n cs)] false) :: M) → s.nx + 1 < s'.nx → K (.v (.c (.fn (.func 147) [] [.ref s.nx 0, .ref (s.nx + 1) 0]))) s') : wpCall E0 (.v (.c (.p (.fnc 90)))) [.v (.c (.p (.lst n cs))), .v (.c (.p (pI w)))] s K := by
  refine wpCall.opn (fn := Tryz.f90) (by kernel_rfl) (by kernel_rfl) rfl (by kernel_rfl) rfl ?_; simp only [List.map_cons, List.map_nil, List.cons_append, List.nil_append, List.length_cons, List.length_nil, Tryz.ntmps90, List.replicate, Nat.reduceSub, Nat.reduceAdd]
  refine Wc.seq ?_
  refine Wc.reg fun K hK => ?_; simp only [go_sem, ti3, ti4, ti32, ti39, ti41, ti31, ti96, ti87, ti29, ti22, ti26, ti23, ti202, ti143, ti238, ti271, Int.natCast_zero]; refine hK _ _ ?_; clear hK K
  refine Wc.seq ?_
  refine Wc.reg fun K hK => ?_; simp only [go_sem, ti3, ti4, ti32, ti39, ti41, ti31, ti96, ti87, ti29, ti22, ti26, ti23, ti202, ti143, ti238, ti271, Int.natCast_zero]; refine hK _ _ ?_; clear hK K
  refine Wc.ret (Op.ret [.tmp 4] [.c (.fn (.func 147) [] [.ref s.nx 0, .ref (s.nx + 1) 0])] rfl rfl (by simp only [resultsD, go_sem, ti3, ti4, ti32, ti39, ti41, ti31, ti96, ti87, ti29, ti22, ti26, ti23, ti202, ti143, ti238, ti271, Int.natCast_zero]) (hK _ ?_ ?_))
  · have := ((h.adv (n := 3)).new (k := s.nx) (o := .cells [.p (.lst n cs)] false) (Nat.le_refl _) rfl).new (k := s.nx + 1) (o := .cells [.p (pI w)] false) (Nat.le_refl _) rfl
    exact (this.mono (b' := s.nx + 3 + 2) (by omega)).adv (n := 2)
  · simp only [St.nx_adv, St.nx_put]; omega
/-- 252: neighbours$1 -/
theorem iter252 {r : Nat} {fr : Bool} {l : List I2} (hl : l.length < 2^40) :
    IterC 252 [.ref r 0] (fun s => s.get r = some (.cells [.p (.lst l.length (l.flatMap p2))] fr))
    (fun i k a => ∃ x y, a = [.agg ((p2 x).map .p), .agg ((p2 y).map .p)] ∧ l[i]? = some x ∧ l[i + 1]? = some y ∧ k = i + 1) (l.length - 1) := by
  refine ⟨Tryz.f252, _, by kernel_rfl, rfl, fun L J hJ hJ2 hcap hy s h0 Q hQ => ?_⟩
  have hfl : (l.flatMap p2).length = l.length * 2 := flat_len (k := 2) (fun _ => rfl) _
  simp only [List.map_cons, List.map_nil, List.cons_append, List.nil_append, List.length_cons, List.length_nil, Tryz.ntmps252, List.replicate, Nat.reduceSub, Nat.reduceAdd]
  refine Wc.seq ?_
  refine Wc.reg fun K hK => ?_; simp only [go_sem, ti3, ti4, ti32, ti39, ti41, ti31, ti96, ti87, ti29, ti22, ti26, ti23, ti202, ti143, ti238, ti271, Int.natCast_zero]; refine hK _ _ ?_; clear hK K
  refine Wc.block (Wc.loop (fun k y => ∃ (i : Nat), k = l.length - i ∧ (i + 1 ≤ l.length ∨ i = 0) ∧ y.ds = [] ∧ Fs y.e 22 [(0, .v (.c (.fn (.yield L) [] []))), (1, .v (.c (.ref r 0))), (3, P' (pI ((i + 1 : Nat) : Int)))] ∧ J i y.s) ?_ (k := l.length) ?_)
  · rintro k ⟨e, ds, s1⟩ ⟨i, rfl, hi, rfl, hF, hj⟩
    simp only [Fs] at hF hj
    have g1 := hcap _ _ hj
    simp only at g1
    refine Wc.seq (Wc.seq ?_)
    refine Wc.reg fun K hK => ?_; simp only [go_sem, ti3, ti4, ti32, ti39, ti41, ti31, ti96, ti87, ti29, ti22, ti26, ti23, ti202, ti143, ti238, ti271, Int.natCast_zero, hF, g1]; refine hK _ _ ?_; clear hK K
    refine Wc.cond (t := decide (((i + 1 : Nat) : Int) < (l.length : Int))) (by simp only [go_sem, ti3, ti4, ti32, ti39, ti41, ti31, ti96, ti87, ti29, ti22, ti26, ti23, ti202, ti143, ti238, ti271, Int.natCast_zero, hF]) (fun hc => ?_) (fun hc => ?_)
    · have hil : i + 1 < l.length := by have := of_decide_eq_true hc; omega
      obtain ⟨x, hx⟩ : ∃ x, l[i]? = some x := ⟨l[i], List.getElem?_eq_getElem (by omega)⟩
      obtain ⟨y, hyy⟩ : ∃ x, l[i + 1]? = some x := ⟨l[i + 1], List.getElem?_eq_getElem (by omega)⟩
      have hix := ixA ti23 rfl ti39 (j := i) (m := l.length) (cs := l.flatMap p2) (by omega) hfl (by decide)
      have hca := rpA (off := i * 2) (drop_flat (f := p2) (k := 2) (fun _ => rfl) hx) (by rw [hfl]; omega)
      have hiy := ixA ti23 rfl ti39 (j := i + 1) (m := l.length) (cs := l.flatMap p2) (by omega) hfl (by decide)
      have hcb := rpA (off := (i + 1) * 2) (drop_flat (f := p2) (k := 2) (fun _ => rfl) hyy) (by rw [hfl]; omega)
      have e1 : IntKind.i64.wrap (((i + 1 : Nat) : Int) - 1) = (i : Int) := by rw [wi64]; omega
      refine Wc.skip (Wc.seq (Wc.block (Wc.seq ?_)))
      refine Wc.regT fun K hK => ?_
      simp only [go_sem, ti3, ti4, ti32, ti39, ti41, ti31, ti96, ti87, ti29, ti22, ti26, ti23, ti202, ti143, ti238, ti271, Int.natCast_zero, hF, g1, hix, hca, hiy, hcb, e1]
      obtain ⟨n, d, s2, hc1, hd, hj2⟩ := hy i (i + 1) _ (s1.adv 16) (hJ _ _ _ hj) ⟨x, y, rfl, hx, hyy, rfl⟩
      subst hd
      refine ⟨n, _, s2, hc1, ?_⟩
      simp only [go_sem, ti3, ti4, ti32, ti39, ti41, ti31, ti96, ti87, ti29, ti22, ti26, ti23, ti202, ti143, ti238, ti271, Int.natCast_zero, hF]
      refine ⟨by rw [trOK_eq]; rfl, hK _ _ ?_⟩
      refine Wc.cond (t := false) (by simp only [go_sem, ti3, ti4, ti32, ti39, ti41, ti31, ti96, ti87, ti29, ti22, ti26, ti23, ti202, ti143, ti238, ti271, Int.natCast_zero, hF]) (fun hc => by cases hc) (fun _ => Wc.skip ?_)
      have e2 : IntKind.i64.wrap (((i + 1 : Nat) : Int) + 1) = ((i + 1 + 1 : Nat) : Int) := by rw [wi64]; omega
      refine Wc.reg fun K hK => ?_; simp only [go_sem, ti3, ti4, ti32, ti39, ti41, ti31, ti96, ti87, ti29, ti22, ti26, ti23, ti202, ti143, ti238, ti271, Int.natCast_zero, hF, e2]; refine hK _ _ ?_; clear hK K
      exact ⟨l.length - (i + 1), by omega, i + 1, rfl, .inl (by omega), rfl, by simp only [Fs, Int.natCast_zero, go_sem, ti3, ti4, ti32, ti39, ti41, ti31, ti96, ti87, ti29, ti22, ti26, ti23, ti202, ti143, ti238, ti271, Int.natCast_zero, hF], hJ _ _ _ hj2⟩
    · have hil : i = l.length - 1 := by have := of_decide_eq_false hc; omega
      refine Wc.exit ?_
      subst hil
      exact bodyQ.normal (vs := []) rfl rfl (hQ _ _ (hJ _ _ _ hj))
  · exact ⟨0, rfl, .inr rfl, rfl, by simp only [Fs, Int.natCast_zero, go_sem, ti3, ti4, ti32, ti39, ti41, ti31, ti96, ti87, ti29, ti22, ti26, ti23, ti202, ti143, ti238, ti271, Int.natCast_zero, Int.natCast_one], hJ _ _ _ h0⟩
/-- 219: neighbours, in its caller's state -/
theorem call219 {s : St} {L : List (Nat × D × Nat × List Pd)} {M : List (Nat × Ob)} {n : Nat} {cs : List Pd} {K : D → St → Prop} (h : OA s.nx s L M)
    (hK : ∀ s', OA s'.nx s' L ((s.nx, .cells [.p (.lst n cs)] false) :: M) → s.nx < s'.nx → K (.v (.c (.fn (.func 252) [] [.ref s.nx 0]))) s') : wpCall E0 (.v (.c (.p (.fnc 219)))) [.v (.c (.p (.lst n cs)))] s K := by
  refine wpCall.opn (fn := Tryz.f219) (by kernel_rfl) (by kernel_rfl) rfl (by kernel_rfl) rfl ?_; simp only [List.map_cons, List.map_nil, List.cons_append, List.nil_append, List.length_cons, List.length_nil, Tryz.ntmps219, List.replicate, Nat.reduceSub, Nat.reduceAdd]
  refine Wc.seq ?_
  refine Wc.reg fun K hK => ?_; simp only [go_sem, ti3, ti4, ti32, ti39, ti41, ti31, ti96, ti87, ti29, ti22, ti26, ti23, ti202, ti143, ti238, ti271, Int.natCast_zero]; refine hK _ _ ?_; clear hK K
  refine Wc.seq ?_
  refine Wc.reg fun K hK => ?_; simp only [go_sem, ti3, ti4, ti32, ti39, ti41, ti31, ti96, ti87, ti29, ti22, ti26, ti23, ti202, ti143, ti238, ti271, Int.natCast_zero]; refine hK _ _ ?_; clear hK K
  refine Wc.ret (Op.ret [.tmp 2] [.c (.fn (.func 252) [] [.ref s.nx 0])] rfl rfl (by simp only [resultsD, go_sem, ti3, ti4, ti32, ti39, ti41, ti31, ti96, ti87, ti29, ti22, ti26, ti23, ti202, ti143, ti238, ti271, Int.natCast_zero]) (hK _ ?_ ?_))
  · have := (h.adv (n := 2)).new (k := s.nx) (o := .cells [.p (.lst n cs)] false) (Nat.le_refl _) rfl
    exact (this.mono (b' := s.nx + 2 + 2) (by omega)).adv (n := 2)
  · simp only [St.nx_adv, St.nx_put]; omega
end Go.Proofs.YtedcnhbblgmdnaaGreat.Ab
namespace Go.Proofs.YtedcnhbblgmdnaaGreat.Ab
set_option maxHeartbeats 8000000
set_option maxRecDepth 10000
set_option linter.unusedSimpArgs false
set_option linter.unusedVariables false
theorem sck_mk (k : Int) : ∀ (l : List I2) (p : Option Int), l.Pairwise (fun a b => a.1 < b.1) → (∀ x ∈ l, okS k x) → (∀ y, p = some y → ∀ a ∈ l, y < a.1) → sck k p l = 0
  | [], p, _, _, _ => sck_end k p
  | x :: r, p, h, hb, hp => by
    obtain ⟨h1, h2⟩ := List.pairwise_cons.1 h
    obtain ⟨b1, b2, b3⟩ := hb x (by simp)
    have hn : ¬ (smpOK x = false ∨ (k = 2 ∧ x.2 < 0)) := by
      rintro (h | ⟨h3, h4⟩)
      · have : smpOK x = true := by simp [smpOK, isT, isVl]; omega
        rw [this] at h; cases h
      · have := b3 h3; omega
    have ih := sck_mk k r (some x.1) h2 (fun y hy => hb y (by simp [hy])) (fun y hy a ha => by cases hy; exact h1 a ha)
    cases p with
    | none => simp only [sck]; rw [if_neg hn]; exact ih
    | some y =>
      have := hp y rfl x (by simp)
      simp only [sck]
      rw [if_neg hn, if_neg (by omega)]; exact ih
theorem sckA_mk {k : Int} {l : List I2} (hk : k = 1 ∨ k = 2) (hl : l.length ≤ 2000) (h : l.Pairwise (fun a b => a.1 < b.1)) (hb : ∀ x ∈ l, okS k x) : sckA k l = 0 := by
  unfold sckA
  rw [if_neg (by omega), if_neg (by omega)]
  exact sck_mk k l none h hb (fun y e => by cases e)
theorem incV_take : ∀ (l : List I2) (i : Nat) (x y : I2), l[i]? = some x → l[i + 1]? = some y → incV (l.take (i + 2)) = incV (l.take (i + 1)) + stepV x.2 y.2
  | [], i, x, y, h, _ => by simp at h
  | [a], i, x, y, _, h => by simp at h
  | a :: b :: r, 0, x, y, h1, h2 => by
    simp at h1 h2; subst h1 h2
    simp [incV]
  | a :: b :: r, i + 1, x, y, h1, h2 => by
    have ih := incV_take (b :: r) i x y (by simpa using h1) (by simpa using h2)
    simp only [List.take_succ_cons] at ih ⊢
    simp only [incV]
    rw [ih]; omega
theorem incV_bnd : ∀ (l : List I2), (∀ x ∈ l, okS 2 x) → 0 ≤ incV l ∧ incV l ≤ l.length * 1099511627776
  | [], _ => by simp [incV]
  | [a], _ => by simp [incV]
  | a :: b :: r, h => by
    obtain ⟨h1, h2⟩ := incV_bnd (b :: r) (fun x hx => h x (by simp [hx]))
    obtain ⟨_, a1, a2⟩ := h a (by simp)
    obtain ⟨_, b1, b2⟩ := h b (by simp)
    have := a2 rfl; have := b2 rfl
    have hs : 0 ≤ stepV a.2 b.2 ∧ stepV a.2 b.2 ≤ 1099511627776 := by unfold stepV; split <;> omega
    simp only [incV, List.length_cons] at h1 h2 ⊢
    omega
theorem OA.rot {b : Nat} {s : St} {L : List (Nat × D × Nat × List Pd)} {A B M : List (Nat × Ob)} (h : OA b s L (A ++ B ++ M)) : OA b s L (B ++ A ++ M) := h.permM (List.perm_append_comm.append_right M)
/-- 148: series.Increase of valid samples -/
theorem pf148 (l : List I2) (hl : l.length ≤ 2000) (hs : l.Pairwise (fun a b => a.1 < b.1)) (hb : ∀ x ∈ l, okS 2 x) : Pf E0 148 [.c (.p (.lst l.length (l.flatMap p2)))] (P' (pI (incV l))) := by
  have hc0 := sckA_mk (.inr rfl) hl hs hb
  have p := pf135 2 l (by omega)
  rw [hc0] at p
  refine Pf.body (fn := Tryz.f148) (by kernel_rfl) rfl ?_; simp only [List.map_cons, List.map_nil, List.cons_append, List.nil_append, List.length_cons, List.length_nil, Tryz.ntmps148, List.replicate, Nat.reduceSub, Nat.reduceAdd]
  refine Wc.seq ?_
  refine Wc.reg fun K hK => ?_; simp only [go_sem, ti3, ti4, ti32, ti39, ti41, ti31, ti96, ti87, ti29, ti22, ti26, ti23, ti202, ti143, ti238, ti271, Int.natCast_zero]; refine hK _ _ ?_; clear hK K
  refine Wc.seq (Wc.seq ?_)
  refine Wc.reg fun K hK => ?_; simp only [go_sem, ti3, ti4, ti32, ti39, ti41, ti31, ti96, ti87, ti29, ti22, ti26, ti23, ti202, ti143, ti238, ti271, Int.natCast_zero]
  refine wpCall.pf (p) (by kernel_rfl) (by kernel_rfl) rfl rfl ?_
  simp only [go_sem, ti3, ti4, ti32, ti39, ti41, ti31, ti96, ti87, ti29, ti22, ti26, ti23, ti202, ti143, ti238, ti271, Int.natCast_zero]; refine hK _ _ ?_; clear hK K
  refine Wc.cond (t := false) (by simp only [go_sem, ti3, ti4, ti32, ti39, ti41, ti31, ti96, ti87, ti29, ti22, ti26, ti23, ti202, ti143, ti238, ti271, Int.natCast_zero, bne_self_eq_false]) (fun hc => by cases hc) (fun _ => Wc.skip ?_)
  refine Wc.seq ?_
  refine Wc.reg fun K hK => ?_; simp only [go_sem, ti3, ti4, ti32, ti39, ti41, ti31, ti96, ti87, ti29, ti22, ti26, ti23, ti202, ti143, ti238, ti271, Int.natCast_zero]; refine hK _ _ ?_; clear hK K
  refine Wc.seqR (fun y => ∃ k9, y.ds = [k9] ∧ Fs y.e 27 [(3, .v (.c (.ref 4 0)))] ∧ OA y.s.nx y.s [] [(k9, .defr), (4, .cells [.p (pI (incV l))] false)]) ?_ ?_
  · refine Wc.seq ?_
    refine Wc.reg fun K hK => ?_; simp only [go_sem, ti3, ti4, ti32, ti39, ti41, ti31, ti96, ti87, ti29, ti22, ti26, ti23, ti202, ti143, ti238, ti271, Int.natCast_zero]
    refine call219 (M := [(4, .cells [.p (pI 0)] false)]) (L := []) (by (try simp only [St.nx_put, St.nx_adv]); repeat (first | exact OA.mono s00_oa (by omega) | refine OA.newB ?_ (by omega) rfl | refine OA.putB ?_ (by omega) | refine OA.advB ?_)) fun s2 ho hnx => ?_
    simp only [go_sem, ti3, ti4, ti32, ti39, ti41, ti31, ti96, ti87, ti29, ti22, ti26, ti23, ti202, ti143, ti238, ti271, Int.natCast_zero]; refine hK _ _ ?_; clear hK K
    refine Wc.block ?_
    have h0 : incV (l.take 1) = 0 := by
      cases l with
      | nil => rfl
      | cons a r => rfl
    refine Wc.iter (iter252 (l := l) (r := 8) (fr := false) (by omega)) (fun i L M => L = [] ∧ M = (8, .cells [.p (.lst l.length (l.flatMap p2))] false) :: [(4, .cells [.p (pI (incV (l.take (i + 1))))] false)]) (by simp only [go_sem, ti3, ti4, ti32, ti39, ti41, ti31, ti96, ti87, ti29, ti22, ti26, ti23, ti202, ti143, ti238, ti271, Int.natCast_zero]) ho ⟨rfl, by rw [h0]; rfl⟩ ?_ ?_ ?_ ?_
    · rintro i L M s ⟨rfl, rfl⟩ hM
      exact hM (8, _) (List.mem_cons_self ..)
    · rintro i k a ⟨x, y, rfl, _⟩; rfl
    · rintro i k aa lp s L M ⟨x, y, rfl, hx, hy, rfl⟩ ⟨rfl, rfl⟩ hos
      have ht := incV_take l i x y hx hy
      have hbx := hb x (List.mem_of_getElem? hx)
      have hby := hb y (List.mem_of_getElem? hy)
      obtain ⟨b1, b2⟩ := incV_bnd (l.take (i + 1)) (fun z hz => hb z (List.mem_of_mem_take hz))
      have hl2 : (l.take (i + 1)).length ≤ 2000 := by simp; omega
      rw [ht]
      generalize incV (l.take (i + 1)) = V at *
      simp only [setAll, List.zip_cons_cons, List.zip_nil_right]
      refine Wc.seq ?_
      refine Wc.reg fun K hK => ?_; simp only [go_sem, ti3, ti4, ti32, ti39, ti41, ti31, ti96, ti87, ti29, ti22, ti26, ti23, ti202, ti143, ti238, ti271, Int.natCast_zero]; refine hK _ _ ?_; clear hK K
      refine Wc.reg fun K hK => ?_; simp only [go_sem, ti3, ti4, ti32, ti39, ti41, ti31, ti96, ti87, ti29, ti22, ti26, ti23, ti202, ti143, ti238, ti271, Int.natCast_zero]; refine hK _ _ ?_; clear hK K
      refine ⟨rfl, [], [(s.nx + 2, .cells ((p2 y).map .p) false), (s.nx, .cells ((p2 x).map .p) false), (8, .cells [.p (.lst l.length (l.flatMap p2))] false), (4, .cells [.p (pI V)] false)], ?_, fun lq s' hos' => ?_⟩
      · refine OA.rot (A := [(s.nx + 2, .cells ((p2 y).map .p) false), (s.nx, .cells ((p2 x).map .p) false)]) (B := [_, _]) (M := [_, _]) ?_
        exact by (try simp only [St.nx_put, St.nx_adv]); repeat (first | exact OA.mono hos (by omega) | refine OA.newB ?_ (by omega) rfl | refine OA.putB ?_ (by omega) | refine OA.advB ?_)
      have g4 := hos'.at_ (4, .cells [.p (pI V)] false) (by simp)
      have gx := hos'.at_ (s.nx, .cells ((p2 x).map .p) false) (by simp)
      have gy := hos'.at_ (s.nx + 2, .cells ((p2 y).map .p) false) (by simp)
      simp only [List.map_cons, List.map_nil] at gx gy
      have n4 : (4 = s.nx) = False := by have := hos.lt (hos.at_ (4, .cells [.p (pI V)] false) (by simp)); simp; omega
      have n4' : (4 = s.nx + 2) = False := by have := hos.lt (hos.at_ (4, .cells [.p (pI V)] false) (by simp)); simp; omega
      obtain ⟨_, x1, x2⟩ := hbx
      obtain ⟨_, y1, y2⟩ := hby
      have x3 := x2 rfl
      have y3 := y2 rfl
      have e1 : IntKind.i64.wrap (V + y.2) = V + y.2 := by rw [wi64]; omega
      have e2 : IntKind.i64.wrap (V + y.2 - x.2) = V + y.2 - x.2 := by rw [wi64]; omega
      have h1 := hos'.sub (List.Sublist.refl _) ((((List.Sublist.refl [((8 : Nat), Ob.cells [.p (.lst l.length (l.flatMap p2))] false), (4, .cells [.p (pI V)] false)]).cons (s.nx, .cells ((p2 x).map .p) false)).cons (s.nx + 2, .cells ((p2 y).map .p) false)).cons_cons (s2.nx + 1, .defr) |>.cons_cons (s2.nx, .loop lq))
      refine Wc.block (Wc.seq ?_)
      refine Wc.reg fun K hK => ?_; simp only [go_sem, ti3, ti4, ti32, ti39, ti41, ti31, ti96, ti87, ti29, ti22, ti26, ti23, ti202, ti143, ti238, ti271, Int.natCast_zero, g4, gx, gy, n4, n4', e1]; refine hK _ _ ?_; clear hK K
      refine Wc.seq ?_
      refine Wc.reg fun K hK => ?_; simp only [go_sem, ti3, ti4, ti32, ti39, ti41, ti31, ti96, ti87, ti29, ti22, ti26, ti23, ti202, ti143, ti238, ti271, Int.natCast_zero, g4, gx, gy, n4, n4']; refine hK _ _ ?_; clear hK K
      refine Wc.cond (t := decide (x.2 ≤ y.2)) (by simp only [go_sem, ti3, ti4, ti32, ti39, ti41, ti31, ti96, ti87, ti29, ti22, ti26, ti23, ti202, ti143, ti238, ti271, Int.natCast_zero]) (fun hc => ?_) (fun hc => ?_)
      · have hle : x.2 ≤ y.2 := of_decide_eq_true hc
        have hst : V + y.2 - x.2 = V + stepV x.2 y.2 := by unfold stepV; rw [if_neg (by omega)]; omega
        refine Wc.reg fun K hK => ?_; simp only [go_sem, ti3, ti4, ti32, ti39, ti41, ti31, ti96, ti87, ti29, ti22, ti26, ti23, ti202, ti143, ti238, ti271, Int.natCast_zero, g4, gx, gy, n4, n4', e2, St.put_put]; refine hK _ _ ?_; clear hK K
        rw [hst]
        exact ⟨rfl, [], _, by (try simp only [St.nx_put, St.nx_adv]); (repeat refine OA.advB ?_); refine OA.ofS (M1 := [_, _, _]) ?_; repeat (first | exact ⟨_, OA.mono h1 (by omega)⟩ | refine OAs.adv ?_ | refine OAs.put ?_ | refine OAs.putB ?_ (by omega)), rfl, rfl⟩
      · have hle : ¬ x.2 ≤ y.2 := of_decide_eq_false hc
        have hst : V + y.2 = V + stepV x.2 y.2 := by unfold stepV; rw [if_pos (by omega)]
        refine Wc.skip ?_
        rw [hst]
        exact ⟨rfl, [], _, by (try simp only [St.nx_put, St.nx_adv]); (repeat refine OA.advB ?_); refine OA.ofS (M1 := [_, _, _]) ?_; repeat (first | exact ⟨_, OA.mono h1 (by omega)⟩ | refine OAs.adv ?_ | refine OAs.put ?_ | refine OAs.putB ?_ (by omega)), rfl, rfl⟩
    · rintro L M s3 hos ⟨rfl, rfl⟩
      have hl9 : l.take (l.length - 1 + 1) = l := List.take_of_length_le (by omega)
      rw [hl9] at hos
      refine ⟨s2.nx + 1, rfl, by simp only [Fs, Int.natCast_zero, go_sem, ti3, ti4, ti32, ti39, ti41, ti31, ti96, ti87, ti29, ti22, ti26, ti23, ti202, ti143, ti238, ti271, Int.natCast_zero], ?_⟩
      exact hos.sub (List.Sublist.refl _) (((List.Sublist.refl _).cons _).cons_cons _)
  · rintro ⟨e, ds, s1⟩ ⟨k9, rfl, hF, ho⟩
    simp only [Fs] at hF ho
    have g4 := ho.at_ (4, .cells [.p (pI (incV l))] false) (by simp)
    have g9 := ho.at_ (k9, .defr) (by simp)
    refine Wc.seq ?_
    refine Wc.reg fun K hK => ?_; simp only [go_sem, ti3, ti4, ti32, ti39, ti41, ti31, ti96, ti87, ti29, ti22, ti26, ti23, ti202, ti143, ti238, ti271, Int.natCast_zero, hF, g4]; refine hK _ _ ?_; clear hK K
    exact Wc.ret (Pf.ret1 [.tmp 2] [.c (.p (pI (incV l)))] rfl g9 rfl (by simp only [resultsD, go_sem, ti3, ti4, ti32, ti39, ti41, ti31, ti96, ti87, ti29, ti22, ti26, ti23, ti202, ti143, ti238, ti271, Int.natCast_zero, hF]) rfl)
end Go.Proofs.YtedcnhbblgmdnaaGreat.Ab
