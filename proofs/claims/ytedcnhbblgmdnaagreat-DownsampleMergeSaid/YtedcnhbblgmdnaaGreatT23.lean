/- A part of the proof: an evaluator of the code, its contracts, the law. No condition. -/
import Derived.Test.YtedcnhbblgmdnaaGreatT22
import Derived.Test.YtedcnhbblgmdnaaGreatT20
namespace Go.Proofs.YtedcnhbblgmdnaaGreat.Ab
set_option maxHeartbeats 8000000
set_option maxRecDepth 10000
set_option linter.unusedSimpArgs false
set_option linter.unusedVariables false
theorem o106 : E0.opn 106 = false := by kernel_rfl
theorem x106 : E0.xt 106 = none := by kernel_rfl
theorem rfBks_step {k w : Int} {l : List Bkt} {i : Nat} {b : Bkt} (h : l[i]? = some b) : rfBks k w (prevS l i) (l.drop i) = (!(!rfBk k w b || decide (b.st ≤ prevS l i)) && rfBks k w (prevS l (i + 1)) (l.drop (i + 1))) := by
  have hi := (List.getElem?_eq_some_iff.1 h).1
  have hx := (List.getElem?_eq_some_iff.1 h).2
  have hp : prevS l (i + 1) = b.st := by simp [prevS, h]
  rw [List.drop_eq_getElem_cons hi, hx, hp]
  rfl
/-- 50: the reference's CheckRollup -/
theorem pf54 (x : Rlp) (hlb : x.lb.length < 2^40) (hls : ∀ y ∈ x.lb, y.1.length < 2^50 ∧ y.2.length < 2^50) : Pf E0 54 [.agg (x.pd.map .p)] (P' (.bool (rlpOK x))) := by
  have hfl : (x.bs.flatMap Bkt.pd).length = x.bs.length * 10 := flat_len (k := 10) (fun _ => rfl) _
  have hR : (!(((lckA x.lb != 0) || ((x.k != 1) && (x.k != 2))) || (decide (x.w < 1) || decide (1099511627776 < x.w) || ((x.bs.length : Int) == 0) || decide ((2000 : Int) < x.bs.length))) && bksOK x.k x.w (-1) x.bs) = rlpOK x := by unfold rlpOK; rw [Bool.not_or, Bool.and_assoc]
  generalize rlpOK x = R at hR ⊢
  refine Pf.body (fn := Tryz.f54) (by kernel_rfl) rfl ?_; simp only [List.map_cons, List.map_nil, List.cons_append, List.nil_append, List.length_cons, List.length_nil, Tryz.ntmps54, List.replicate, Nat.reduceSub, Nat.reduceAdd]
  refine Wc.seq ?_
  refine Wc.reg fun K hK => ?_; simp only [go_sem, ti3, ti4, ti9, ti22, ti94, ti96, ti32, ti29, ti31, ti41, ti158, ti212, ti155]; refine hK _ _ ?_; clear hK K
  refine Wc.seqR (fun y => ((((lckA x.lb != 0) || ((x.k != 1) && (x.k != 2))) || (decide (x.w < 1) || decide (1099511627776 < x.w) || ((x.bs.length : Int) == 0) || decide ((2000 : Int) < x.bs.length))) = false ∧ (x.k = 1 ∨ x.k = 2) ∧ (1 ≤ x.w ∧ x.w ≤ 1099511627776) ∧ x.bs.length ≤ 2000) ∧ y.ds = [] ∧ Fs y.e 78 [(1, .v (.c (.ref 0 0)))] ∧ OA y.s.nx y.s [] [(0, .cells (x.pd.map .p) false)]) ?_ ?_
  · refine Wc.seq ?_
    have bad : (((lckA x.lb != 0) || ((x.k != 1) && (x.k != 2))) || (decide (x.w < 1) || decide (1099511627776 < x.w) || ((x.bs.length : Int) == 0) || decide ((2000 : Int) < x.bs.length))) = true → false = R := fun h => by rw [← hR, h]; rfl
    have p := pf92 x.lb hlb hls
    rcases Bool.eq_false_or_eq_true (lckA x.lb != 0) with z1 | z1
    · refine Wc.reg fun K hK => ?_; simp only [go_sem, ti3, ti4, ti9, ti22, ti94, ti96, ti32, ti29, ti31, ti41, ti158, ti212, ti155]
      refine wpCall.pf p (by kernel_rfl) (by kernel_rfl) rfl rfl ?_
      simp only [go_sem, ti3, ti4, ti9, ti22, ti94, ti96, ti32, ti29, ti31, ti41, ti158, ti212, ti155, z1]; refine hK _ _ ?_; clear hK K
      refine Wc.cond (t := true) (by simp only [go_sem, ti3, ti4, ti9, ti22, ti94, ti96, ti32, ti29, ti31, ti41, ti158, ti212, ti155, z1]) (fun _ => ?_) (fun hc => by cases hc)
      refine Wc.seq ?_
      refine Wc.reg fun K hK => ?_; simp only [go_sem, ti3, ti4, ti9, ti22, ti94, ti96, ti32, ti29, ti31, ti41, ti158, ti212, ti155]; refine hK _ _ ?_; clear hK K
      rw [← bad (by simp only [z1]; rfl)]
      exact Wc.ret (Pf.ret [.tmp 2] [.c (.p (.bool false))] rfl rfl (by simp only [resultsD, go_sem, ti3, ti4, ti9, ti22, ti94, ti96, ti32, ti29, ti31, ti41, ti158, ti212, ti155]) rfl)
    rcases Bool.eq_false_or_eq_true (x.k != 1) with z2 | z2
    · rcases Bool.eq_false_or_eq_true (x.k != 2) with z3 | z3
      · refine Wc.reg fun K hK => ?_; simp only [go_sem, ti3, ti4, ti9, ti22, ti94, ti96, ti32, ti29, ti31, ti41, ti158, ti212, ti155]
        refine wpCall.pf p (by kernel_rfl) (by kernel_rfl) rfl rfl ?_
        simp only [go_sem, ti3, ti4, ti9, ti22, ti94, ti96, ti32, ti29, ti31, ti41, ti158, ti212, ti155, z1, z2, z3]; refine hK _ _ ?_; clear hK K
        refine Wc.cond (t := true) (by simp only [go_sem, ti3, ti4, ti9, ti22, ti94, ti96, ti32, ti29, ti31, ti41, ti158, ti212, ti155, z1, z2, z3]) (fun _ => ?_) (fun hc => by cases hc)
        refine Wc.seq ?_
        refine Wc.reg fun K hK => ?_; simp only [go_sem, ti3, ti4, ti9, ti22, ti94, ti96, ti32, ti29, ti31, ti41, ti158, ti212, ti155]; refine hK _ _ ?_; clear hK K
        rw [← bad (by simp only [z1, z2, z3]; rfl)]
        exact Wc.ret (Pf.ret [.tmp 2] [.c (.p (.bool false))] rfl rfl (by simp only [resultsD, go_sem, ti3, ti4, ti9, ti22, ti94, ti96, ti32, ti29, ti31, ti41, ti158, ti212, ti155]) rfl)
      rcases Bool.eq_false_or_eq_true (decide (x.w < 1)) with w1 | w1
      · refine Wc.reg fun K hK => ?_; simp only [go_sem, ti3, ti4, ti9, ti22, ti94, ti96, ti32, ti29, ti31, ti41, ti158, ti212, ti155]
        refine wpCall.pf p (by kernel_rfl) (by kernel_rfl) rfl rfl ?_
        simp only [go_sem, ti3, ti4, ti9, ti22, ti94, ti96, ti32, ti29, ti31, ti41, ti158, ti212, ti155, z1, z2, z3, w1]; refine hK _ _ ?_; clear hK K
        refine Wc.cond (t := true) (by simp only [go_sem, ti3, ti4, ti9, ti22, ti94, ti96, ti32, ti29, ti31, ti41, ti158, ti212, ti155, z1, z2, z3, w1]) (fun _ => ?_) (fun hc => by cases hc)
        refine Wc.seq ?_
        refine Wc.reg fun K hK => ?_; simp only [go_sem, ti3, ti4, ti9, ti22, ti94, ti96, ti32, ti29, ti31, ti41, ti158, ti212, ti155]; refine hK _ _ ?_; clear hK K
        rw [← bad (by simp only [z1, z2, z3, w1]; rfl)]
        exact Wc.ret (Pf.ret [.tmp 2] [.c (.p (.bool false))] rfl rfl (by simp only [resultsD, go_sem, ti3, ti4, ti9, ti22, ti94, ti96, ti32, ti29, ti31, ti41, ti158, ti212, ti155]) rfl)
      rcases Bool.eq_false_or_eq_true (decide (1099511627776 < x.w)) with w2 | w2
      · refine Wc.reg fun K hK => ?_; simp only [go_sem, ti3, ti4, ti9, ti22, ti94, ti96, ti32, ti29, ti31, ti41, ti158, ti212, ti155]
        refine wpCall.pf p (by kernel_rfl) (by kernel_rfl) rfl rfl ?_
        simp only [go_sem, ti3, ti4, ti9, ti22, ti94, ti96, ti32, ti29, ti31, ti41, ti158, ti212, ti155, z1, z2, z3, w1, w2]; refine hK _ _ ?_; clear hK K
        refine Wc.cond (t := true) (by simp only [go_sem, ti3, ti4, ti9, ti22, ti94, ti96, ti32, ti29, ti31, ti41, ti158, ti212, ti155, z1, z2, z3, w1, w2]) (fun _ => ?_) (fun hc => by cases hc)
        refine Wc.seq ?_
        refine Wc.reg fun K hK => ?_; simp only [go_sem, ti3, ti4, ti9, ti22, ti94, ti96, ti32, ti29, ti31, ti41, ti158, ti212, ti155]; refine hK _ _ ?_; clear hK K
        rw [← bad (by simp only [z1, z2, z3, w1, w2]; rfl)]
        exact Wc.ret (Pf.ret [.tmp 2] [.c (.p (.bool false))] rfl rfl (by simp only [resultsD, go_sem, ti3, ti4, ti9, ti22, ti94, ti96, ti32, ti29, ti31, ti41, ti158, ti212, ti155]) rfl)
      rcases Bool.eq_false_or_eq_true ((x.bs.length : Int) == 0) with w3 | w3
      · refine Wc.reg fun K hK => ?_; simp only [go_sem, ti3, ti4, ti9, ti22, ti94, ti96, ti32, ti29, ti31, ti41, ti158, ti212, ti155]
        refine wpCall.pf p (by kernel_rfl) (by kernel_rfl) rfl rfl ?_
        simp only [go_sem, ti3, ti4, ti9, ti22, ti94, ti96, ti32, ti29, ti31, ti41, ti158, ti212, ti155, z1, z2, z3, w1, w2, w3]; refine hK _ _ ?_; clear hK K
        refine Wc.cond (t := true) (by simp only [go_sem, ti3, ti4, ti9, ti22, ti94, ti96, ti32, ti29, ti31, ti41, ti158, ti212, ti155, z1, z2, z3, w1, w2, w3]) (fun _ => ?_) (fun hc => by cases hc)
        refine Wc.seq ?_
        refine Wc.reg fun K hK => ?_; simp only [go_sem, ti3, ti4, ti9, ti22, ti94, ti96, ti32, ti29, ti31, ti41, ti158, ti212, ti155]; refine hK _ _ ?_; clear hK K
        rw [← bad (by simp only [z1, z2, z3, w1, w2, w3]; rfl)]
        exact Wc.ret (Pf.ret [.tmp 2] [.c (.p (.bool false))] rfl rfl (by simp only [resultsD, go_sem, ti3, ti4, ti9, ti22, ti94, ti96, ti32, ti29, ti31, ti41, ti158, ti212, ti155]) rfl)
      rcases Bool.eq_false_or_eq_true (decide ((2000 : Int) < x.bs.length)) with w4 | w4
      · refine Wc.reg fun K hK => ?_; simp only [go_sem, ti3, ti4, ti9, ti22, ti94, ti96, ti32, ti29, ti31, ti41, ti158, ti212, ti155]
        refine wpCall.pf p (by kernel_rfl) (by kernel_rfl) rfl rfl ?_
        simp only [go_sem, ti3, ti4, ti9, ti22, ti94, ti96, ti32, ti29, ti31, ti41, ti158, ti212, ti155, z1, z2, z3, w1, w2, w3, w4]; refine hK _ _ ?_; clear hK K
        refine Wc.cond (t := true) (by simp only [go_sem, ti3, ti4, ti9, ti22, ti94, ti96, ti32, ti29, ti31, ti41, ti158, ti212, ti155, z1, z2, z3, w1, w2, w3, w4]) (fun _ => ?_) (fun hc => by cases hc)
        refine Wc.seq ?_
        refine Wc.reg fun K hK => ?_; simp only [go_sem, ti3, ti4, ti9, ti22, ti94, ti96, ti32, ti29, ti31, ti41, ti158, ti212, ti155]; refine hK _ _ ?_; clear hK K
        rw [← bad (by simp only [z1, z2, z3, w1, w2, w3, w4]; rfl)]
        exact Wc.ret (Pf.ret [.tmp 2] [.c (.p (.bool false))] rfl rfl (by simp only [resultsD, go_sem, ti3, ti4, ti9, ti22, ti94, ti96, ti32, ti29, ti31, ti41, ti158, ti212, ti155]) rfl)
      refine Wc.reg fun K hK => ?_; simp only [go_sem, ti3, ti4, ti9, ti22, ti94, ti96, ti32, ti29, ti31, ti41, ti158, ti212, ti155]
      refine wpCall.pf p (by kernel_rfl) (by kernel_rfl) rfl rfl ?_
      simp only [go_sem, ti3, ti4, ti9, ti22, ti94, ti96, ti32, ti29, ti31, ti41, ti158, ti212, ti155, z1, z2, z3, w1, w2, w3, w4]; refine hK _ _ ?_; clear hK K
      refine Wc.cond (t := false) (by simp only [go_sem, ti3, ti4, ti9, ti22, ti94, ti96, ti32, ti29, ti31, ti41, ti158, ti212, ti155, z1, z2, z3, w1, w2, w3, w4]) (fun hc => by cases hc) (fun _ => Wc.skip ?_)
      exact ⟨⟨by simp only [z1, z2, z3, w1, w2, w3, w4]; rfl, .inr (by simpa using z3), ⟨by have := of_decide_eq_false w1; omega, by have := of_decide_eq_false w2; omega⟩, by have := of_decide_eq_false w4; omega⟩, rfl, by simp only [Fs, Int.natCast_zero, go_sem, ti3, ti4, ti9, ti22, ti94, ti96, ti32, ti29, ti31, ti41, ti158, ti212, ti155], by (try simp only [St.nx_put, St.nx_adv]); repeat (first | exact OA.mono s00_oa (by omega) | refine OA.newB ?_ (by omega) rfl | refine OA.advB ?_)⟩
    · rcases Bool.eq_false_or_eq_true (decide (x.w < 1)) with w1 | w1
      · refine Wc.reg fun K hK => ?_; simp only [go_sem, ti3, ti4, ti9, ti22, ti94, ti96, ti32, ti29, ti31, ti41, ti158, ti212, ti155]
        refine wpCall.pf p (by kernel_rfl) (by kernel_rfl) rfl rfl ?_
        simp only [go_sem, ti3, ti4, ti9, ti22, ti94, ti96, ti32, ti29, ti31, ti41, ti158, ti212, ti155, z1, z2, w1]; refine hK _ _ ?_; clear hK K
        refine Wc.cond (t := true) (by simp only [go_sem, ti3, ti4, ti9, ti22, ti94, ti96, ti32, ti29, ti31, ti41, ti158, ti212, ti155, z1, z2, w1]) (fun _ => ?_) (fun hc => by cases hc)
        refine Wc.seq ?_
        refine Wc.reg fun K hK => ?_; simp only [go_sem, ti3, ti4, ti9, ti22, ti94, ti96, ti32, ti29, ti31, ti41, ti158, ti212, ti155]; refine hK _ _ ?_; clear hK K
        rw [← bad (by simp only [z1, z2, w1]; rfl)]
        exact Wc.ret (Pf.ret [.tmp 2] [.c (.p (.bool false))] rfl rfl (by simp only [resultsD, go_sem, ti3, ti4, ti9, ti22, ti94, ti96, ti32, ti29, ti31, ti41, ti158, ti212, ti155]) rfl)
      rcases Bool.eq_false_or_eq_true (decide (1099511627776 < x.w)) with w2 | w2
      · refine Wc.reg fun K hK => ?_; simp only [go_sem, ti3, ti4, ti9, ti22, ti94, ti96, ti32, ti29, ti31, ti41, ti158, ti212, ti155]
        refine wpCall.pf p (by kernel_rfl) (by kernel_rfl) rfl rfl ?_
        simp only [go_sem, ti3, ti4, ti9, ti22, ti94, ti96, ti32, ti29, ti31, ti41, ti158, ti212, ti155, z1, z2, w1, w2]; refine hK _ _ ?_; clear hK K
        refine Wc.cond (t := true) (by simp only [go_sem, ti3, ti4, ti9, ti22, ti94, ti96, ti32, ti29, ti31, ti41, ti158, ti212, ti155, z1, z2, w1, w2]) (fun _ => ?_) (fun hc => by cases hc)
        refine Wc.seq ?_
        refine Wc.reg fun K hK => ?_; simp only [go_sem, ti3, ti4, ti9, ti22, ti94, ti96, ti32, ti29, ti31, ti41, ti158, ti212, ti155]; refine hK _ _ ?_; clear hK K
        rw [← bad (by simp only [z1, z2, w1, w2]; rfl)]
        exact Wc.ret (Pf.ret [.tmp 2] [.c (.p (.bool false))] rfl rfl (by simp only [resultsD, go_sem, ti3, ti4, ti9, ti22, ti94, ti96, ti32, ti29, ti31, ti41, ti158, ti212, ti155]) rfl)
      rcases Bool.eq_false_or_eq_true ((x.bs.length : Int) == 0) with w3 | w3
      · refine Wc.reg fun K hK => ?_; simp only [go_sem, ti3, ti4, ti9, ti22, ti94, ti96, ti32, ti29, ti31, ti41, ti158, ti212, ti155]
        refine wpCall.pf p (by kernel_rfl) (by kernel_rfl) rfl rfl ?_
        simp only [go_sem, ti3, ti4, ti9, ti22, ti94, ti96, ti32, ti29, ti31, ti41, ti158, ti212, ti155, z1, z2, w1, w2, w3]; refine hK _ _ ?_; clear hK K
        refine Wc.cond (t := true) (by simp only [go_sem, ti3, ti4, ti9, ti22, ti94, ti96, ti32, ti29, ti31, ti41, ti158, ti212, ti155, z1, z2, w1, w2, w3]) (fun _ => ?_) (fun hc => by cases hc)
        refine Wc.seq ?_
        refine Wc.reg fun K hK => ?_; simp only [go_sem, ti3, ti4, ti9, ti22, ti94, ti96, ti32, ti29, ti31, ti41, ti158, ti212, ti155]; refine hK _ _ ?_; clear hK K
        rw [← bad (by simp only [z1, z2, w1, w2, w3]; rfl)]
        exact Wc.ret (Pf.ret [.tmp 2] [.c (.p (.bool false))] rfl rfl (by simp only [resultsD, go_sem, ti3, ti4, ti9, ti22, ti94, ti96, ti32, ti29, ti31, ti41, ti158, ti212, ti155]) rfl)
      rcases Bool.eq_false_or_eq_true (decide ((2000 : Int) < x.bs.length)) with w4 | w4
      · refine Wc.reg fun K hK => ?_; simp only [go_sem, ti3, ti4, ti9, ti22, ti94, ti96, ti32, ti29, ti31, ti41, ti158, ti212, ti155]
        refine wpCall.pf p (by kernel_rfl) (by kernel_rfl) rfl rfl ?_
        simp only [go_sem, ti3, ti4, ti9, ti22, ti94, ti96, ti32, ti29, ti31, ti41, ti158, ti212, ti155, z1, z2, w1, w2, w3, w4]; refine hK _ _ ?_; clear hK K
        refine Wc.cond (t := true) (by simp only [go_sem, ti3, ti4, ti9, ti22, ti94, ti96, ti32, ti29, ti31, ti41, ti158, ti212, ti155, z1, z2, w1, w2, w3, w4]) (fun _ => ?_) (fun hc => by cases hc)
        refine Wc.seq ?_
        refine Wc.reg fun K hK => ?_; simp only [go_sem, ti3, ti4, ti9, ti22, ti94, ti96, ti32, ti29, ti31, ti41, ti158, ti212, ti155]; refine hK _ _ ?_; clear hK K
        rw [← bad (by simp only [z1, z2, w1, w2, w3, w4]; rfl)]
        exact Wc.ret (Pf.ret [.tmp 2] [.c (.p (.bool false))] rfl rfl (by simp only [resultsD, go_sem, ti3, ti4, ti9, ti22, ti94, ti96, ti32, ti29, ti31, ti41, ti158, ti212, ti155]) rfl)
      refine Wc.reg fun K hK => ?_; simp only [go_sem, ti3, ti4, ti9, ti22, ti94, ti96, ti32, ti29, ti31, ti41, ti158, ti212, ti155]
      refine wpCall.pf p (by kernel_rfl) (by kernel_rfl) rfl rfl ?_
      simp only [go_sem, ti3, ti4, ti9, ti22, ti94, ti96, ti32, ti29, ti31, ti41, ti158, ti212, ti155, z1, z2, w1, w2, w3, w4]; refine hK _ _ ?_; clear hK K
      refine Wc.cond (t := false) (by simp only [go_sem, ti3, ti4, ti9, ti22, ti94, ti96, ti32, ti29, ti31, ti41, ti158, ti212, ti155, z1, z2, w1, w2, w3, w4]) (fun hc => by cases hc) (fun _ => Wc.skip ?_)
      exact ⟨⟨by simp only [z1, z2, w1, w2, w3, w4]; rfl, .inl (by simpa using z2), ⟨by have := of_decide_eq_false w1; omega, by have := of_decide_eq_false w2; omega⟩, by have := of_decide_eq_false w4; omega⟩, rfl, by simp only [Fs, Int.natCast_zero, go_sem, ti3, ti4, ti9, ti22, ti94, ti96, ti32, ti29, ti31, ti41, ti158, ti212, ti155], by (try simp only [St.nx_put, St.nx_adv]); repeat (first | exact OA.mono s00_oa (by omega) | refine OA.newB ?_ (by omega) rfl | refine OA.advB ?_)⟩
  rintro ⟨e, ds, s1⟩ ⟨⟨c1, hk, hw, hbl⟩, rfl, hF, ho⟩
  simp only [Fs] at hF ho
  rw [c1, ← rfBks_eq hk x.bs (-1) (by omega)] at hR
  have hR0 : rfBks x.k x.w (prevS x.bs 0) (x.bs.drop 0) = R := by rw [← hR]; rfl
  clear hR
  refine Wc.seqR (fun y => R = true ∧ y.ds = [] ∧ Fs y.e 78 []) ?_ ?_
  · refine Wc.seq ?_
    refine Wc.reg fun K hK => ?_; simp only [go_sem, ti3, ti4, ti9, ti22, ti94, ti96, ti32, ti29, ti31, ti41, ti158, ti212, ti155, hF]; refine hK _ _ ?_; clear hK K
    refine Wc.block (Wc.loop (fun c y => ∃ i : Nat, c = x.bs.length - i ∧ i ≤ x.bs.length ∧ y.ds = [] ∧ Fs y.e 78 [(1, .v (.c (.ref 0 0))), (3, P' (pI i))] ∧ OA y.s.nx y.s [] [(0, .cells (x.pd.map .p) false)] ∧ rfBks x.k x.w (prevS x.bs i) (x.bs.drop i) = R) ?_ (k := x.bs.length) ?_)
    · clear hF ho hR0 e s1
      rintro c ⟨e, ds, s1⟩ ⟨i, rfl, hi, rfl, hF, ho, hRi⟩
      simp only [Fs] at hF ho
      have g0 := ho.at_ (0, .cells (x.pd.map .p) false) (by simp)
      simp only [List.map_cons, List.map_nil] at g0
      refine Wc.seq (Wc.seq ?_)
      refine Wc.reg fun K hK => ?_; simp only [go_sem, ti3, ti4, ti9, ti22, ti94, ti96, ti32, ti29, ti31, ti41, ti158, ti212, ti155, hF, g0]; refine hK _ _ ?_; clear hK K
      refine Wc.cond (t := decide ((i : Int) < x.bs.length)) (by simp only [go_sem, ti3, ti4, ti9, ti22, ti94, ti96, ti32, ti29, ti31, ti41, ti158, ti212, ti155, hF]) (fun hc => ?_) (fun hc => ?_)
      · have hil : i < x.bs.length := by have := of_decide_eq_true hc; omega
        obtain ⟨b, hb⟩ : ∃ b, x.bs[i]? = some b := ⟨x.bs[i], List.getElem?_eq_getElem hil⟩
        have hix := ixA ti29 rfl ti41 (j := i) (m := x.bs.length) (cs := x.bs.flatMap Bkt.pd) hil hfl (by decide)
        have hca := rpA (off := i * 10) (drop_flat (f := Bkt.pd) (k := 10) (fun _ => rfl) hb) (by rw [hfl]; omega)
        rw [rfBks_step hb] at hRi
        have p := pf106 b x.k x.w hk hw
        refine Wc.skip (Wc.seqR (fun y => (!rfBk x.k x.w b || decide (b.st ≤ prevS x.bs i)) = false ∧ y.ds = [] ∧ Fs y.e 78 [(1, .v (.c (.ref 0 0))), (3, P' (pI i))] ∧ OA y.s.nx y.s [] [(0, .cells (x.pd.map .p) false)]) ?_ ?_)
        · refine Wc.block (Wc.seq ?_)
          cases hB : rfBk x.k x.w b with
          | false =>
            rw [hB] at p
            refine Wc.regD fun K hK => ?_; simp only [go_sem, ti3, ti4, ti9, ti22, ti94, ti96, ti32, ti29, ti31, ti41, ti158, ti212, ti155, hF, g0, hix, hca]
            refine ⟨by simp [o106, x106, plainD, plainV, plainC], ?_⟩
            refine wpCall.pf p (by kernel_rfl) (by kernel_rfl) rfl rfl ?_
            simp only [go_sem, ti3, ti4, ti9, ti22, ti94, ti96, ti32, ti29, ti31, ti41, ti158, ti212, ti155, hF, g0, hix, hca]; refine hK _ _ ?_; clear hK K
            refine Wc.cond (t := true) (by simp only [go_sem, ti3, ti4, ti9, ti22, ti94, ti96, ti32, ti29, ti31, ti41, ti158, ti212, ti155, hF]) (fun _ => ?_) (fun hc => by cases hc)
            refine Wc.seq ?_
            refine Wc.reg fun K hK => ?_; simp only [go_sem, ti3, ti4, ti9, ti22, ti94, ti96, ti32, ti29, ti31, ti41, ti158, ti212, ti155, hF]; refine hK _ _ ?_; clear hK K
            rw [← hRi, hB]
            exact Wc.ret (Pf.ret [.tmp 2] [.c (.p (.bool false))] rfl rfl (by simp only [resultsD, go_sem, ti3, ti4, ti9, ti22, ti94, ti96, ti32, ti29, ti31, ti41, ti158, ti212, ti155, hF]) rfl)
          | true =>
            rw [hB] at p
            by_cases hi0 : 0 < i
            · obtain ⟨a, ha⟩ : ∃ a, x.bs[i - 1]? = some a := ⟨x.bs[i - 1], List.getElem?_eq_getElem (by omega)⟩
              have hiy := ixA ti29 rfl ti41 (j := i - 1) (m := x.bs.length) (cs := x.bs.flatMap Bkt.pd) (by omega) hfl (by decide)
              have hcb := rpA (off := (i - 1) * 10) (drop_flat (f := Bkt.pd) (k := 10) (fun _ => rfl) ha) (by rw [hfl]; omega)
              have e1 : IntKind.i64.wrap ((i : Int) - 1) = ((i - 1 : Nat) : Int) := by rw [wi64]; omega
              have hd : (0 < (i : Int)) = True := by simp; omega
              have hpr : prevS x.bs i = a.st := by unfold prevS; rw [if_neg (by omega), ha]; rfl
              rw [hpr] at hRi ⊢
              refine Wc.regD fun K hK => ?_; simp only [go_sem, ti3, ti4, ti9, ti22, ti94, ti96, ti32, ti29, ti31, ti41, ti158, ti212, ti155, hF, g0, hix, hca, hiy, hcb, e1, hd]
              refine ⟨by simp [o106, x106, plainD, plainV, plainC], ?_⟩
              refine wpCall.pf p (by kernel_rfl) (by kernel_rfl) rfl rfl ?_
              simp only [go_sem, ti3, ti4, ti9, ti22, ti94, ti96, ti32, ti29, ti31, ti41, ti158, ti212, ti155, hF, g0, hix, hca, hiy, hcb, e1, hd]; refine hK _ _ ?_; clear hK K
              refine Wc.cond (t := decide (b.st ≤ a.st)) (by simp only [go_sem, ti3, ti4, ti9, ti22, ti94, ti96, ti32, ti29, ti31, ti41, ti158, ti212, ti155, hF]) (fun hc => ?_) (fun hc => ?_)
              · refine Wc.seq ?_
                refine Wc.reg fun K hK => ?_; simp only [go_sem, ti3, ti4, ti9, ti22, ti94, ti96, ti32, ti29, ti31, ti41, ti158, ti212, ti155, hF]; refine hK _ _ ?_; clear hK K
                rw [← hRi, hc, hB]
                exact Wc.ret (Pf.ret [.tmp 2] [.c (.p (.bool false))] rfl rfl (by simp only [resultsD, go_sem, ti3, ti4, ti9, ti22, ti94, ti96, ti32, ti29, ti31, ti41, ti158, ti212, ti155, hF]) rfl)
              · exact Wc.skip ⟨by rw [hc]; rfl, rfl, by simp only [Fs, Int.natCast_zero, go_sem, ti3, ti4, ti9, ti22, ti94, ti96, ti32, ti29, ti31, ti41, ti158, ti212, ti155, hF], by (try simp only [St.nx_put, St.nx_adv]); repeat (first | exact OA.mono ho (by omega) | refine OA.newB ?_ (by omega) rfl | refine OA.advB ?_)⟩
            · have hd : (0 < (i : Int)) = False := by simp; omega
              have hz : i = 0 := by omega
              have hs : 0 ≤ b.st := by
                rw [rfBk_eq hk] at hB
                simp only [Bool.and_eq_true, decide_eq_true_eq] at hB
                exact hB.1
              have hp : decide (b.st ≤ prevS x.bs i) = false := by subst hz; rw [show prevS x.bs 0 = -1 from rfl]; exact decide_eq_false (by omega)
              refine Wc.regD fun K hK => ?_; simp only [go_sem, ti3, ti4, ti9, ti22, ti94, ti96, ti32, ti29, ti31, ti41, ti158, ti212, ti155, hF, g0, hix, hca, hd]
              refine ⟨by simp [o106, x106, plainD, plainV, plainC], ?_⟩
              refine wpCall.pf p (by kernel_rfl) (by kernel_rfl) rfl rfl ?_
              simp only [go_sem, ti3, ti4, ti9, ti22, ti94, ti96, ti32, ti29, ti31, ti41, ti158, ti212, ti155, hF, g0, hix, hca, hd]; refine hK _ _ ?_; clear hK K
              refine Wc.cond (t := false) (by simp only [go_sem, ti3, ti4, ti9, ti22, ti94, ti96, ti32, ti29, ti31, ti41, ti158, ti212, ti155, hF]) (fun hc => by cases hc) (fun _ => Wc.skip ?_)
              exact ⟨by rw [hp]; rfl, rfl, by simp only [Fs, Int.natCast_zero, go_sem, ti3, ti4, ti9, ti22, ti94, ti96, ti32, ti29, ti31, ti41, ti158, ti212, ti155, hF], by (try simp only [St.nx_put, St.nx_adv]); repeat (first | exact OA.mono ho (by omega) | refine OA.newB ?_ (by omega) rfl | refine OA.advB ?_)⟩
        clear hF ho g0 e s1
        rintro ⟨e, ds, s1⟩ ⟨c3, rfl, hF, ho⟩
        simp only [Fs] at hF ho
        rw [c3] at hRi
        refine Wc.reg fun K hK => ?_; simp only [go_sem, ti3, ti4, ti9, ti22, ti94, ti96, ti32, ti29, ti31, ti41, ti158, ti212, ti155, hF, i64n i (by omega)]; refine hK _ _ ?_; clear hK K
        exact ⟨x.bs.length - (i + 1), by omega, i + 1, rfl, by omega, rfl, by simp only [Fs, Int.natCast_zero, go_sem, ti3, ti4, ti9, ti22, ti94, ti96, ti32, ti29, ti31, ti41, ti158, ti212, ti155, hF], by (try simp only [St.nx_put, St.nx_adv]); repeat (first | exact OA.mono ho (by omega) | refine OA.newB ?_ (by omega) rfl | refine OA.advB ?_), hRi⟩
      · have hil : i = x.bs.length := by have := of_decide_eq_false hc; omega
        subst hil
        rw [List.drop_length] at hRi
        exact Wc.exit ⟨hRi.symm, rfl, by simp only [Fs, Int.natCast_zero, go_sem, ti3, ti4, ti9, ti22, ti94, ti96, ti32, ti29, ti31, ti41, ti158, ti212, ti155, hF]⟩
    · exact ⟨0, rfl, by omega, rfl, by simp only [Fs, Int.natCast_zero, go_sem, ti3, ti4, ti9, ti22, ti94, ti96, ti32, ti29, ti31, ti41, ti158, ti212, ti155, hF], by (try simp only [St.nx_put, St.nx_adv]); repeat (first | exact OA.mono ho (by omega) | refine OA.newB ?_ (by omega) rfl | refine OA.advB ?_), hR0⟩
  clear hF ho e s1
  rintro ⟨e, ds, s1⟩ ⟨hRt, rfl, hF⟩
  simp only [Fs] at hF
  subst hRt
  refine Wc.seq ?_
  refine Wc.reg fun K hK => ?_; simp only [go_sem, ti3, ti4, ti9, ti22, ti94, ti96, ti32, ti29, ti31, ti41, ti158, ti212, ti155, hF]; refine hK _ _ ?_; clear hK K
  exact Wc.ret (Pf.ret [.tmp 2] [.c (.p (.bool true))] rfl rfl (by simp only [resultsD, go_sem, ti3, ti4, ti9, ti22, ti94, ti96, ti32, ti29, ti31, ti41, ti158, ti212, ti155, hF]) rfl)
end Go.Proofs.YtedcnhbblgmdnaaGreat.Ab
namespace Go.Proofs.YtedcnhbblgmdnaaGreat.Ab
set_option maxHeartbeats 8000000
set_option maxRecDepth 10000
set_option linter.unusedSimpArgs false
set_option linter.unusedVariables false
/-- The zone of a rollup. -/
def rlpZ (l : List Bkt) : Zo := match l with
  | [] => Zo.none
  | b :: r => ⟨(b :: r).length, b.ft, ((b :: r).getLast (by simp)).lt, (b :: r).foldl (fun m y => minI m y.mn) b.mn, (b :: r).foldl (fun m y => maxI m y.mx) b.mx⟩
def encR (x : Rlp) : D := if rlpOK x = false then .tup [noCh, .c (.p (pI 1))] else match packE x.bs bktCols with
  | none => .tup [noCh, .c (.p (pI 4))]
  | some ss => finE 6 (.lst x.lb.length (x.lb.flatMap lbP)) (rlpZ x.bs).pd (jn (appV (appV [] x.k).1 x.w).1 ss)
theorem thenD_ret0 {K : Fr → Prop} {Q : Ex → Fr → Prop} {y : Fr} (h : Q .ret y) : thenD K Q .ret y := h
theorem o98 : E0.opn 98 = true := by kernel_rfl
theorem x98 : E0.xt 98 = none := by kernel_rfl
theorem o99 : E0.opn 99 = false := by kernel_rfl
theorem x99 : E0.xt 99 = none := by kernel_rfl
theorem rlpOK_some {x : Rlp} (h : rlpOK x = true) : (x.k = 1 ∨ x.k = 2) ∧ (1 ≤ x.w ∧ x.w ≤ 1099511627776) ∧ x.bs ≠ [] ∧ x.bs.length ≤ 2000 := by
  unfold rlpOK at h
  simp only [Bool.and_eq_true, Bool.not_eq_true', Bool.or_eq_false_iff, decide_eq_false_iff_not, bne_eq_false_iff_eq, Bool.and_eq_false_iff, beq_eq_false_iff_ne] at h
  obtain ⟨⟨_, h1⟩, ⟨⟨⟨h2, h3⟩, h4⟩, h5⟩, _⟩ := h
  refine ⟨by rcases h1 with h | h; exact .inl (by simpa using h); exact .inr (by simpa using h), by omega, fun e => by rw [e] at h4; simp at h4, by omega⟩
theorem Own.purS {s : St} {es n : Nat} {c : C} {cs : List Pd} (h : Own s es (.v (.c c)) n cs) : Go.Proofs.YtedcnhbblgmdnaaGreat.Ab.purS c = some (.lst n cs) := by
  obtain ⟨hl, ⟨h1, h2⟩ | ⟨id, h1, _⟩⟩ := h
  · simp only [D.v.injEq, V.c.injEq] at h1
    subst h1 h2
    have : cs = [] := List.length_eq_zero_iff.1 (by simpa using hl)
    subst this; rfl
  · simp only [D.v.injEq, V.c.injEq] at h1
    subst h1; rfl
theorem purC_S {s : St} {c : C} {x : Pd} (h : purS c = some x) : purC s c = some (x, s) := by
  cases c <;> first | (simp only [purS] at h; cases h; rfl) | cases h
theorem purC_p (s : St) (x : Pd) : purC s (.p x) = some (x, s) := rfl
theorem purVs_5 {c : C} {y : Pd} (h : purS c = some y) (s : St) {p0 p1 p2 : Pd} {z0 z1 z2 z3 z4 z5 z6 z7 z8 z9 z10 z11 z12 : Pd} : purVs s [.c (.p p0), .c (.p p1), .agg [.p z0, .p z1, .p z2, .p z3, .p z4, .p z5, .p z6, .p z7, .p z8, .p z9, .p z10, .p z11, .p z12], .c (.p p2), .c c] =
    some ([.c (.p p0), .c (.p p1), .agg [.p z0, .p z1, .p z2, .p z3, .p z4, .p z5, .p z6, .p z7, .p z8, .p z9, .p z10, .p z11, .p z12], .c (.p p2), .c (.p y)], s) := by
  simp only [purVs, purV, purCs, purC_p, purC_S h, List.map_cons, List.map_nil]
theorem purNo (s : St) : purD s (packD [noCh, .c (.p (pI 4))]) = some (.tup [noCh, .c (.p (pI 4))], s) := rfl
theorem purCh (s : St) (n : Nat) (cs : List Pd) (z : Zo) (d : List UInt8) : purD s (packD [chV 6 (.lst n cs) z.pd d, .c (.p (pI 0))]) = some (.tup [chV 6 (.lst n cs) z.pd d, .c (.p (pI 0))], s) := rfl
/-- 15: EncodeRollup -/
theorem pf51 (x : Rlp) (hlb : x.lb.length < 2^40) (hls : ∀ y ∈ x.lb, y.1.length < 2^50 ∧ y.2.length < 2^50) : Pf E0 51 [.agg (x.pd.map .p)] (encR x) := by
  have hfl : (x.bs.flatMap Bkt.pd).length = x.bs.length * 10 := flat_len (k := 10) (fun _ => rfl) _
  have p46 := pf97 x hlb hls
  unfold encR
  refine Pf.body (fn := Tryz.f51) (by kernel_rfl) rfl ?_; simp only [List.map_cons, List.map_nil, List.cons_append, List.nil_append, List.length_cons, List.length_nil, Tryz.ntmps51, List.replicate, Nat.reduceSub, Nat.reduceAdd]
  refine Wc.seq ?_
  refine Wc.reg fun K hK => ?_; simp only [go_sem, ti3, ti4, ti9, ti22, ti94, ti96, ti32, ti29, ti31, ti41, ti158, ti155]; refine hK _ _ ?_; clear hK K
  cases hok : rlpOK x with
  | false =>
    rw [hok] at p46
    rw [if_pos rfl]
    refine Wc.seq (Wc.seq ?_)
    refine Wc.reg fun K hK => ?_; simp only [go_sem, ti3, ti4, ti9, ti22, ti94, ti96, ti32, ti29, ti31, ti41, ti158, ti155]
    refine wpCall.pf p46 (by kernel_rfl) (by kernel_rfl) rfl rfl ?_
    simp only [go_sem, ti3, ti4, ti9, ti22, ti94, ti96, ti32, ti29, ti31, ti41, ti158, ti155]; refine hK _ _ ?_; clear hK K
    refine Wc.cond (t := true) (by simp only [go_sem, ti3, ti4, ti9, ti22, ti94, ti96, ti32, ti29, ti31, ti41, ti158, ti155]) (fun _ => ?_) (fun hc => by cases hc)
    refine Wc.seq ?_
    refine Wc.reg fun K hK => ?_; simp only [go_sem, ti3, ti4, ti9, ti22, ti94, ti96, ti32, ti29, ti31, ti41, ti158, ti155]; refine hK _ _ ?_; clear hK K
    exact Wc.ret (Pf.ret [.cell 2 96, .tmp 3] [.agg ([.p (pI 0), .nils] ++ zz0.map .p ++ [.p (.str [])]), .c (.p (pI 1))] rfl rfl (by simp only [resultsD, go_sem, ti3, ti4, ti9, ti22, ti94, ti96, ti32, ti29, ti31, ti41, ti158, ti155]) rfl)
  | true =>
    rw [hok] at p46
    obtain ⟨hk, hw, hne, hbl⟩ := rlpOK_some hok
    rw [if_neg (by decide)]
    generalize hP : packE x.bs bktCols = P
    refine Wc.seqR (fun y => y.ds = [] ∧ Fs y.e 90 [(1, .v (.c (.ref 0 0))), (2, .v (.c (.ref 1 0)))] ∧ OA y.s.nx y.s [] [(1, .cells ([.p (pI 0), .nils] ++ zz0.map .p ++ [.p (.str [])]) false), (0, .cells (x.pd.map .p) false)]) ?_ ?_
    · refine Wc.seq ?_
      refine Wc.reg fun K hK => ?_; simp only [go_sem, ti3, ti4, ti9, ti22, ti94, ti96, ti32, ti29, ti31, ti41, ti158, ti155]
      refine wpCall.pf p46 (by kernel_rfl) (by kernel_rfl) rfl rfl ?_
      simp only [go_sem, ti3, ti4, ti9, ti22, ti94, ti96, ti32, ti29, ti31, ti41, ti158, ti155]; refine hK _ _ ?_; clear hK K
      refine Wc.cond (t := false) (by simp only [go_sem, ti3, ti4, ti9, ti22, ti94, ti96, ti32, ti29, ti31, ti41, ti158, ti155]) (fun hc => by cases hc) (fun _ => Wc.skip ?_)
      exact ⟨rfl, by simp only [Fs, Int.natCast_zero, go_sem, ti3, ti4, ti9, ti22, ti94, ti96, ti32, ti29, ti31, ti41, ti158, ti155], by (try simp only [St.nx_put, St.nx_adv]); repeat (first | exact OA.mono s00_oa (by omega) | refine OA.newB ?_ (by omega) rfl | refine OA.advB ?_)⟩
    rintro ⟨e, ds, s1⟩ ⟨rfl, hF, ho⟩
    simp only [Fs] at hF ho
    have g0 := ho.at_ (0, .cells (x.pd.map .p) false) (by simp)
    have g1 := ho.at_ (1, .cells ([.p (pI 0), .nils] ++ zz0.map .p ++ [.p (.str [])]) false) (by simp)
    simp only [List.map_cons, List.map_nil, List.cons_append, List.nil_append] at g0 g1
    refine Wc.seq ?_
    refine Wc.regT fun K hK => ?_; simp only [go_sem, ti3, ti4, ti9, ti22, ti94, ti96, ti32, ti29, ti31, ti41, ti158, ti155, hF, g0, o98, x98, o99, x99, List.all_nil, Option.isNone_none]
    refine wpCall.pf pf99 x99 o99 rfl rfl ?_
    simp only [go_sem, ti3, ti4, ti9, ti22, ti94, ti96, ti32, ti29, ti31, ti41, ti158, ti155, hF, g0, o98, x98, o99, x99, List.all_nil, Option.isNone_none]
    refine call98 (x := .v (.c (.p (.lst x.bs.length (x.bs.flatMap Bkt.pd))))) (l := x.bs) (cols := bktCols) (ho.adv.mono (by simp only [St.nx_adv]; omega)) (by omega) ⟨_, rfl⟩ (by simp only [go_sem, ti3, ti4, ti9, ti22, ti94, ti96, ti32, ti29, ti31, ti41, ti158, ti155]) (fun j hj => ixA ti29 rfl ti41 hj hfl (by decide)) bktCols_ok (by decide) (fun hN s' ho' hnx => ?_) (fun ss hS x' s' ho' hnx => ?_)
    · rw [hP] at hN
      subst hN
      simp only [go_sem, ti3, ti4, ti9, ti22, ti94, ti96, ti32, ti29, ti31, ti41, ti158, ti155, hF, g0, o98, x98, o99, x99, List.all_nil, Option.isNone_none]
      refine ⟨by rfl, hK _ _ ?_⟩
      have g1' := ho'.at_ (1, .cells ([.p (pI 0), .nils] ++ zz0.map .p ++ [.p (.str [])]) false) (by simp)
      simp only [List.map_cons, List.map_nil, List.cons_append, List.nil_append] at g1'
      refine Wc.seq (Wc.seq ?_)
      refine Wc.reg fun K hK => ?_; simp only [go_sem, ti3, ti4, ti9, ti22, ti94, ti96, ti32, ti29, ti31, ti41, ti158, ti155, hF]; refine hK _ _ ?_; clear hK K
      refine Wc.cond (t := true) (by simp only [go_sem, ti3, ti4, ti9, ti22, ti94, ti96, ti32, ti29, ti31, ti41, ti158, ti155, hF]) (fun _ => ?_) (fun hc => by cases hc)
      refine Wc.seq ?_
      refine Wc.reg fun K hK => ?_; simp only [go_sem, ti3, ti4, ti9, ti22, ti94, ti96, ti32, ti29, ti31, ti41, ti158, ti155, hF, g1']; refine hK _ _ ?_; clear hK K
      refine Wc.ret (thenD_ret0 ?_)
      exact Pf.ret [.cell 2 96, .tmp 3] [.agg ([.p (pI 0), .nils] ++ zz0.map .p ++ [.p (.str [])]), .c (.p (pI 4))] rfl rfl (by simp only [resultsD, go_sem, ti3, ti4, ti9, ti22, ti94, ti96, ti32, ti29, ti31, ti41, ti158, ti155, hF, g1']) rfl
    · rw [hP] at hS
      subst hS
      simp only [go_sem, ti3, ti4, ti9, ti22, ti94, ti96, ti32, ti29, ti31, ti41, ti158, ti155, hF, g0, o98, x98, o99, x99, List.all_nil, Option.isNone_none]
      refine ⟨by rfl, hK _ _ ?_⟩
      clear hK K
      obtain ⟨b0, r0, hbs⟩ : ∃ b0 r0, x.bs = b0 :: r0 := by
        cases hx : x.bs with
        | nil => exact absurd hx hne
        | cons a r => exact ⟨a, r, rfl⟩
      have hlen0 : 0 < x.bs.length := by rw [hbs]; simp
      refine Wc.seq (Wc.seq ?_)
      refine Wc.reg fun K hK => ?_; simp only [go_sem, ti3, ti4, ti9, ti22, ti94, ti96, ti32, ti29, ti31, ti41, ti158, ti155, hF]; refine hK _ _ ?_; clear hK K
      refine Wc.cond (t := false) (by simp only [go_sem, ti3, ti4, ti9, ti22, ti94, ti96, ti32, ti29, ti31, ti41, ti158, ti155, hF]) (fun hc => by cases hc) (fun _ => Wc.skip ?_)
      have g0' := ho'.at_ (0, .cells (x.pd.map .p) false) (by simp)
      simp only [List.map_cons, List.map_nil] at g0'
      have hix0 : indexAddrD E0 29 (.v (.c (.p (.lst x.bs.length (x.bs.flatMap Bkt.pd))))) (.v (.c (.p (.int .i64 0)))) = some (.v (.c (.rp (x.bs.flatMap Bkt.pd) 0))) := ixA ti29 rfl ti41 (j := 0) hlen0 hfl (by decide)
      have hca0 := rpA (off := 0) (cs := x.bs.flatMap Bkt.pd) (pre := b0.pd) (rest := r0.flatMap Bkt.pd) (by rw [hbs]; rfl) (by omega)
      refine Wc.seqA (fun y => ∃ k6, y.ds = [] ∧ Fs y.e 90 [(1, .v (.c (.ref 0 0))), (2, .v (.c (.ref 1 0))), (4, .v (.c x')), (6, .v (.c (.ref k6 0)))] ∧ OA y.s.nx y.s [(1, .v (.c x'), ss.length, ss.map .str)] [(k6, .cells (b0.pd.map .p) false), (1, .cells ([.p (pI 0), .nils] ++ zz0.map .p ++ [.p (.str [])]) false), (0, .cells (x.pd.map .p) false)]) ?_ ?_
      · refine Wc.reg fun K hK => ?_; simp only [go_sem, ti3, ti4, ti9, ti22, ti94, ti96, ti32, ti29, ti31, ti41, ti158, ti155, hF, g0', hix0, hca0]; refine hK _ _ ?_; clear hK K
        exact ⟨rfl, s'.nx + 6, rfl, by simp only [Fs, Int.natCast_zero, go_sem, ti3, ti4, ti9, ti22, ti94, ti96, ti32, ti29, ti31, ti41, ti158, ti155, hF], by (try simp only [St.nx_put, St.nx_adv]); repeat (first | exact OA.mono ho' (by omega) | refine OA.newB ?_ (by omega) rfl | refine OA.advB ?_)⟩
      clear hF ho ho' g0 g0' g1 hnx e s1 s'
      rintro ⟨e, ds, s1⟩ ⟨k6, rfl, hF, ho⟩
      simp only [Fs] at hF ho
      have g0 := ho.at_ (0, .cells (x.pd.map .p) false) (by simp)
      have g6 := ho.at_ (k6, .cells (b0.pd.map .p) false) (by simp)
      simp only [List.map_cons, List.map_nil] at g0 g6
      obtain ⟨bl, hbl1⟩ : ∃ bl, x.bs[x.bs.length - 1]? = some bl := ⟨x.bs[x.bs.length - 1], List.getElem?_eq_getElem (by omega)⟩
      have hixl := ixA ti29 rfl ti41 (j := x.bs.length - 1) (m := x.bs.length) (cs := x.bs.flatMap Bkt.pd) (by omega) hfl (by decide)
      have hcl : ∀ s, cellsAt s (.v (.c (.rp (x.bs.flatMap Bkt.pd) ((x.bs.length - 1) * 10 + 8)))) = some (([pI bl.lt, pI bl.inc] ++ (x.bs.drop (x.bs.length - 1 + 1)).flatMap Bkt.pd).map .p) := fun s => by
        refine rpA ?_ (by rw [hfl]; omega) s
        rw [← List.drop_drop, drop_flat (f := Bkt.pd) (k := 10) (fun _ => rfl) hbl1]
        rfl
      have w1 : IntKind.i64.wrap ((x.bs.length : Int) - 1) = ((x.bs.length - 1 : Nat) : Int) := by rw [wi64]; omega
      refine Wc.seqA (fun y => ∃ k7, y.ds = [] ∧ Fs y.e 90 [(1, .v (.c (.ref 0 0))), (2, .v (.c (.ref 1 0))), (4, .v (.c x')), (7, .v (.c (.ref k7 0)))] ∧ OA y.s.nx y.s [(1, .v (.c x'), ss.length, ss.map .str)] [(k7, .cells [.p (pI x.bs.length), .p (pI b0.ft), .p (pI bl.lt), .p (pI b0.mn), .p (pI b0.mx), .p (.int .u32 0), .p (.int .u32 0), .p (.int .u32 0), .p (.int .u32 0), .p (.int .u32 0), .p (.int .u32 0), .p (.int .u32 0), .p (.int .u32 0)] false), (1, .cells ([.p (pI 0), .nils] ++ zz0.map .p ++ [.p (.str [])]) false), (0, .cells (x.pd.map .p) false)]) ?_ ?_
      · refine Wc.regT fun K hK => ?_; simp only [go_sem, ti3, ti4, ti9, ti22, ti94, ti96, ti32, ti29, ti31, ti41, ti158, ti155, hF, g0, g6, hixl, hcl, w1]; refine ⟨by rw [trOK_eq]; rfl, hK _ _ ?_⟩; clear hK K
        have hs := ho.sub (L1 := [(1, .v (.c x'), ss.length, ss.map .str)]) (M1 := [(1, .cells ([.p (pI 0), .nils] ++ zz0.map .p ++ [.p (.str [])]) false), (0, .cells (x.pd.map .p) false)]) (List.Sublist.refl _) (List.sublist_cons_self _ _)
        exact ⟨rfl, s1.nx + 19, rfl, by simp only [Fs, Int.natCast_zero, go_sem, ti3, ti4, ti9, ti22, ti94, ti96, ti32, ti29, ti31, ti41, ti158, ti155, hF], by (try simp only [St.nx_put, St.nx_adv]); repeat (first | exact OA.mono hs (by omega) | refine OA.newB ?_ (by omega) rfl | refine OA.advB ?_)⟩
      clear hF ho g0 g6 e s1
      rintro ⟨e, ds, s1⟩ ⟨k7, rfl, hF, ho⟩
      simp only [Fs] at hF ho
      have g0 := ho.at_ (0, .cells (x.pd.map .p) false) (by simp)
      simp only [List.map_cons, List.map_nil] at g0
      refine Wc.seqA (fun y => y.ds = [] ∧ Fs y.e 90 [(1, .v (.c (.ref 0 0))), (2, .v (.c (.ref 1 0))), (4, .v (.c x')), (7, .v (.c (.ref k7 0)))] ∧ OA y.s.nx y.s [(1, .v (.c x'), ss.length, ss.map .str)] [(k7, .cells [.p (pI x.bs.length), .p (pI b0.ft), .p (pI bl.lt), .p (pI (x.bs.foldl (fun m y => minI m y.mn) b0.mn)), .p (pI (x.bs.foldl (fun m y => maxI m y.mx) b0.mx)), .p (.int .u32 0), .p (.int .u32 0), .p (.int .u32 0), .p (.int .u32 0), .p (.int .u32 0), .p (.int .u32 0), .p (.int .u32 0), .p (.int .u32 0)] false), (1, .cells ([.p (pI 0), .nils] ++ zz0.map .p ++ [.p (.str [])]) false), (0, .cells (x.pd.map .p) false)]) ?_ ?_
      · refine Wc.seq ?_
        refine Wc.reg fun K hK => ?_; simp only [go_sem, ti3, ti4, ti9, ti22, ti94, ti96, ti32, ti29, ti31, ti41, ti158, ti155, hF, g0, Int.natCast_zero]; refine hK _ _ ?_; clear hK K
        refine Wc.block (Wc.loop (fun c y => ∃ i : Nat, c = x.bs.length - i ∧ i ≤ x.bs.length ∧ y.ds = [] ∧ Fs y.e 90 [(1, .v (.c (.ref 0 0))), (2, .v (.c (.ref 1 0))), (4, .v (.c x')), (7, .v (.c (.ref k7 0))), (50, P' (.lst x.bs.length (x.bs.flatMap Bkt.pd))), (51, P' (pI x.bs.length)), (52, P' (pI i))] ∧ OA y.s.nx y.s [(1, .v (.c x'), ss.length, ss.map .str)] [(k7, .cells [.p (pI x.bs.length), .p (pI b0.ft), .p (pI bl.lt), .p (pI ((x.bs.take i).foldl (fun m y => minI m y.mn) b0.mn)), .p (pI ((x.bs.take i).foldl (fun m y => maxI m y.mx) b0.mx)), .p (.int .u32 0), .p (.int .u32 0), .p (.int .u32 0), .p (.int .u32 0), .p (.int .u32 0), .p (.int .u32 0), .p (.int .u32 0), .p (.int .u32 0)] false), (1, .cells ([.p (pI 0), .nils] ++ zz0.map .p ++ [.p (.str [])]) false), (0, .cells (x.pd.map .p) false)]) ?_ (k := x.bs.length) ?_)
        · clear hF ho g0 e s1
          rintro c ⟨e, ds, s1⟩ ⟨i, rfl, hi, rfl, hF, ho⟩
          simp only [Fs] at hF ho
          refine Wc.seq ?_
          refine Wc.reg fun K hK => ?_; simp only [go_sem, ti3, ti4, ti9, ti22, ti94, ti96, ti32, ti29, ti31, ti41, ti158, ti155, hF]; refine hK _ _ ?_; clear hK K
          refine Wc.seq (Wc.cond (t := decide ((i : Int) < x.bs.length)) (by simp only [go_sem, ti3, ti4, ti9, ti22, ti94, ti96, ti32, ti29, ti31, ti41, ti158, ti155, hF]) (fun hc => ?_) (fun hc => ?_))
          · have hil : i < x.bs.length := by have := of_decide_eq_true hc; omega
            obtain ⟨b, hb⟩ : ∃ b, x.bs[i]? = some b := ⟨x.bs[i], List.getElem?_eq_getElem hil⟩
            have hix := ixA ti29 rfl ti41 (j := i) (m := x.bs.length) (cs := x.bs.flatMap Bkt.pd) hil hfl (by decide)
            have hca := rpA (off := i * 10) (drop_flat (f := Bkt.pd) (k := 10) (fun _ => rfl) hb) (by rw [hfl]; omega)
            have e1 : (x.bs.take (i + 1)).foldl (fun m y => minI m y.mn) b0.mn = minI ((x.bs.take i).foldl (fun m y => minI m y.mn) b0.mn) b.mn := by rw [take_snoc hb, List.foldl_append]; rfl
            have e2 : (x.bs.take (i + 1)).foldl (fun m y => maxI m y.mx) b0.mx = maxI ((x.bs.take i).foldl (fun m y => maxI m y.mx) b0.mx) b.mx := by rw [take_snoc hb, List.foldl_append]; rfl
            generalize hm1 : (x.bs.take i).foldl (fun m y => minI m y.mn) b0.mn = m1 at *
            generalize hm2 : (x.bs.take i).foldl (fun m y => maxI m y.mx) b0.mx = m2 at *
            refine Wc.skip (Wc.seq (Wc.block (Wc.seqA (fun y => ∃ k9, y.ds = [] ∧ Fs y.e 90 [(1, .v (.c (.ref 0 0))), (2, .v (.c (.ref 1 0))), (4, .v (.c x')), (7, .v (.c (.ref k7 0))), (50, P' (.lst x.bs.length (x.bs.flatMap Bkt.pd))), (51, P' (pI x.bs.length)), (52, P' (pI i)), (9, .v (.c (.ref k9 0)))] ∧ OA y.s.nx y.s [(1, .v (.c x'), ss.length, ss.map .str)] [(k9, .cells (b.pd.map .p) false), (k7, .cells [.p (pI x.bs.length), .p (pI b0.ft), .p (pI bl.lt), .p (pI m1), .p (pI m2), .p (.int .u32 0), .p (.int .u32 0), .p (.int .u32 0), .p (.int .u32 0), .p (.int .u32 0), .p (.int .u32 0), .p (.int .u32 0), .p (.int .u32 0)] false), (1, .cells ([.p (pI 0), .nils] ++ zz0.map .p ++ [.p (.str [])]) false), (0, .cells (x.pd.map .p) false)]) ?_ ?_)))
            · refine Wc.reg fun K hK => ?_; simp only [go_sem, ti3, ti4, ti9, ti22, ti94, ti96, ti32, ti29, ti31, ti41, ti158, ti155, hF, hix, hca]; refine hK _ _ ?_; clear hK K
              exact ⟨rfl, s1.nx + 3, rfl, by simp only [Fs, Int.natCast_zero, go_sem, ti3, ti4, ti9, ti22, ti94, ti96, ti32, ti29, ti31, ti41, ti158, ti155, hF], by (try simp only [St.nx_put, St.nx_adv]); repeat (first | exact OA.mono ho (by omega) | refine OA.newB ?_ (by omega) rfl | refine OA.advB ?_)⟩
            clear hF ho e s1
            rintro ⟨e, ds, s1⟩ ⟨k9, rfl, hF, ho⟩
            simp only [Fs] at hF ho
            have g9 := ho.at_ (k9, .cells (b.pd.map .p) false) (by simp)
            have g7 := ho.at_ (k7, .cells [.p (pI x.bs.length), .p (pI b0.ft), .p (pI bl.lt), .p (pI m1), .p (pI m2), .p (.int .u32 0), .p (.int .u32 0), .p (.int .u32 0), .p (.int .u32 0), .p (.int .u32 0), .p (.int .u32 0), .p (.int .u32 0), .p (.int .u32 0)] false) (by simp)
            simp only [List.map_cons, List.map_nil] at g9 g7
            have hne79 : (k7 = k9) = False := by
              have := ho.dism
              simp only [List.pairwise_cons, List.mem_cons] at this
              have := this.1 (k7, .cells [.p (pI x.bs.length), .p (pI b0.ft), .p (pI bl.lt), .p (pI m1), .p (pI m2), .p (.int .u32 0), .p (.int .u32 0), .p (.int .u32 0), .p (.int .u32 0), .p (.int .u32 0), .p (.int .u32 0), .p (.int .u32 0), .p (.int .u32 0)] false) (.inl rfl)
              simp only [eq_iff_iff, iff_false]
              exact fun e => this e.symm
            refine Wc.seq ?_
            refine Wc.reg fun K hK => ?_; simp only [go_sem, ti3, ti4, ti9, ti22, ti94, ti96, ti32, ti29, ti31, ti41, ti158, ti155, hF, g9, g7, foldO]; refine hK _ _ ?_; clear hK K
            refine Wc.reg fun K hK => ?_; simp only [go_sem, ti3, ti4, ti9, ti22, ti94, ti96, ti32, ti29, ti31, ti41, ti158, ti155, hF, g9, g7, foldO, hne79]; refine hK _ _ ?_; clear hK K
            refine Wc.reg fun K hK => ?_; simp only [go_sem, ti3, ti4, ti9, ti22, ti94, ti96, ti32, ti29, ti31, ti41, ti158, ti155, hF, i64n i (by omega)]; refine hK _ _ ?_; clear hK K
            refine ⟨x.bs.length - (i + 1), by omega, i + 1, rfl, by omega, rfl, by simp only [Fs, Int.natCast_zero, go_sem, ti3, ti4, ti9, ti22, ti94, ti96, ti32, ti29, ti31, ti41, ti158, ti155, hF], ?_⟩
            rw [e1, e2]
            have hs := ho.sub (L1 := [(1, .v (.c x'), ss.length, ss.map .str)]) (M1 := [(k7, .cells [.p (pI x.bs.length), .p (pI b0.ft), .p (pI bl.lt), .p (pI m1), .p (pI m2), .p (.int .u32 0), .p (.int .u32 0), .p (.int .u32 0), .p (.int .u32 0), .p (.int .u32 0), .p (.int .u32 0), .p (.int .u32 0), .p (.int .u32 0)] false), (1, .cells ([.p (pI 0), .nils] ++ zz0.map .p ++ [.p (.str [])]) false), (0, .cells (x.pd.map .p) false)]) (List.Sublist.refl _) (List.sublist_cons_self _ _)
            simp only [St.nx_put, St.nx_adv]; (repeat refine OA.advB ?_); refine OA.ofS (M1 := []) (k := k7) ?_; repeat (first | exact ⟨_, OA.mono hs (by omega)⟩ | refine OAs.adv ?_ | refine OAs.put ?_)
          · have hil : i = x.bs.length := by have := of_decide_eq_false hc; omega
            subst hil
            rw [List.take_length] at ho
            exact Wc.exit ⟨rfl, rfl, by simp only [Fs, Int.natCast_zero, go_sem, ti3, ti4, ti9, ti22, ti94, ti96, ti32, ti29, ti31, ti41, ti158, ti155, hF], by (try simp only [St.nx_put, St.nx_adv]); repeat (first | exact OA.mono ho (by omega) | refine OA.newB ?_ (by omega) rfl | refine OA.advB ?_)⟩
        · exact ⟨0, rfl, by omega, rfl, by simp only [Fs, Int.natCast_zero, go_sem, ti3, ti4, ti9, ti22, ti94, ti96, ti32, ti29, ti31, ti41, ti158, ti155, hF], by (try simp only [St.nx_put, St.nx_adv]); repeat (first | exact OA.mono ho (by omega) | refine OA.newB ?_ (by omega) rfl | refine OA.advB ?_)⟩
      clear hF ho g0 e s1
      rintro ⟨e, ds, s1⟩ ⟨rfl, hF, ho⟩
      simp only [Fs] at hF ho
      have g0 := ho.at_ (0, .cells (x.pd.map .p) false) (by simp)
      have g1 := ho.at_ (1, .cells ([.p (pI 0), .nils] ++ zz0.map .p ++ [.p (.str [])]) false) (by simp)
      have g7 := ho.at_ (k7, .cells [.p (pI x.bs.length), .p (pI b0.ft), .p (pI bl.lt), .p (pI (x.bs.foldl (fun m y => minI m y.mn) b0.mn)), .p (pI (x.bs.foldl (fun m y => maxI m y.mx) b0.mx)), .p (.int .u32 0), .p (.int .u32 0), .p (.int .u32 0), .p (.int .u32 0), .p (.int .u32 0), .p (.int .u32 0), .p (.int .u32 0), .p (.int .u32 0)] false) (by simp)
      simp only [List.map_cons, List.map_nil, List.cons_append, List.nil_append] at g0 g1 g7
      have hpu := (ho.own _ (List.mem_cons_self ..)).purS
      have hz : rlpZ x.bs = ⟨x.bs.length, b0.ft, bl.lt, x.bs.foldl (fun m y => minI m y.mn) b0.mn, x.bs.foldl (fun m y => maxI m y.mx) b0.mx⟩ := by
        have hl : x.bs.getLast? = some bl := by rw [List.getLast?_eq_getElem?]; exact hbl1
        rw [hbs] at hl ⊢
        rw [List.getLast?_eq_some_getLast (by simp)] at hl
        simp only [Option.some.injEq] at hl
        simp only [rlpZ, hl]
      have hap : (appV (appV [] x.k).1 x.w).1.length ≤ 262144 := by
        have a1 : (appV [] x.k).1.length ≤ 10 := by
          unfold appV
          split
          · simp
          · rw [List.nil_append]; exact vb_len10 (by omega)
        unfold appV at a1 ⊢
        split
        · simp
        · simp only [List.length_append]
          have := vb_len10 (n := x.w.toNat) (by omega)
          omega
      have hpl : ∀ q ∈ ss, q.length ≤ 35184372088832 := by
        rw [packE_cols] at hP
        refine jn_pre hP fun c hc hc0 => ?_
        obtain ⟨cc, _, rfl⟩ := List.mem_map.1 hc
        have := encF_len hc0
        rw [List.length_map] at this
        omega
      have hsl := packE_len hP
      have p41 := pf101 6 x.lb.length (x.lb.flatMap lbP) (pI x.bs.length) (pI b0.ft) (pI bl.lt) (pI (x.bs.foldl (fun m y => minI m y.mn) b0.mn)) (pI (x.bs.foldl (fun m y => maxI m y.mx) b0.mx)) (.int .u32 0) (.int .u32 0) (.int .u32 0) (.int .u32 0) (.int .u32 0) (.int .u32 0) (.int .u32 0) (.int .u32 0) (appV (appV [] x.k).1 x.w).1 ss hap hpl (by have : bktCols.length = 10 := rfl; omega)
      rw [hz]
      have p49b := pf100 (appV [] x.k).1 x.w (by
        unfold appV
        split
        · simp
        · rw [List.nil_append]; have := vb_len10 (n := x.k.toNat) (by omega); simp only; omega)
      generalize appV (appV [] x.k).1 x.w = T2 at *
      refine Wc.seq ?_
      refine Wc.reg fun K hK => ?_; simp only [go_sem, ti3, ti4, ti9, ti22, ti94, ti96, ti32, ti29, ti31, ti41, ti158, ti155, hF, g0]
      refine wpCall.pf (pf100 [] x.k (by simp)) (by kernel_rfl) (by kernel_rfl) rfl rfl ?_
      simp only [go_sem, ti3, ti4, ti9, ti22, ti94, ti96, ti32, ti29, ti31, ti41, ti158, ti155, hF, g0]; refine hK _ _ ?_; clear hK K
      refine Wc.seq ?_
      refine Wc.reg fun K hK => ?_; simp only [go_sem, ti3, ti4, ti9, ti22, ti94, ti96, ti32, ti29, ti31, ti41, ti158, ti155, hF, g0]
      refine wpCall.pf p49b (by kernel_rfl) (by kernel_rfl) rfl rfl ?_
      simp only [go_sem, ti3, ti4, ti9, ti22, ti94, ti96, ti32, ti29, ti31, ti41, ti158, ti155, hF, g0]; refine hK _ _ ?_; clear hK K
      refine Wc.seq ?_
      cases hj : jn T2.1 ss with
      | none =>
        rw [hj] at p41
        simp only [finE, hj] at p41 ⊢
        refine Wc.reg fun K hK => ?_; simp only [go_sem, ti3, ti4, ti9, ti22, ti94, ti96, ti32, ti29, ti31, ti41, ti158, ti155, hF, g0, g7]
        refine wpCall.pf p41 (by kernel_rfl) (by kernel_rfl) rfl (purVs_5 hpu _) ?_
        simp only [go_sem, ti3, ti4, ti9, ti22, ti94, ti96, ti32, ti29, ti31, ti41, ti158, ti155, hF, g0, g1, g7]; refine hK _ _ ?_; clear hK K
        exact Wc.ret (Pf.ret [.cell 2 96, .tmp 3] [noCh, .c (.p (pI 4))] rfl rfl (by simp only [resultsD, go_sem, ti3, ti4, ti9, ti22, ti94, ti96, ti32, ti29, ti31, ti41, ti158, ti155, hF]; rfl) (purNo _))
      | some d =>
        rw [hj] at p41
        simp only [finE, hj] at p41 ⊢
        refine Wc.reg fun K hK => ?_; simp only [go_sem, ti3, ti4, ti9, ti22, ti94, ti96, ti32, ti29, ti31, ti41, ti158, ti155, hF, g0, g7]
        refine wpCall.pf p41 (by kernel_rfl) (by kernel_rfl) rfl (purVs_5 hpu _) ?_
        simp only [go_sem, ti3, ti4, ti9, ti22, ti94, ti96, ti32, ti29, ti31, ti41, ti158, ti155, hF, g0, g1, g7]; refine hK _ _ ?_; clear hK K
        exact Wc.ret (Pf.ret [.cell 2 96, .tmp 3] [chV 6 (.lst x.lb.length (x.lb.flatMap lbP)) (Zo.pd ⟨x.bs.length, b0.ft, bl.lt, x.bs.foldl (fun m y => minI m y.mn) b0.mn, x.bs.foldl (fun m y => maxI m y.mx) b0.mx⟩) d, .c (.p (pI 0))] rfl rfl (by simp only [resultsD, go_sem, ti3, ti4, ti9, ti22, ti94, ti96, ti32, ti29, ti31, ti41, ti158, ti155, hF]; rfl) (purCh _ _ _ _ _))
end Go.Proofs.YtedcnhbblgmdnaaGreat.Ab
namespace Go.Proofs.YtedcnhbblgmdnaaGreat.Ab
set_option maxHeartbeats 8000000
set_option maxRecDepth 10000
set_option linter.unusedSimpArgs false
set_option linter.unusedVariables false
/-- 153: Step -/
theorem pf153 (a b : Int) (ha : -1099511627776 ≤ a ∧ a ≤ 1099511627776) (hb : -1099511627776 ≤ b ∧ b ≤ 1099511627776) : Pf E0 153 [.c (.p (pI a)), .c (.p (pI b))] (P' (pI (stepV a b))) := by
  have e1 : IntKind.i64.wrap (b - a) = b - a := by rw [wi64]; omega
  refine Pf.body (fn := Tryz.f153) (by kernel_rfl) rfl ?_; simp only [List.map_cons, List.map_nil, List.cons_append, List.nil_append, List.length_cons, List.length_nil, Tryz.ntmps153, List.replicate, Nat.reduceSub, Nat.reduceAdd]
  refine Wc.seq ?_
  refine Wc.reg fun K hK => ?_; simp only [go_sem, ti3, ti4, ti32, ti39, ti41, ti31, ti96]; refine hK _ _ ?_; clear hK K
  refine Wc.seq (Wc.seq ?_)
  refine Wc.reg fun K hK => ?_; simp only [go_sem, ti3, ti4, ti32, ti39, ti41, ti31, ti96]; refine hK _ _ ?_; clear hK K
  refine Wc.cond (t := decide (b < a)) (by simp only [go_sem, ti3, ti4, ti32, ti39, ti41, ti31, ti96]) (fun hc => ?_) (fun hc => ?_)
  · have h : b < a := of_decide_eq_true hc
    refine Wc.seq ?_
    refine Wc.reg fun K hK => ?_; simp only [go_sem, ti3, ti4, ti32, ti39, ti41, ti31, ti96]; refine hK _ _ ?_; clear hK K
    rw [show stepV a b = b from if_pos h]
    exact Wc.ret (Pf.ret [.tmp 4] [.c (.p (pI b))] rfl rfl (by simp only [resultsD, go_sem, ti3, ti4, ti32, ti39, ti41, ti31, ti96]) rfl)
  · have h : ¬ b < a := of_decide_eq_false hc
    refine Wc.skip (Wc.seq ?_)
    refine Wc.reg fun K hK => ?_; simp only [go_sem, ti3, ti4, ti32, ti39, ti41, ti31, ti96]; refine hK _ _ ?_; clear hK K
    rw [show stepV a b = b - a from if_neg h]
    exact Wc.ret (Pf.ret [.tmp 4] [.c (.p (pI (b - a)))] rfl rfl (by simp only [resultsD, go_sem, ti3, ti4, ti32, ti39, ti41, ti31, ti96, e1]) rfl)
def chkR (x : Rlp) : Int := if rlpOK x then 0 else 1
/-- 23: the reference's Check -/
theorem pf23 (x : Rlp) (hlb : x.lb.length < 2^40) (hls : ∀ y ∈ x.lb, y.1.length < 2^50 ∧ y.2.length < 2^50) : Pf E0 23 [.agg (x.pd.map .p)] (P' (pI (chkR x))) := by
  have p := pf54 x hlb hls
  unfold chkR
  refine Pf.body (fn := Tryz.f23) (by kernel_rfl) rfl ?_; simp only [List.map_cons, List.map_nil, List.cons_append, List.nil_append, List.length_cons, List.length_nil, Tryz.ntmps23, List.replicate, Nat.reduceSub, Nat.reduceAdd]
  refine Wc.seq ?_
  refine Wc.reg fun K hK => ?_; simp only [go_sem, ti3, ti4, ti32, ti39, ti41, ti31, ti96]; refine hK _ _ ?_; clear hK K
  refine Wc.seq (Wc.seq ?_)
  cases hok : rlpOK x with
  | false =>
    rw [hok] at p
    refine Wc.reg fun K hK => ?_; simp only [go_sem, ti3, ti4, ti32, ti39, ti41, ti31, ti96]
    refine wpCall.pf p (by kernel_rfl) (by kernel_rfl) rfl rfl ?_
    simp only [go_sem, ti3, ti4, ti32, ti39, ti41, ti31, ti96]; refine hK _ _ ?_; clear hK K
    refine Wc.cond (t := true) (by simp only [go_sem, ti3, ti4, ti32, ti39, ti41, ti31, ti96]) (fun _ => ?_) (fun hc => by cases hc)
    refine Wc.seq ?_
    refine Wc.reg fun K hK => ?_; simp only [go_sem, ti3, ti4, ti32, ti39, ti41, ti31, ti96]; refine hK _ _ ?_; clear hK K
    exact Wc.ret (Pf.ret [.tmp 2] [.c (.p (pI 1))] rfl rfl (by simp only [resultsD, go_sem, ti3, ti4, ti32, ti39, ti41, ti31, ti96]) rfl)
  | true =>
    rw [hok] at p
    refine Wc.reg fun K hK => ?_; simp only [go_sem, ti3, ti4, ti32, ti39, ti41, ti31, ti96]
    refine wpCall.pf p (by kernel_rfl) (by kernel_rfl) rfl rfl ?_
    simp only [go_sem, ti3, ti4, ti32, ti39, ti41, ti31, ti96]; refine hK _ _ ?_; clear hK K
    refine Wc.cond (t := false) (by simp only [go_sem, ti3, ti4, ti32, ti39, ti41, ti31, ti96]) (fun hc => by cases hc) (fun _ => Wc.skip ?_)
    refine Wc.seq ?_
    refine Wc.reg fun K hK => ?_; simp only [go_sem, ti3, ti4, ti32, ti39, ti41, ti31, ti96]; refine hK _ _ ?_; clear hK K
    exact Wc.ret (Pf.ret [.tmp 2] [.c (.p (pI 0))] rfl rfl (by simp only [resultsD, go_sem, ti3, ti4, ti32, ti39, ti41, ti31, ti96]) rfl)
theorem encR_form (x : Rlp) : ∃ (c : List C) (e : Int), encR x = .tup [.agg c, .c (.p (pI e))] ∧ c.length = 16 ∧ ((e == 1) = !rlpOK x) := by
  unfold encR
  cases hok : rlpOK x with
  | false => exact ⟨_, 1, by rw [if_pos rfl], rfl, rfl⟩
  | true =>
    rw [if_neg (by simp)]
    cases packE x.bs bktCols with
    | none => exact ⟨_, 4, rfl, rfl, rfl⟩
    | some ss =>
      simp only [finE]
      cases jn (appV (appV [] x.k).1 x.w).1 ss with
      | none => exact ⟨_, 4, rfl, rfl, rfl⟩
      | some d => exact ⟨_, 0, rfl, rfl, rfl⟩
/-- 19: Check -/
theorem pf19 (x : Rlp) (hlb : x.lb.length < 2^40) (hls : ∀ y ∈ x.lb, y.1.length < 2^50 ∧ y.2.length < 2^50) : Pf E0 19 [.agg (x.pd.map .p)] (P' (pI (chkR x))) := by
  have p := pf51 x hlb hls
  obtain ⟨c, e, he, hl, h1⟩ := encR_form x
  rw [he] at p
  obtain ⟨c0, c1, c2, c3, c4, c5, c6, c7, c8, c9, c10, c11, c12, c13, c14, c15, rfl⟩ : ∃ c0 c1 c2 c3 c4 c5 c6 c7 c8 c9 c10 c11 c12 c13 c14 c15, c = [c0, c1, c2, c3, c4, c5, c6, c7, c8, c9, c10, c11, c12, c13, c14, c15] := by
    match c, hl with
    | [c0, c1, c2, c3, c4, c5, c6, c7, c8, c9, c10, c11, c12, c13, c14, c15], _ => exact ⟨_, _, _, _, _, _, _, _, _, _, _, _, _, _, _, _, rfl⟩
  unfold chkR
  refine Pf.body (fn := Tryz.f19) (by kernel_rfl) rfl ?_; simp only [List.map_cons, List.map_nil, List.cons_append, List.nil_append, List.length_cons, List.length_nil, Tryz.ntmps19, List.replicate, Nat.reduceSub, Nat.reduceAdd]
  refine Wc.seq ?_
  refine Wc.reg fun K hK => ?_; simp only [go_sem, ti3, ti4, ti32, ti39, ti41, ti31, ti96]; refine hK _ _ ?_; clear hK K
  refine Wc.seq (Wc.seq ?_)
  refine Wc.reg fun K hK => ?_; simp only [go_sem, ti3, ti4, ti32, ti39, ti41, ti31, ti96]
  refine wpCall.pf p (by kernel_rfl) (by kernel_rfl) rfl rfl ?_
  simp only [go_sem, ti3, ti4, ti32, ti39, ti41, ti31, ti96]; refine hK _ _ ?_; clear hK K
  refine Wc.seq ?_
  refine Wc.reg fun K hK => ?_; simp only [go_sem, ti3, ti4, ti32, ti39, ti41, ti31, ti96]; refine hK _ _ ?_; clear hK K
  refine Wc.cond (t := (e == 1)) (by simp only [go_sem, ti3, ti4, ti32, ti39, ti41, ti31, ti96]) (fun hc => ?_) (fun hc => ?_)
  · have hok : rlpOK x = false := by rw [hc] at h1; simpa using h1
    refine Wc.seq ?_
    refine Wc.reg fun K hK => ?_; simp only [go_sem, ti3, ti4, ti32, ti39, ti41, ti31, ti96]; refine hK _ _ ?_; clear hK K
    rw [hok]
    exact Wc.ret (Pf.ret [.tmp 2] [.c (.p (pI 1))] rfl rfl (by simp only [resultsD, go_sem, ti3, ti4, ti32, ti39, ti41, ti31, ti96]) rfl)
  · have hok : rlpOK x = true := by rw [hc] at h1; simpa using h1
    refine Wc.skip (Wc.seq ?_)
    refine Wc.reg fun K hK => ?_; simp only [go_sem, ti3, ti4, ti32, ti39, ti41, ti31, ti96]; refine hK _ _ ?_; clear hK K
    rw [hok]
    exact Wc.ret (Pf.ret [.tmp 2] [.c (.p (pI 0))] rfl rfl (by simp only [resultsD, go_sem, ti3, ti4, ti32, ti39, ti41, ti31, ti96]) rfl)
end Go.Proofs.YtedcnhbblgmdnaaGreat.Ab
