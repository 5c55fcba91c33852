/- A part of the proof: an evaluator of the code, its contracts, the law. No condition. -/
import Derived.Test.YtedcnhbblgmdnaaGreatT26
namespace Go.Proofs.YtedcnhbblgmdnaaGreat.Ab
set_option maxHeartbeats 8000000
set_option maxRecDepth 10000
set_option linter.unusedSimpArgs false
set_option linter.unusedVariables false
/-- 76: checkList of nothing -/
theorem pf76 : Pf E0 76 [.c (.p (.lst 0 [])), .c (.p (pI 1000)), .c (.p (.fnc 74)), .c (.p (.fnc 77))] (P' (pI 0)) := by
  refine Pf.body (fn := Tryz.f76) (by kernel_rfl) rfl ?_; simp only [List.map_cons, List.map_nil, List.cons_append, List.nil_append, List.length_cons, List.length_nil, Tryz.ntmps76, List.replicate, Nat.reduceSub, Nat.reduceAdd]
  refine Wc.seq ?_
  refine Wc.reg fun K hK => ?_; simp only [go_sem, ti3, ti4, ti32, ti39, ti41, ti31, ti29, ti22, ti26, ti23, ti24, ti52, ti53, ti54, ti55, ti56, ti58, Int.natCast_zero]; refine hK _ _ ?_; clear hK K
  refine Wc.seq (Wc.seq ?_)
  refine Wc.reg fun K hK => ?_; simp only [go_sem, ti3, ti4, ti32, ti39, ti41, ti31, ti29, ti22, ti26, ti23, ti24, ti52, ti53, ti54, ti55, ti56, ti58, Int.natCast_zero]; refine hK _ _ ?_; clear hK K
  refine Wc.cond (t := false) (by simp only [go_sem, ti3, ti4, ti32, ti39, ti41, ti31, ti29, ti22, ti26, ti23, ti24, ti52, ti53, ti54, ti55, ti56, ti58, Int.natCast_zero, decide_eq_true_eq]) (fun hc => by cases hc) (fun _ => ?_)
  refine Wc.skip (Wc.seqR (fun y => y.ds = [] ∧ Fs y.e 40 []) ?_ ?_)
  · refine Wc.seq ?_
    refine Wc.reg fun K hK => ?_; simp only [go_sem, ti3, ti4, ti32, ti39, ti41, ti31, ti29, ti22, ti26, ti23, ti24, ti52, ti53, ti54, ti55, ti56, ti58, Int.natCast_zero]; refine hK _ _ ?_; clear hK K
    refine Wc.block (Wc.loop (fun k y => k = 0 ∧ y.ds = [] ∧ Fs y.e 40 [(16, P' (pI 0)), (17, P' (pI 0))]) ?_ (k := 0) ⟨rfl, rfl, by simp only [Fs, Int.natCast_zero, go_sem, ti3, ti4, ti32, ti39, ti41, ti31, ti29, ti22, ti26, ti23, ti24, ti52, ti53, ti54, ti55, ti56, ti58, Int.natCast_zero]⟩)
    rintro k ⟨e, ds, s1⟩ ⟨rfl, rfl, hF⟩
    simp only [Fs] at hF
    refine Wc.seq ?_
    refine Wc.reg fun K hK => ?_; simp only [go_sem, ti3, ti4, ti32, ti39, ti41, ti31, ti29, ti22, ti26, ti23, ti24, ti52, ti53, ti54, ti55, ti56, ti58, Int.natCast_zero, hF]; refine hK _ _ ?_; clear hK K
    refine Wc.seq ?_
    refine Wc.cond (t := false) (by simp only [go_sem, ti3, ti4, ti32, ti39, ti41, ti31, ti29, ti22, ti26, ti23, ti24, ti52, ti53, ti54, ti55, ti56, ti58, Int.natCast_zero, hF]) (fun hc => by cases hc) (fun _ => ?_)
    exact Wc.exit ⟨rfl, by simp only [Fs, Int.natCast_zero, go_sem, ti3, ti4, ti32, ti39, ti41, ti31, ti29, ti22, ti26, ti23, ti24, ti52, ti53, ti54, ti55, ti56, ti58, Int.natCast_zero, hF]⟩
  · rintro ⟨e, ds, s1⟩ ⟨rfl, hF⟩
    simp only [Fs] at hF
    refine Wc.seq ?_
    refine Wc.reg fun K hK => ?_; simp only [go_sem, ti3, ti4, ti32, ti39, ti41, ti31, ti29, ti22, ti26, ti23, ti24, ti52, ti53, ti54, ti55, ti56, ti58, Int.natCast_zero, hF]; refine hK _ _ ?_; clear hK K
    exact Wc.ret (Pf.ret [.tmp 8] [.c (.p (pI 0))] rfl rfl (by simp only [resultsD, go_sem, ti3, ti4, ti32, ti39, ti41, ti31, ti29, ti22, ti26, ti23, ti24, ti52, ti53, ti54, ti55, ti56, ti58, Int.natCast_zero, hF]) rfl)
/-- 80: checkList of nothing -/
theorem pf80 : Pf E0 80 [.c (.p (.lst 0 [])), .c (.p (pI 1000)), .c (.p (.fnc 78)), .c (.p (.fnc 81))] (P' (pI 0)) := by
  refine Pf.body (fn := Tryz.f80) (by kernel_rfl) rfl ?_; simp only [List.map_cons, List.map_nil, List.cons_append, List.nil_append, List.length_cons, List.length_nil, Tryz.ntmps80, List.replicate, Nat.reduceSub, Nat.reduceAdd]
  refine Wc.seq ?_
  refine Wc.reg fun K hK => ?_; simp only [go_sem, ti3, ti4, ti32, ti39, ti41, ti31, ti29, ti22, ti26, ti23, ti24, ti52, ti53, ti54, ti55, ti56, ti58, Int.natCast_zero]; refine hK _ _ ?_; clear hK K
  refine Wc.seq (Wc.seq ?_)
  refine Wc.reg fun K hK => ?_; simp only [go_sem, ti3, ti4, ti32, ti39, ti41, ti31, ti29, ti22, ti26, ti23, ti24, ti52, ti53, ti54, ti55, ti56, ti58, Int.natCast_zero]; refine hK _ _ ?_; clear hK K
  refine Wc.cond (t := false) (by simp only [go_sem, ti3, ti4, ti32, ti39, ti41, ti31, ti29, ti22, ti26, ti23, ti24, ti52, ti53, ti54, ti55, ti56, ti58, Int.natCast_zero, decide_eq_true_eq]) (fun hc => by cases hc) (fun _ => ?_)
  refine Wc.skip (Wc.seqR (fun y => y.ds = [] ∧ Fs y.e 40 []) ?_ ?_)
  · refine Wc.seq ?_
    refine Wc.reg fun K hK => ?_; simp only [go_sem, ti3, ti4, ti32, ti39, ti41, ti31, ti29, ti22, ti26, ti23, ti24, ti52, ti53, ti54, ti55, ti56, ti58, Int.natCast_zero]; refine hK _ _ ?_; clear hK K
    refine Wc.block (Wc.loop (fun k y => k = 0 ∧ y.ds = [] ∧ Fs y.e 40 [(16, P' (pI 0)), (17, P' (pI 0))]) ?_ (k := 0) ⟨rfl, rfl, by simp only [Fs, Int.natCast_zero, go_sem, ti3, ti4, ti32, ti39, ti41, ti31, ti29, ti22, ti26, ti23, ti24, ti52, ti53, ti54, ti55, ti56, ti58, Int.natCast_zero]⟩)
    rintro k ⟨e, ds, s1⟩ ⟨rfl, rfl, hF⟩
    simp only [Fs] at hF
    refine Wc.seq ?_
    refine Wc.reg fun K hK => ?_; simp only [go_sem, ti3, ti4, ti32, ti39, ti41, ti31, ti29, ti22, ti26, ti23, ti24, ti52, ti53, ti54, ti55, ti56, ti58, Int.natCast_zero, hF]; refine hK _ _ ?_; clear hK K
    refine Wc.seq ?_
    refine Wc.cond (t := false) (by simp only [go_sem, ti3, ti4, ti32, ti39, ti41, ti31, ti29, ti22, ti26, ti23, ti24, ti52, ti53, ti54, ti55, ti56, ti58, Int.natCast_zero, hF]) (fun hc => by cases hc) (fun _ => ?_)
    exact Wc.exit ⟨rfl, by simp only [Fs, Int.natCast_zero, go_sem, ti3, ti4, ti32, ti39, ti41, ti31, ti29, ti22, ti26, ti23, ti24, ti52, ti53, ti54, ti55, ti56, ti58, Int.natCast_zero, hF]⟩
  · rintro ⟨e, ds, s1⟩ ⟨rfl, hF⟩
    simp only [Fs] at hF
    refine Wc.seq ?_
    refine Wc.reg fun K hK => ?_; simp only [go_sem, ti3, ti4, ti32, ti39, ti41, ti31, ti29, ti22, ti26, ti23, ti24, ti52, ti53, ti54, ti55, ti56, ti58, Int.natCast_zero, hF]; refine hK _ _ ?_; clear hK K
    exact Wc.ret (Pf.ret [.tmp 8] [.c (.p (pI 0))] rfl rfl (by simp only [resultsD, go_sem, ti3, ti4, ti32, ti39, ti41, ti31, ti29, ti22, ti26, ti23, ti24, ti52, ti53, ti54, ti55, ti56, ti58, Int.natCast_zero, hF]) rfl)
/-- 85: checkList of nothing -/
theorem pf85 : Pf E0 85 [.c (.p (.lst 0 [])), .c (.p (pI 1000)), .c (.p (.fnc 83)), .c (.p (.fnc 86))] (P' (pI 0)) := by
  refine Pf.body (fn := Tryz.f85) (by kernel_rfl) rfl ?_; simp only [List.map_cons, List.map_nil, List.cons_append, List.nil_append, List.length_cons, List.length_nil, Tryz.ntmps85, List.replicate, Nat.reduceSub, Nat.reduceAdd]
  refine Wc.seq ?_
  refine Wc.reg fun K hK => ?_; simp only [go_sem, ti3, ti4, ti32, ti39, ti41, ti31, ti29, ti22, ti26, ti23, ti24, ti52, ti53, ti54, ti55, ti56, ti58, Int.natCast_zero]; refine hK _ _ ?_; clear hK K
  refine Wc.seq (Wc.seq ?_)
  refine Wc.reg fun K hK => ?_; simp only [go_sem, ti3, ti4, ti32, ti39, ti41, ti31, ti29, ti22, ti26, ti23, ti24, ti52, ti53, ti54, ti55, ti56, ti58, Int.natCast_zero]; refine hK _ _ ?_; clear hK K
  refine Wc.cond (t := false) (by simp only [go_sem, ti3, ti4, ti32, ti39, ti41, ti31, ti29, ti22, ti26, ti23, ti24, ti52, ti53, ti54, ti55, ti56, ti58, Int.natCast_zero, decide_eq_true_eq]) (fun hc => by cases hc) (fun _ => ?_)
  refine Wc.skip (Wc.seqR (fun y => y.ds = [] ∧ Fs y.e 40 []) ?_ ?_)
  · refine Wc.seq ?_
    refine Wc.reg fun K hK => ?_; simp only [go_sem, ti3, ti4, ti32, ti39, ti41, ti31, ti29, ti22, ti26, ti23, ti24, ti52, ti53, ti54, ti55, ti56, ti58, Int.natCast_zero]; refine hK _ _ ?_; clear hK K
    refine Wc.block (Wc.loop (fun k y => k = 0 ∧ y.ds = [] ∧ Fs y.e 40 [(16, P' (pI 0)), (17, P' (pI 0))]) ?_ (k := 0) ⟨rfl, rfl, by simp only [Fs, Int.natCast_zero, go_sem, ti3, ti4, ti32, ti39, ti41, ti31, ti29, ti22, ti26, ti23, ti24, ti52, ti53, ti54, ti55, ti56, ti58, Int.natCast_zero]⟩)
    rintro k ⟨e, ds, s1⟩ ⟨rfl, rfl, hF⟩
    simp only [Fs] at hF
    refine Wc.seq ?_
    refine Wc.reg fun K hK => ?_; simp only [go_sem, ti3, ti4, ti32, ti39, ti41, ti31, ti29, ti22, ti26, ti23, ti24, ti52, ti53, ti54, ti55, ti56, ti58, Int.natCast_zero, hF]; refine hK _ _ ?_; clear hK K
    refine Wc.seq ?_
    refine Wc.cond (t := false) (by simp only [go_sem, ti3, ti4, ti32, ti39, ti41, ti31, ti29, ti22, ti26, ti23, ti24, ti52, ti53, ti54, ti55, ti56, ti58, Int.natCast_zero, hF]) (fun hc => by cases hc) (fun _ => ?_)
    exact Wc.exit ⟨rfl, by simp only [Fs, Int.natCast_zero, go_sem, ti3, ti4, ti32, ti39, ti41, ti31, ti29, ti22, ti26, ti23, ti24, ti52, ti53, ti54, ti55, ti56, ti58, Int.natCast_zero, hF]⟩
  · rintro ⟨e, ds, s1⟩ ⟨rfl, hF⟩
    simp only [Fs] at hF
    refine Wc.seq ?_
    refine Wc.reg fun K hK => ?_; simp only [go_sem, ti3, ti4, ti32, ti39, ti41, ti31, ti29, ti22, ti26, ti23, ti24, ti52, ti53, ti54, ti55, ti56, ti58, Int.natCast_zero, hF]; refine hK _ _ ?_; clear hK K
    exact Wc.ret (Pf.ret [.tmp 8] [.c (.p (pI 0))] rfl rfl (by simp only [resultsD, go_sem, ti3, ti4, ti32, ti39, ti41, ti31, ti29, ti22, ti26, ti23, ti24, ti52, ti53, ti54, ti55, ti56, ti58, Int.natCast_zero, hF]) rfl)
/-- 87: checkList of nothing -/
theorem pf87 : Pf E0 87 [.c (.p (.lst 0 [])), .c (.p (pI 1000)), .c (.p (.fnc 88)), .c (.p (.fnc 89))] (P' (pI 0)) := by
  refine Pf.body (fn := Tryz.f87) (by kernel_rfl) rfl ?_; simp only [List.map_cons, List.map_nil, List.cons_append, List.nil_append, List.length_cons, List.length_nil, Tryz.ntmps87, List.replicate, Nat.reduceSub, Nat.reduceAdd]
  refine Wc.seq ?_
  refine Wc.reg fun K hK => ?_; simp only [go_sem, ti3, ti4, ti32, ti39, ti41, ti31, ti29, ti22, ti26, ti23, ti24, ti52, ti53, ti54, ti55, ti56, ti58, Int.natCast_zero]; refine hK _ _ ?_; clear hK K
  refine Wc.seq (Wc.seq ?_)
  refine Wc.reg fun K hK => ?_; simp only [go_sem, ti3, ti4, ti32, ti39, ti41, ti31, ti29, ti22, ti26, ti23, ti24, ti52, ti53, ti54, ti55, ti56, ti58, Int.natCast_zero]; refine hK _ _ ?_; clear hK K
  refine Wc.cond (t := false) (by simp only [go_sem, ti3, ti4, ti32, ti39, ti41, ti31, ti29, ti22, ti26, ti23, ti24, ti52, ti53, ti54, ti55, ti56, ti58, Int.natCast_zero, decide_eq_true_eq]) (fun hc => by cases hc) (fun _ => ?_)
  refine Wc.skip (Wc.seqR (fun y => y.ds = [] ∧ Fs y.e 40 []) ?_ ?_)
  · refine Wc.seq ?_
    refine Wc.reg fun K hK => ?_; simp only [go_sem, ti3, ti4, ti32, ti39, ti41, ti31, ti29, ti22, ti26, ti23, ti24, ti52, ti53, ti54, ti55, ti56, ti58, Int.natCast_zero]; refine hK _ _ ?_; clear hK K
    refine Wc.block (Wc.loop (fun k y => k = 0 ∧ y.ds = [] ∧ Fs y.e 40 [(16, P' (pI 0)), (17, P' (pI 0))]) ?_ (k := 0) ⟨rfl, rfl, by simp only [Fs, Int.natCast_zero, go_sem, ti3, ti4, ti32, ti39, ti41, ti31, ti29, ti22, ti26, ti23, ti24, ti52, ti53, ti54, ti55, ti56, ti58, Int.natCast_zero]⟩)
    rintro k ⟨e, ds, s1⟩ ⟨rfl, rfl, hF⟩
    simp only [Fs] at hF
    refine Wc.seq ?_
    refine Wc.reg fun K hK => ?_; simp only [go_sem, ti3, ti4, ti32, ti39, ti41, ti31, ti29, ti22, ti26, ti23, ti24, ti52, ti53, ti54, ti55, ti56, ti58, Int.natCast_zero, hF]; refine hK _ _ ?_; clear hK K
    refine Wc.seq ?_
    refine Wc.cond (t := false) (by simp only [go_sem, ti3, ti4, ti32, ti39, ti41, ti31, ti29, ti22, ti26, ti23, ti24, ti52, ti53, ti54, ti55, ti56, ti58, Int.natCast_zero, hF]) (fun hc => by cases hc) (fun _ => ?_)
    exact Wc.exit ⟨rfl, by simp only [Fs, Int.natCast_zero, go_sem, ti3, ti4, ti32, ti39, ti41, ti31, ti29, ti22, ti26, ti23, ti24, ti52, ti53, ti54, ti55, ti56, ti58, Int.natCast_zero, hF]⟩
  · rintro ⟨e, ds, s1⟩ ⟨rfl, hF⟩
    simp only [Fs] at hF
    refine Wc.seq ?_
    refine Wc.reg fun K hK => ?_; simp only [go_sem, ti3, ti4, ti32, ti39, ti41, ti31, ti29, ti22, ti26, ti23, ti24, ti52, ti53, ti54, ti55, ti56, ti58, Int.natCast_zero, hF]; refine hK _ _ ?_; clear hK K
    exact Wc.ret (Pf.ret [.tmp 8] [.c (.p (pI 0))] rfl rfl (by simp only [resultsD, go_sem, ti3, ti4, ti32, ti39, ti41, ti31, ti29, ti22, ti26, ti23, ti24, ti52, ti53, ti54, ti55, ti56, ti58, Int.natCast_zero, hF]) rfl)
/-- 82: crowded, nothing -/
theorem pf82 : Pf E0 82 [.c (.p (.lst 0 []))] (P' (.bool false)) := by
  refine Pf.body (fn := Tryz.f82) (by kernel_rfl) rfl ?_; simp only [List.map_cons, List.map_nil, List.cons_append, List.nil_append, List.length_cons, List.length_nil, Tryz.ntmps82, List.replicate, Nat.reduceSub, Nat.reduceAdd]
  refine Wc.seq ?_
  refine Wc.reg fun K hK => ?_; simp only [go_sem, ti3, ti4, ti32, ti39, ti41, ti31, ti29, ti22, ti26, ti23, ti24, ti52, ti53, ti54, ti55, ti56, ti58, Int.natCast_zero]; refine hK _ _ ?_; clear hK K
  refine Wc.seq ?_
  refine Wc.reg fun K hK => ?_; simp only [go_sem, ti3, ti4, ti32, ti39, ti41, ti31, ti29, ti22, ti26, ti23, ti24, ti52, ti53, ti54, ti55, ti56, ti58, Int.natCast_zero]; refine hK _ _ ?_; clear hK K
  refine Wc.seqR (fun y => y.ds = [] ∧ Fs y.e 31 []) ?_ ?_
  · refine Wc.seq ?_
    refine Wc.reg fun K hK => ?_; simp only [go_sem, ti3, ti4, ti32, ti39, ti41, ti31, ti29, ti22, ti26, ti23, ti24, ti52, ti53, ti54, ti55, ti56, ti58, Int.natCast_zero]; refine hK _ _ ?_; clear hK K
    refine Wc.block (Wc.loop (fun k y => k = 0 ∧ y.ds = [] ∧ Fs y.e 31 [(7, P' (pI 0)), (8, P' (pI 0))]) ?_ (k := 0) ⟨rfl, rfl, by simp only [Fs, Int.natCast_zero, go_sem, ti3, ti4, ti32, ti39, ti41, ti31, ti29, ti22, ti26, ti23, ti24, ti52, ti53, ti54, ti55, ti56, ti58, Int.natCast_zero]⟩)
    rintro k ⟨e, ds, s1⟩ ⟨rfl, rfl, hF⟩
    simp only [Fs] at hF
    refine Wc.seq ?_
    refine Wc.reg fun K hK => ?_; simp only [go_sem, ti3, ti4, ti32, ti39, ti41, ti31, ti29, ti22, ti26, ti23, ti24, ti52, ti53, ti54, ti55, ti56, ti58, Int.natCast_zero, hF]; refine hK _ _ ?_; clear hK K
    refine Wc.seq ?_
    refine Wc.cond (t := false) (by simp only [go_sem, ti3, ti4, ti32, ti39, ti41, ti31, ti29, ti22, ti26, ti23, ti24, ti52, ti53, ti54, ti55, ti56, ti58, Int.natCast_zero, hF]) (fun hc => by cases hc) (fun _ => ?_)
    exact Wc.exit ⟨rfl, by simp only [Fs, Int.natCast_zero, go_sem, ti3, ti4, ti32, ti39, ti41, ti31, ti29, ti22, ti26, ti23, ti24, ti52, ti53, ti54, ti55, ti56, ti58, Int.natCast_zero, hF]⟩
  · rintro ⟨e, ds, s1⟩ ⟨rfl, hF⟩
    simp only [Fs] at hF
    refine Wc.seq ?_
    refine Wc.reg fun K hK => ?_; simp only [go_sem, ti3, ti4, ti32, ti39, ti41, ti31, ti29, ti22, ti26, ti23, ti24, ti52, ti53, ti54, ti55, ti56, ti58, Int.natCast_zero, hF]; refine hK _ _ ?_; clear hK K
    exact Wc.ret (Pf.ret [.tmp 2] [.c (.p (.bool false))] rfl rfl (by simp only [resultsD, go_sem, ti3, ti4, ti32, ti39, ti41, ti31, ti29, ti22, ti26, ti23, ti24, ti52, ti53, ti54, ti55, ti56, ti58, Int.natCast_zero, hF]) rfl)
/-- 71: checkList of one series -/
theorem pf71 (x : Ser) (z : x.Sz) : Pf E0 71 [.c (.p (.lst 1 x.pd)), .c (.p (pI 1000)), .c (.p (.fnc 72)), .c (.p (.fnc 73))] (P' (pI (if serOK x then 0 else 1))) := by
  have p := pf72 x z
  have hRt : serOK x = true → (if serOK x = true then (0 : Int) else 1) = 0 := fun h => if_pos h
  have hRf : serOK x = false → (if serOK x = true then (0 : Int) else 1) = 1 := fun h => if_neg (by rw [h]; simp)
  generalize (if serOK x = true then (0 : Int) else 1) = R at hRt hRf ⊢
  have w1 : IntKind.i64.wrap 1 = 1 := rfl
  have w2 : IntKind.i64.wrap (0 + 1) = 1 := rfl
  have hix : indexAddrD E0 52 (.v (.c (.p (.lst 1 x.pd)))) (.v (.c (.p (.int .i64 0)))) = some (.v (.c (.rp x.pd 0))) := ixA ti52 rfl ti26 (j := 0) (m := 1) (cs := x.pd) (by omega) rfl (by decide)
  have hca := rpA (cs := x.pd) (off := 0) (pre := x.pd) (rest := []) (by simp) (by simp)
  refine Pf.body (fn := Tryz.f71) (by kernel_rfl) rfl ?_; simp only [List.map_cons, List.map_nil, List.cons_append, List.nil_append, List.length_cons, List.length_nil, Tryz.ntmps71, List.replicate, Nat.reduceSub, Nat.reduceAdd]
  refine Wc.seq ?_
  refine Wc.reg fun K hK => ?_; simp only [go_sem, ti3, ti4, ti32, ti39, ti41, ti31, ti29, ti22, ti26, ti23, ti24, ti52, ti53, ti54, ti55, ti56, ti58, Int.natCast_zero]; refine hK _ _ ?_; clear hK K
  refine Wc.seq (Wc.seq ?_)
  refine Wc.reg fun K hK => ?_; simp only [go_sem, ti3, ti4, ti32, ti39, ti41, ti31, ti29, ti22, ti26, ti23, ti24, ti52, ti53, ti54, ti55, ti56, ti58, Int.natCast_zero]; refine hK _ _ ?_; clear hK K
  refine Wc.cond (t := false) (by simp only [go_sem, ti3, ti4, ti32, ti39, ti41, ti31, ti29, ti22, ti26, ti23, ti24, ti52, ti53, ti54, ti55, ti56, ti58, Int.natCast_zero, Int.natCast_one]) (fun hc => by cases hc) (fun _ => ?_)
  refine Wc.skip (Wc.seqR (fun y => serOK x = true ∧ y.ds = [] ∧ Fs y.e 40 []) ?_ ?_)
  · refine Wc.seq ?_
    refine Wc.reg fun K hK => ?_; simp only [go_sem, ti3, ti4, ti32, ti39, ti41, ti31, ti29, ti22, ti26, ti23, ti24, ti52, ti53, ti54, ti55, ti56, ti58, Int.natCast_zero, Int.natCast_one]; refine hK _ _ ?_; clear hK K
    refine Wc.block (Wc.loop (fun k y => ∃ i : Nat, k = 1 - i ∧ (i = 0 ∨ i = 1 ∧ serOK x = true) ∧ y.ds = [] ∧ Fs y.e 40 [(0, P' (.lst 1 x.pd)), (2, P' (.fnc 72)), (15, P' (.lst 1 x.pd)), (16, P' (pI 1)), (17, P' (pI i))]) ?_ (k := 1) ⟨0, rfl, .inl rfl, rfl, by simp only [Fs, Int.natCast_zero, go_sem, ti3, ti4, ti32, ti39, ti41, ti31, ti29, ti22, ti26, ti23, ti24, ti52, ti53, ti54, ti55, ti56, ti58, Int.natCast_zero]⟩)
    rintro k ⟨e, ds, s1⟩ ⟨i, rfl, hi, rfl, hF⟩
    simp only [Fs] at hF
    rcases hi with rfl | ⟨rfl, hok⟩
    · simp only [Int.natCast_zero] at hF
      refine Wc.seq ?_
      refine Wc.reg fun K hK => ?_; simp only [go_sem, ti3, ti4, ti32, ti39, ti41, ti31, ti29, ti22, ti26, ti23, ti24, ti52, ti53, ti54, ti55, ti56, ti58, Int.natCast_zero, hF]; refine hK _ _ ?_; clear hK K
      refine Wc.seq ?_
      refine Wc.cond (t := true) (by simp only [go_sem, ti3, ti4, ti32, ti39, ti41, ti31, ti29, ti22, ti26, ti23, ti24, ti52, ti53, ti54, ti55, ti56, ti58, Int.natCast_zero, hF]) (fun _ => ?_) (fun hc => by cases hc)
      refine Wc.skip (Wc.seq (Wc.block (Wc.seq ?_)))
      refine Wc.reg fun K hK => ?_; simp only [go_sem, ti3, ti4, ti32, ti39, ti41, ti31, ti29, ti22, ti26, ti23, ti24, ti52, ti53, ti54, ti55, ti56, ti58, Int.natCast_zero, hF, hix, hca]; refine hK _ _ ?_; clear hK K
      refine Wc.seq (Wc.seq ?_)
      refine Wc.reg fun K hK => ?_; simp only [go_sem, ti3, ti4, ti32, ti39, ti41, ti31, ti29, ti22, ti26, ti23, ti24, ti52, ti53, ti54, ti55, ti56, ti58, Int.natCast_zero, hF]
      refine wpCall.pf (p) (by kernel_rfl) (by kernel_rfl) rfl rfl ?_
      cases hok : serOK x with
      | false =>
        simp only [go_sem, ti3, ti4, ti32, ti39, ti41, ti31, ti29, ti22, ti26, ti23, ti24, ti52, ti53, ti54, ti55, ti56, ti58, Int.natCast_zero, hF]; refine hK _ _ ?_; clear hK K
        refine Wc.cond (t := true) (by simp only [go_sem, ti3, ti4, ti32, ti39, ti41, ti31, ti29, ti22, ti26, ti23, ti24, ti52, ti53, ti54, ti55, ti56, ti58, Int.natCast_zero, hF]) (fun _ => ?_) (fun hc => by cases hc)
        refine Wc.seq ?_
        refine Wc.reg fun K hK => ?_; simp only [go_sem, ti3, ti4, ti32, ti39, ti41, ti31, ti29, ti22, ti26, ti23, ti24, ti52, ti53, ti54, ti55, ti56, ti58, Int.natCast_zero, hF]; refine hK _ _ ?_; clear hK K
        rw [hRf hok]
        exact Wc.ret (Pf.ret [.tmp 8] [.c (.p (pI 1))] rfl rfl (by simp only [resultsD, go_sem, ti3, ti4, ti32, ti39, ti41, ti31, ti29, ti22, ti26, ti23, ti24, ti52, ti53, ti54, ti55, ti56, ti58, Int.natCast_zero, hF]) rfl)
      | true =>
        simp only [go_sem, ti3, ti4, ti32, ti39, ti41, ti31, ti29, ti22, ti26, ti23, ti24, ti52, ti53, ti54, ti55, ti56, ti58, Int.natCast_zero, hF]; refine hK _ _ ?_; clear hK K
        refine Wc.cond (t := false) (by simp only [go_sem, ti3, ti4, ti32, ti39, ti41, ti31, ti29, ti22, ti26, ti23, ti24, ti52, ti53, ti54, ti55, ti56, ti58, Int.natCast_zero, hF]) (fun hc => by cases hc) (fun _ => Wc.skip ?_)
        refine Wc.seq ?_
        refine Wc.regD fun K hK => ?_; simp only [go_sem, ti3, ti4, ti32, ti39, ti41, ti31, ti29, ti22, ti26, ti23, ti24, ti52, ti53, ti54, ti55, ti56, ti58, Int.natCast_zero, hF]; refine hK _ _ ?_; clear hK K
        refine Wc.cond (t := false) (by simp only [go_sem, ti3, ti4, ti32, ti39, ti41, ti31, ti29, ti22, ti26, ti23, ti24, ti52, ti53, ti54, ti55, ti56, ti58, Int.natCast_zero, hF]) (fun hc => by cases hc) (fun _ => ?_)
        refine Wc.skip ?_
        refine Wc.reg fun K hK => ?_; simp only [go_sem, ti3, ti4, ti32, ti39, ti41, ti31, ti29, ti22, ti26, ti23, ti24, ti52, ti53, ti54, ti55, ti56, ti58, Int.natCast_zero, hF, w1, w2]; refine hK _ _ ?_; clear hK K
        exact ⟨0, by omega, 1, rfl, .inr ⟨rfl, hok⟩, rfl, by simp only [Fs, Int.natCast_zero, go_sem, ti3, ti4, ti32, ti39, ti41, ti31, ti29, ti22, ti26, ti23, ti24, ti52, ti53, ti54, ti55, ti56, ti58, Int.natCast_zero, hF, Int.natCast_one]⟩
    · simp only [Int.natCast_one] at hF
      refine Wc.seq ?_
      refine Wc.reg fun K hK => ?_; simp only [go_sem, ti3, ti4, ti32, ti39, ti41, ti31, ti29, ti22, ti26, ti23, ti24, ti52, ti53, ti54, ti55, ti56, ti58, Int.natCast_zero, hF]; refine hK _ _ ?_; clear hK K
      refine Wc.seq ?_
      refine Wc.cond (t := false) (by simp only [go_sem, ti3, ti4, ti32, ti39, ti41, ti31, ti29, ti22, ti26, ti23, ti24, ti52, ti53, ti54, ti55, ti56, ti58, Int.natCast_zero, hF]) (fun hc => by cases hc) (fun _ => ?_)
      exact Wc.exit ⟨hok, rfl, by simp only [Fs, Int.natCast_zero, go_sem, ti3, ti4, ti32, ti39, ti41, ti31, ti29, ti22, ti26, ti23, ti24, ti52, ti53, ti54, ti55, ti56, ti58, Int.natCast_zero, hF]⟩
  · rintro ⟨e, ds, s1⟩ ⟨hok, rfl, hF⟩
    simp only [Fs] at hF
    rw [hRt hok]
    refine Wc.seq ?_
    refine Wc.reg fun K hK => ?_; simp only [go_sem, ti3, ti4, ti32, ti39, ti41, ti31, ti29, ti22, ti26, ti23, ti24, ti52, ti53, ti54, ti55, ti56, ti58, Int.natCast_zero, hF]; refine hK _ _ ?_; clear hK K
    exact Wc.ret (Pf.ret [.tmp 8] [.c (.p (pI 0))] rfl rfl (by simp only [resultsD, go_sem, ti3, ti4, ti32, ti39, ti41, ti31, ti29, ti22, ti26, ti23, ti24, ti52, ti53, ti54, ti55, ti56, ti58, Int.natCast_zero, hF]) rfl)
theorem b10 : ((1 : Int) != 0) = true := rfl
/-- 42: head.CheckData of one series -/
theorem pf42 (x : Ser) (z : x.Sz) : Pf E0 42 [.agg [.p (.lst 1 x.pd), .p (.lst 0 []), .p (.lst 0 []), .p (.lst 0 []), .p (.lst 0 [])]] (P' (pI (if serOK x then 0 else 1))) := by
  have p := pf71 x z
  refine Pf.body (fn := Tryz.f42) (by kernel_rfl) rfl ?_; simp only [List.map_cons, List.map_nil, List.cons_append, List.nil_append, List.length_cons, List.length_nil, Tryz.ntmps42, List.replicate, Nat.reduceSub, Nat.reduceAdd]
  refine Wc.seq ?_
  refine Wc.reg fun K hK => ?_; simp only [go_sem, ti3, ti4, ti32, ti39, ti41, ti31, ti29, ti22, ti26, ti23, ti24, ti52, ti53, ti54, ti55, ti56, ti58, Int.natCast_zero]; refine hK _ _ ?_; clear hK K
  refine Wc.seq (Wc.seq ?_)
  cases hok : serOK x with
  | false =>
    rw [hok] at p
    refine Wc.reg fun K hK => ?_; simp only [go_sem, ti3, ti4, ti32, ti39, ti41, ti31, ti29, ti22, ti26, ti23, ti24, ti52, ti53, ti54, ti55, ti56, ti58, Int.natCast_zero]
    refine wpCall.pf (p) (by kernel_rfl) (by kernel_rfl) rfl rfl ?_
    simp only [go_sem, ti3, ti4, ti32, ti39, ti41, ti31, ti29, ti22, ti26, ti23, ti24, ti52, ti53, ti54, ti55, ti56, ti58, Int.natCast_zero]; refine hK _ _ ?_; clear hK K
    refine Wc.seq ?_
    refine Wc.reg fun K hK => ?_; simp only [go_sem, ti3, ti4, ti32, ti39, ti41, ti31, ti29, ti22, ti26, ti23, ti24, ti52, ti53, ti54, ti55, ti56, ti58, Int.natCast_zero]; refine hK _ _ ?_; clear hK K
    refine Wc.cond (t := true) (by simp only [go_sem, ti3, ti4, ti32, ti39, ti41, ti31, ti29, ti22, ti26, ti23, ti24, ti52, ti53, ti54, ti55, ti56, ti58, Int.natCast_zero, b10]) (fun _ => ?_) (fun hc => by cases hc)
    refine Wc.seq ?_
    refine Wc.reg fun K hK => ?_; simp only [go_sem, ti3, ti4, ti32, ti39, ti41, ti31, ti29, ti22, ti26, ti23, ti24, ti52, ti53, ti54, ti55, ti56, ti58, Int.natCast_zero]; refine hK _ _ ?_; clear hK K
    exact Wc.ret (Pf.ret [.tmp 2] [.c (.p (pI 1))] rfl rfl (by simp only [resultsD, go_sem, ti3, ti4, ti32, ti39, ti41, ti31, ti29, ti22, ti26, ti23, ti24, ti52, ti53, ti54, ti55, ti56, ti58, Int.natCast_zero]) rfl)
  | true =>
    rw [hok] at p
    refine Wc.reg fun K hK => ?_; simp only [go_sem, ti3, ti4, ti32, ti39, ti41, ti31, ti29, ti22, ti26, ti23, ti24, ti52, ti53, ti54, ti55, ti56, ti58, Int.natCast_zero]
    refine wpCall.pf (p) (by kernel_rfl) (by kernel_rfl) rfl rfl ?_
    simp only [go_sem, ti3, ti4, ti32, ti39, ti41, ti31, ti29, ti22, ti26, ti23, ti24, ti52, ti53, ti54, ti55, ti56, ti58, Int.natCast_zero]; refine hK _ _ ?_; clear hK K
    refine Wc.seq ?_
    refine Wc.reg fun K hK => ?_; simp only [go_sem, ti3, ti4, ti32, ti39, ti41, ti31, ti29, ti22, ti26, ti23, ti24, ti52, ti53, ti54, ti55, ti56, ti58, Int.natCast_zero]; refine hK _ _ ?_; clear hK K
    refine Wc.cond (t := false) (by simp only [go_sem, ti3, ti4, ti32, ti39, ti41, ti31, ti29, ti22, ti26, ti23, ti24, ti52, ti53, ti54, ti55, ti56, ti58, Int.natCast_zero, bne_self_eq_false]) (fun hc => by cases hc) (fun _ => Wc.skip ?_)
    refine Wc.seq ?_
    refine Wc.reg fun K hK => ?_; simp only [go_sem, ti3, ti4, ti32, ti39, ti41, ti31, ti29, ti22, ti26, ti23, ti24, ti52, ti53, ti54, ti55, ti56, ti58, Int.natCast_zero]; refine hK _ _ ?_; clear hK K
    refine Wc.seq (Wc.seq ?_)
    refine Wc.reg fun K hK => ?_; simp only [go_sem, ti3, ti4, ti32, ti39, ti41, ti31, ti29, ti22, ti26, ti23, ti24, ti52, ti53, ti54, ti55, ti56, ti58, Int.natCast_zero]
    refine wpCall.pf (pf76) (by kernel_rfl) (by kernel_rfl) rfl rfl ?_
    simp only [go_sem, ti3, ti4, ti32, ti39, ti41, ti31, ti29, ti22, ti26, ti23, ti24, ti52, ti53, ti54, ti55, ti56, ti58, Int.natCast_zero]; refine hK _ _ ?_; clear hK K
    refine Wc.seq ?_
    refine Wc.reg fun K hK => ?_; simp only [go_sem, ti3, ti4, ti32, ti39, ti41, ti31, ti29, ti22, ti26, ti23, ti24, ti52, ti53, ti54, ti55, ti56, ti58, Int.natCast_zero]; refine hK _ _ ?_; clear hK K
    refine Wc.cond (t := false) (by simp only [go_sem, ti3, ti4, ti32, ti39, ti41, ti31, ti29, ti22, ti26, ti23, ti24, ti52, ti53, ti54, ti55, ti56, ti58, Int.natCast_zero, bne_self_eq_false]) (fun hc => by cases hc) (fun _ => Wc.skip ?_)
    refine Wc.seq ?_
    refine Wc.reg fun K hK => ?_; simp only [go_sem, ti3, ti4, ti32, ti39, ti41, ti31, ti29, ti22, ti26, ti23, ti24, ti52, ti53, ti54, ti55, ti56, ti58, Int.natCast_zero]; refine hK _ _ ?_; clear hK K
    refine Wc.seq (Wc.seq ?_)
    refine Wc.reg fun K hK => ?_; simp only [go_sem, ti3, ti4, ti32, ti39, ti41, ti31, ti29, ti22, ti26, ti23, ti24, ti52, ti53, ti54, ti55, ti56, ti58, Int.natCast_zero]
    refine wpCall.pf (pf80) (by kernel_rfl) (by kernel_rfl) rfl rfl ?_
    simp only [go_sem, ti3, ti4, ti32, ti39, ti41, ti31, ti29, ti22, ti26, ti23, ti24, ti52, ti53, ti54, ti55, ti56, ti58, Int.natCast_zero]; refine hK _ _ ?_; clear hK K
    refine Wc.seq ?_
    refine Wc.reg fun K hK => ?_; simp only [go_sem, ti3, ti4, ti32, ti39, ti41, ti31, ti29, ti22, ti26, ti23, ti24, ti52, ti53, ti54, ti55, ti56, ti58, Int.natCast_zero]; refine hK _ _ ?_; clear hK K
    refine Wc.cond (t := false) (by simp only [go_sem, ti3, ti4, ti32, ti39, ti41, ti31, ti29, ti22, ti26, ti23, ti24, ti52, ti53, ti54, ti55, ti56, ti58, Int.natCast_zero, bne_self_eq_false]) (fun hc => by cases hc) (fun _ => Wc.skip ?_)
    refine Wc.seq (Wc.seq ?_)
    refine Wc.reg fun K hK => ?_; simp only [go_sem, ti3, ti4, ti32, ti39, ti41, ti31, ti29, ti22, ti26, ti23, ti24, ti52, ti53, ti54, ti55, ti56, ti58, Int.natCast_zero]
    refine wpCall.pf (pf82) (by kernel_rfl) (by kernel_rfl) rfl rfl ?_
    simp only [go_sem, ti3, ti4, ti32, ti39, ti41, ti31, ti29, ti22, ti26, ti23, ti24, ti52, ti53, ti54, ti55, ti56, ti58, Int.natCast_zero]; refine hK _ _ ?_; clear hK K
    refine Wc.cond (t := false) (by simp only [go_sem, ti3, ti4, ti32, ti39, ti41, ti31, ti29, ti22, ti26, ti23, ti24, ti52, ti53, ti54, ti55, ti56, ti58, Int.natCast_zero]) (fun hc => by cases hc) (fun _ => Wc.skip ?_)
    refine Wc.seq ?_
    refine Wc.reg fun K hK => ?_; simp only [go_sem, ti3, ti4, ti32, ti39, ti41, ti31, ti29, ti22, ti26, ti23, ti24, ti52, ti53, ti54, ti55, ti56, ti58, Int.natCast_zero]; refine hK _ _ ?_; clear hK K
    refine Wc.seq (Wc.seq ?_)
    refine Wc.reg fun K hK => ?_; simp only [go_sem, ti3, ti4, ti32, ti39, ti41, ti31, ti29, ti22, ti26, ti23, ti24, ti52, ti53, ti54, ti55, ti56, ti58, Int.natCast_zero]
    refine wpCall.pf (pf85) (by kernel_rfl) (by kernel_rfl) rfl rfl ?_
    simp only [go_sem, ti3, ti4, ti32, ti39, ti41, ti31, ti29, ti22, ti26, ti23, ti24, ti52, ti53, ti54, ti55, ti56, ti58, Int.natCast_zero]; refine hK _ _ ?_; clear hK K
    refine Wc.seq ?_
    refine Wc.reg fun K hK => ?_; simp only [go_sem, ti3, ti4, ti32, ti39, ti41, ti31, ti29, ti22, ti26, ti23, ti24, ti52, ti53, ti54, ti55, ti56, ti58, Int.natCast_zero]; refine hK _ _ ?_; clear hK K
    refine Wc.cond (t := false) (by simp only [go_sem, ti3, ti4, ti32, ti39, ti41, ti31, ti29, ti22, ti26, ti23, ti24, ti52, ti53, ti54, ti55, ti56, ti58, Int.natCast_zero, bne_self_eq_false]) (fun hc => by cases hc) (fun _ => Wc.skip ?_)
    refine Wc.seq ?_
    refine Wc.reg fun K hK => ?_; simp only [go_sem, ti3, ti4, ti32, ti39, ti41, ti31, ti29, ti22, ti26, ti23, ti24, ti52, ti53, ti54, ti55, ti56, ti58, Int.natCast_zero]
    refine wpCall.pf (pf87) (by kernel_rfl) (by kernel_rfl) rfl rfl ?_
    simp only [go_sem, ti3, ti4, ti32, ti39, ti41, ti31, ti29, ti22, ti26, ti23, ti24, ti52, ti53, ti54, ti55, ti56, ti58, Int.natCast_zero]; refine hK _ _ ?_; clear hK K
    exact Wc.ret (Pf.ret [.tmp 2] [.c (.p (pI 0))] rfl rfl (by simp only [resultsD, go_sem, ti3, ti4, ti32, ti39, ti41, ti31, ti29, ti22, ti26, ti23, ti24, ti52, ti53, ti54, ti55, ti56, ti58, Int.natCast_zero]) rfl)
/-- 13: Of -/
theorem pf13 (x : Ser) (z : x.Sz) (w : Int) : Pf E0 13 [.agg (x.pd.map .p), .c (.p (pI w))] (resR (ofR x w) (ofC x w)) := by
  have p := pf42 x z
  refine Pf.body (fn := Tryz.f13) (by kernel_rfl) rfl ?_; simp only [List.map_cons, List.map_nil, List.cons_append, List.nil_append, List.length_cons, List.length_nil, Tryz.ntmps13, List.replicate, Nat.reduceSub, Nat.reduceAdd]
  refine Wc.seq ?_
  refine Wc.reg fun K hK => ?_; simp only [go_sem, ti3, ti4, ti32, ti39, ti41, ti31, ti29, ti22, ti26, ti23, ti24, ti52, ti53, ti54, ti55, ti56, ti58, Int.natCast_zero]; refine hK _ _ ?_; clear hK K
  refine Wc.seq (Wc.seq ?_)
  refine Wc.reg fun K hK => ?_; simp only [go_sem, ti3, ti4, ti32, ti39, ti41, ti31, ti29, ti22, ti26, ti23, ti24, ti52, ti53, ti54, ti55, ti56, ti58, Int.natCast_zero]
  refine wpCall.pf (p) (by kernel_rfl) (by kernel_rfl) rfl rfl ?_
  cases hok : serOK x with
  | false =>
    simp only [go_sem, ti3, ti4, ti32, ti39, ti41, ti31, ti29, ti22, ti26, ti23, ti24, ti52, ti53, ti54, ti55, ti56, ti58, Int.natCast_zero]; refine hK _ _ ?_; clear hK K
    refine Wc.cond (t := true) (by simp only [go_sem, ti3, ti4, ti32, ti39, ti41, ti31, ti29, ti22, ti26, ti23, ti24, ti52, ti53, ti54, ti55, ti56, ti58, Int.natCast_zero, b10]) (fun _ => ?_) (fun hc => by cases hc)
    refine Wc.seq ?_
    refine Wc.reg fun K hK => ?_; simp only [go_sem, ti3, ti4, ti32, ti39, ti41, ti31, ti29, ti22, ti26, ti23, ti24, ti52, ti53, ti54, ti55, ti56, ti58, Int.natCast_zero]; refine hK _ _ ?_; clear hK K
    have e : ofC x w = 1 := by unfold ofC; rw [if_pos hok]
    rw [ofR, e]
    exact Wc.ret (Pf.ret [.cell 4 31, .tmp 5] [.agg [.nils, .p (pI 0), .p (pI 0), .nils], .c (.p (pI 1))] rfl rfl (by simp only [resultsD, go_sem, ti3, ti4, ti32, ti39, ti41, ti31, ti29, ti22, ti26, ti23, ti24, ti52, ti53, ti54, ti55, ti56, ti58, Int.natCast_zero]) rfl)
  | true =>
  simp only [go_sem, ti3, ti4, ti32, ti39, ti41, ti31, ti29, ti22, ti26, ti23, ti24, ti52, ti53, ti54, ti55, ti56, ti58, Int.natCast_zero]; refine hK _ _ ?_; clear hK K
  refine Wc.cond (t := false) (by simp only [go_sem, ti3, ti4, ti32, ti39, ti41, ti31, ti29, ti22, ti26, ti23, ti24, ti52, ti53, ti54, ti55, ti56, ti58, Int.natCast_zero, bne_self_eq_false]) (fun hc => by cases hc) (fun _ => Wc.skip ?_)
  refine Wc.seq (Wc.seq ?_)
  refine Wc.reg fun K hK => ?_; simp only [go_sem, ti3, ti4, ti32, ti39, ti41, ti31, ti29, ti22, ti26, ti23, ti24, ti52, ti53, ti54, ti55, ti56, ti58, Int.natCast_zero]; refine hK _ _ ?_; clear hK K
  refine Wc.cond (t := x.k == 3) (by simp only [go_sem, ti3, ti4, ti32, ti39, ti41, ti31, ti29, ti22, ti26, ti23, ti24, ti52, ti53, ti54, ti55, ti56, ti58, Int.natCast_zero]) (fun hc => ?_) (fun hc => ?_)
  · have hk : x.k = 3 := by simpa using hc
    refine Wc.seq ?_
    refine Wc.reg fun K hK => ?_; simp only [go_sem, ti3, ti4, ti32, ti39, ti41, ti31, ti29, ti22, ti26, ti23, ti24, ti52, ti53, ti54, ti55, ti56, ti58, Int.natCast_zero]; refine hK _ _ ?_; clear hK K
    have e : ofC x w = 8 := by unfold ofC; rw [if_neg (by simp [hok]), if_pos hk]
    rw [ofR, e]
    exact Wc.ret (Pf.ret [.cell 4 31, .tmp 5] [.agg [.nils, .p (pI 0), .p (pI 0), .nils], .c (.p (pI 8))] rfl rfl (by simp only [resultsD, go_sem, ti3, ti4, ti32, ti39, ti41, ti31, ti29, ti22, ti26, ti23, ti24, ti52, ti53, ti54, ti55, ti56, ti58, Int.natCast_zero]) rfl)
  have hk : ¬ x.k = 3 := by simpa using hc
  refine Wc.skip (Wc.seq (Wc.seq ?_))
  by_cases w1 : w < 1
  · refine Wc.reg fun K hK => ?_; simp only [go_sem, ti3, ti4, ti32, ti39, ti41, ti31, ti29, ti22, ti26, ti23, ti24, ti52, ti53, ti54, ti55, ti56, ti58, Int.natCast_zero, w1]; refine hK _ _ ?_; clear hK K
    refine Wc.cond (t := true) (by simp only [go_sem, ti3, ti4, ti32, ti39, ti41, ti31, ti29, ti22, ti26, ti23, ti24, ti52, ti53, ti54, ti55, ti56, ti58, Int.natCast_zero]) (fun _ => ?_) (fun hc => by cases hc)
    refine Wc.seq ?_
    refine Wc.reg fun K hK => ?_; simp only [go_sem, ti3, ti4, ti32, ti39, ti41, ti31, ti29, ti22, ti26, ti23, ti24, ti52, ti53, ti54, ti55, ti56, ti58, Int.natCast_zero]; refine hK _ _ ?_; clear hK K
    have e : ofC x w = 2 := by unfold ofC; rw [if_neg (by simp [hok]), if_neg hk, if_pos (by simp [btw]; omega)]
    rw [ofR, e]
    exact Wc.ret (Pf.ret [.cell 4 31, .tmp 5] [.agg [.nils, .p (pI 0), .p (pI 0), .nils], .c (.p (pI 2))] rfl rfl (by simp only [resultsD, go_sem, ti3, ti4, ti32, ti39, ti41, ti31, ti29, ti22, ti26, ti23, ti24, ti52, ti53, ti54, ti55, ti56, ti58, Int.natCast_zero]) rfl)
  refine Wc.reg fun K hK => ?_; simp only [go_sem, ti3, ti4, ti32, ti39, ti41, ti31, ti29, ti22, ti26, ti23, ti24, ti52, ti53, ti54, ti55, ti56, ti58, Int.natCast_zero, w1]; refine hK _ _ ?_; clear hK K
  refine Wc.cond (t := decide (1099511627776 < w)) (by simp only [go_sem, ti3, ti4, ti32, ti39, ti41, ti31, ti29, ti22, ti26, ti23, ti24, ti52, ti53, ti54, ti55, ti56, ti58, Int.natCast_zero]) (fun hc => ?_) (fun hc => ?_)
  · have w2 := of_decide_eq_true hc
    refine Wc.seq ?_
    refine Wc.reg fun K hK => ?_; simp only [go_sem, ti3, ti4, ti32, ti39, ti41, ti31, ti29, ti22, ti26, ti23, ti24, ti52, ti53, ti54, ti55, ti56, ti58, Int.natCast_zero]; refine hK _ _ ?_; clear hK K
    have e : ofC x w = 2 := by unfold ofC; rw [if_neg (by simp [hok]), if_neg hk, if_pos (by simp [btw]; omega)]
    rw [ofR, e]
    exact Wc.ret (Pf.ret [.cell 4 31, .tmp 5] [.agg [.nils, .p (pI 0), .p (pI 0), .nils], .c (.p (pI 2))] rfl rfl (by simp only [resultsD, go_sem, ti3, ti4, ti32, ti39, ti41, ti31, ti29, ti22, ti26, ti23, ti24, ti52, ti53, ti54, ti55, ti56, ti58, Int.natCast_zero]) rfl)
  have w2 := of_decide_eq_false hc
  have hw : 1 ≤ w ∧ w ≤ 1099511627776 := by omega
  have e : ofC x w = 0 := by unfold ofC; rw [if_neg (by simp [hok]), if_neg hk, if_neg (by simp [btw]; omega)]
  rw [ofR, e, if_pos rfl]
  refine Wc.skip (Wc.seq ?_)
  refine Wc.reg fun K hK => ?_; simp only [go_sem, ti3, ti4, ti32, ti39, ti41, ti31, ti29, ti22, ti26, ti23, ti24, ti52, ti53, ti54, ti55, ti56, ti58, Int.natCast_zero]
  refine wpCall.pf (pf43 x (serOK_v hok hk) w hw) (by kernel_rfl) (by kernel_rfl) rfl rfl ?_
  simp only [go_sem, ti3, ti4, ti32, ti39, ti41, ti31, ti29, ti22, ti26, ti23, ti24, ti52, ti53, ti54, ti55, ti56, ti58, Int.natCast_zero]; refine hK _ _ ?_; clear hK K
  exact Wc.ret (Pf.ret [.cell 4 31, .tmp 5] [.agg ((Rlp.mk x.lb x.k w (ofB x.k w x.sm)).pd.map .p), .c (.p (pI 0))] rfl rfl (by simp only [resultsD, go_sem, ti3, ti4, ti32, ti39, ti41, ti31, ti29, ti22, ti26, ti23, ti24, ti52, ti53, ti54, ti55, ti56, ti58, Int.natCast_zero]) rfl)
end Go.Proofs.YtedcnhbblgmdnaaGreat.Ab
namespace Go.Proofs.YtedcnhbblgmdnaaGreat.Ab
set_option maxHeartbeats 8000000
set_option maxRecDepth 10000
set_option linter.unusedSimpArgs false
set_option linter.unusedVariables false
/-! ### valid rollups -/
structure VB (w : Int) (b : Bkt) : Prop where
  c1 : 1 ≤ b.c
  c2 : b.c ≤ 2000
  f1 : -1099511627776 ≤ b.f
  f2 : b.f ≤ 1099511627776
  l1 : -1099511627776 ≤ b.l
  l2 : b.l ≤ 1099511627776
  i1 : 0 ≤ b.inc
  i2 : b.inc ≤ 2197923743924224
  s1 : -2199023255552000 ≤ b.s
  s2 : b.s ≤ 2199023255552000
  t0 : 0 ≤ b.st
  t1 : b.st < 1099511627776
  t2 : b.st < b.ft
  t3 : b.ft ≤ b.lt
  t4 : b.lt ≤ b.st + w
  t5 : b.lt ≤ 1099511627776
  tm : b.st.tmod w = 0
theorem VB.of {k w : Int} {b : Bkt} (hk : k = 1 ∨ k = 2) (h : bkA k w b = true) (t0 : 0 ≤ b.st) (t1 : b.st < 1099511627776) (tm : b.st.tmod w = 0) : VB w b := by
  have hv : ∀ v, okV k v = true → -1099511627776 ≤ v ∧ v ≤ 1099511627776 := fun v hv => by
    simp only [okV, isVl, Bool.and_eq_true, decide_eq_true_eq] at hv
    exact hv.1
  simp only [bkA, Bool.and_eq_true, Bool.not_eq_true'] at h
  obtain ⟨h1, h2, h3, h4, h5, h6, h7⟩ := h
  simp only [bkA1, Bool.or_eq_false_iff, decide_eq_false_iff_not] at h1
  simp only [bkA2, Bool.or_eq_false_iff, decide_eq_false_iff_not] at h2
  simp only [bkA3, Bool.and_eq_true] at h3
  simp only [bkA5, Bool.or_eq_false_iff, decide_eq_false_iff_not] at h5
  simp only [bkA6, Bool.or_eq_false_iff, decide_eq_false_iff_not] at h6
  obtain ⟨m1, m2⟩ := hv _ h3.1
  obtain ⟨x1, x2⟩ := hv _ h3.2.1
  obtain ⟨f1, f2⟩ := hv _ h3.2.2.1
  obtain ⟨l1, l2⟩ := hv _ h3.2.2.2
  have c1 : 1 ≤ b.c := by omega
  have c2 : b.c ≤ 2000 := by omega
  have a1 := mulB c1 c2 m1 m2
  have a2 := mulB c1 c2 x1 x2
  exact ⟨c1, c2, f1, f2, l1, l2, by omega, by omega, by omega, by omega, t0, t1, by omega, by omega, by omega, by omega, tm⟩
theorem bksOK_v {k w : Int} (hk : k = 1 ∨ k = 2) : ∀ {l : List Bkt} {p : Int}, -1 ≤ p → bksOK k w p l = true → AscB l ∧ ∀ b ∈ l, p < b.st ∧ VB w b
  | [], p, _, _ => ⟨List.Pairwise.nil, fun b hb => by cases hb⟩
  | b :: r, p, hp, h => by
    simp only [bksOK, Bool.and_eq_true, Bool.not_eq_true', Bool.or_eq_false_iff, decide_eq_false_iff_not] at h
    obtain ⟨⟨⟨h1, h2⟩, h3⟩, h4, h5⟩ := h
    have hm : b.st.tmod w = 0 := by simpa using h3
    obtain ⟨i1, i2⟩ := bksOK_v hk (show -1 ≤ b.st by omega) h5
    refine ⟨List.pairwise_cons.2 ⟨fun y hy => (i2 y hy).1, i1⟩, fun y hy => ?_⟩
    rcases List.mem_cons.1 hy with rfl | hy
    · exact ⟨by omega, VB.of hk h4 (by omega) (by omega) hm⟩
    · exact ⟨by have := (i2 y hy).1; omega, (i2 y hy).2⟩
structure Rv (x : Rlp) : Prop where
  lb : lckA x.lb = 0
  k : x.k = 1 ∨ x.k = 2
  w1 : 1 ≤ x.w
  w2 : x.w ≤ 1099511627776
  ne : x.bs ≠ []
  len : x.bs.length ≤ 2000
  asc : AscB x.bs
  vb : ∀ b ∈ x.bs, VB x.w b
theorem rlpOK_v {x : Rlp} (h : rlpOK x = true) : Rv x := by
  simp only [rlpOK, Bool.and_eq_true, Bool.not_eq_true', Bool.or_eq_false_iff, decide_eq_false_iff_not] at h
  obtain ⟨⟨h1, h2⟩, ⟨⟨⟨h3, h4⟩, h5⟩, h6⟩, h7⟩ := h
  have hk : x.k = 1 ∨ x.k = 2 := by
    by_cases h8 : x.k = 1
    · exact .inl h8
    · by_cases h9 : x.k = 2
      · exact .inr h9
      · have b1 : (x.k != 1) = true := by simpa using h8
        have b2 : (x.k != 2) = true := by simpa using h9
        rw [b1, b2] at h2; cases h2
  obtain ⟨a1, a2⟩ := bksOK_v hk (by omega) h7
  exact ⟨by simpa using h1, hk, by omega, by omega, fun e => by rw [e] at h5; simp at h5, by omega, a1, fun b hb => (a2 b hb).2⟩
/-- What n valid buckets come to, joined. -/
structure Wn (n : Int) (b : Bkt) : Prop where
  c1 : 0 ≤ b.c
  c2 : b.c ≤ n * 2000
  f1 : -1099511627776 ≤ b.f
  f2 : b.f ≤ 1099511627776
  l1 : -1099511627776 ≤ b.l
  l2 : b.l ≤ 1099511627776
  i1 : -(n * 2200122767179776) ≤ b.inc
  i2 : b.inc ≤ n * 2200122767179776
  s1 : -(n * 2199023255552000) ≤ b.s
  s2 : b.s ≤ n * 2199023255552000
theorem VB.wn {w n : Int} {b : Bkt} (h : VB w b) (hn : 1 ≤ n) : Wn n b := by
  obtain ⟨c1, c2, f1, f2, l1, l2, i1, i2, s1, s2, _⟩ := h
  constructor <;> omega
theorem Wn.more {n m : Int} {b : Bkt} (h : Wn n b) (hm : n ≤ m) : Wn m b := by
  obtain ⟨c1, c2, f1, f2, l1, l2, i1, i2, s1, s2⟩ := h
  constructor <;> omega
theorem Wn.join {w n k : Int} {a b : Bkt} (ha : Wn n a) (hb : VB w b) (h0 : 0 ≤ n) : Wn (n + 1) (joinB k a b) := by
  obtain ⟨c1, c2, f1, f2, l1, l2, i1, i2, s1, s2⟩ := ha
  obtain ⟨d1, d2, g1, g2, m1, m2, j1, j2, t1, t2, _⟩ := hb
  have hst : -2199023255552 ≤ stepV a.l b.f ∧ stepV a.l b.f ≤ 2199023255552 := by unfold stepV; split <;> omega
  constructor <;> simp only [joinB] <;> first | omega | (split <;> omega)
theorem Wn.jb {w n : Int} {a b : Bkt} (ha : Wn n a) (hb : VB w b) (h0 : 0 ≤ n) (hn : n ≤ 2000) : JB a b := by
  obtain ⟨c1, c2, f1, f2, l1, l2, i1, i2, s1, s2⟩ := ha
  obtain ⟨d1, d2, g1, g2, m1, m2, j1, j2, t1, t2, _⟩ := hb
  constructor <;> omega
/-- What a call with such a slice leaves. -/
theorem GB.pur2 {b : Nat} {s : St} {L : List (Nat × D × Nat × List Pd)} {M G : List (Nat × Ob)} {x : C} {l : List Bkt} (ho : OA b s L (G ++ M)) (h : GB x l G) : ∃ s' G', purC s x = some (.lst l.length (l.flatMap Bkt.pd), s') ∧ OA b s' L (G' ++ M) ∧ s'.nx = s.nx := by
  rcases h with ⟨rfl, rfl, rfl⟩ | ⟨id, rfl, rfl⟩
  · exact ⟨s, [], rfl, ho, rfl⟩
  · have g : s.get id = some (.grow 10 l.length (cB l) false) := ho.at_ (id, .grow 10 l.length (cB l) false) (by simp)
    have hf : (l.flatMap Bkt.pd).length = l.length * 10 := flat_len (k := 10) (fun _ => rfl) l
    refine ⟨s.put id (.grow 10 l.length ((l.flatMap Bkt.pd).map .p) true), [(id, .grow 10 l.length ((l.flatMap Bkt.pd).map .p) true)], ?_, OA.set (M1 := []) ho rfl, rfl⟩
    simp only [purC, g, cB_all, true_and, Nat.zero_add, hf, Nat.le_refl, if_true, List.drop_zero]
    rw [List.take_of_length_le (by omega)]
theorem GB.purA {b : Nat} {s : St} {L : List (Nat × D × Nat × List Pd)} {M G : List (Nat × Ob)} {x : C} {l : List Bkt} (ho : OA b s L (G ++ M)) (h : GB x l G) (lb : List Lb) (k w : Int) : ∃ s' G', purVs s [.agg [.p (.lst lb.length (lb.flatMap lbP)), .p (pI k), .p (pI w), x]] = some ([.agg ((Rlp.mk lb k w l).pd.map .p)], s') ∧ OA b s' L (G' ++ M) ∧ s'.nx = s.nx := by
  obtain ⟨s', G', h1, h2, h3⟩ := h.pur2 ho
  have hp : ∀ (s : St) (x : Pd), purC s (.p x) = some (x, s) := fun _ _ => rfl
  exact ⟨s', G', by simp only [purVs, purV, purCs, hp, h1, List.map_cons, List.map_nil], h2, h3⟩
end Go.Proofs.YtedcnhbblgmdnaaGreat.Ab
namespace Go.Proofs.YtedcnhbblgmdnaaGreat.Ab
set_option maxHeartbeats 8000000
set_option maxRecDepth 10000
set_option linter.unusedSimpArgs false
set_option linter.unusedVariables false
theorem St.put_adv (s : St) (k n : Nat) (o : Ob) : (s.put k o).adv n = (s.adv n).put k o := rfl
def coP (x : Rlp) (f : Int) : Rlp := ⟨x.lb, x.k, x.w * f, coarB x.k (x.w * f) x.bs⟩
def coC (x : Rlp) (f : Int) : Int := if rlpOK x = false then 1 else if f < 1 ∨ Int.tdiv 1099511627776 x.w < f then 2 else if limB (coP x f) then 4 else 0
/-- A coarser rollup. -/
def coR (x : Rlp) (f : Int) : Rlp := if coC x f = 0 then coP x f else zR
end Go.Proofs.YtedcnhbblgmdnaaGreat.Ab
namespace Go.Proofs.YtedcnhbblgmdnaaGreat.Ab
set_option maxHeartbeats 8000000
set_option maxRecDepth 10000
set_option linter.unusedSimpArgs false
set_option linter.unusedVariables false
theorem GB.len {x : C} {l : List Bkt} {G : List (Nat × Ob)} (h : GB x l G) : lenD E0 29 (.v (.c x)) = some (.v (.c (.p (.int .i64 l.length)))) := by
  rcases h with ⟨rfl, rfl, _⟩ | ⟨id, rfl, _⟩
  · rw [lenD_nils, ti29]; rfl
  · rw [lenD_gs, ti29]; rfl
theorem o48 : E0.opn 48 = false := by kernel_rfl
theorem x48 : E0.xt 48 = none := by kernel_rfl
end Go.Proofs.YtedcnhbblgmdnaaGreat.Ab
