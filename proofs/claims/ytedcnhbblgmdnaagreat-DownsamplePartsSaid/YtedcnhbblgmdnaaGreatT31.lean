/- A part of the proof: an evaluator of the code, its contracts, the law. No condition. -/
import Derived.Test.YtedcnhbblgmdnaaGreatT29
import Derived.Test.YtedcnhbblgmdnaaGreatT30
namespace Go.Proofs.YtedcnhbblgmdnaaGreat.Ab
set_option maxHeartbeats 8000000
set_option maxRecDepth 10000
set_option linter.unusedSimpArgs false
set_option linter.unusedVariables false
/-- A series with other samples. -/
def wSm (x : Ser) (A : List I2) : Ser := { x with sm := A }
theorem serOK_mk {x : Ser} (v : Sv x) {A : List I2} (hs : A.Sublist x.sm) (hne : A ≠ []) : serOK (wSm x A) = true := by
  have hk3 : ¬ x.k = 3 := by have := v.k; omega
  have hl : A.length ≤ 2000 := Nat.le_trans hs.length_le v.len
  have hc := sckA_mk v.k hl (v.srt.sublist hs) (fun y hy => v.ok y (hs.subset hy))
  have h0 : (A.length == 0) = false := by rw [beq_eq_false_iff_ne]; have := List.length_pos_iff.2 hne; omega
  unfold serOK wSm
  simp only [v.lb, v.hs, hc, h0, hk3]
  simp
theorem me_of {x : Ser} (v : Sv x) {w : Int} (w1 : 1 ≤ w) (w2 : w ≤ 1099511627776) {A B : List I2} (sA : A.Sublist x.sm) (sB : B.Sublist x.sm) (hA : A ≠ []) (hB : B ≠ []) (hm : mergeB x.k (ofB x.k w A) (ofB x.k w B) = some (ofB x.k w x.sm)) :
    meC (OF (wSm x A) w) (OF (wSm x B) w) = 0 ∧ meR (OF (wSm x A) w) (OF (wSm x B) w) = OF x w := by
  have hk3 : ¬ x.k = 3 := by have := v.k; omega
  have vA := serOK_v (serOK_mk v sA hA) hk3
  have vB := serOK_v (serOK_mk v sB hB) hk3
  have oA := OF_ok vA w1 w2
  have oB := OF_ok vB w1 w2
  have rA := rlpOK_v oA
  have rB := rlpOK_v oB
  have hp := mergeB_puts x.k _ (ofB x.k w A) (ofB x.k w B) (Nat.le_refl _) rA.asc rB.asc (fun b hb => (rA.vb b hb).t3) (fun b hb => (rB.vb b hb).t3)
  rw [hm] at hp
  have hp2 : putsB (OF (wSm x A) w).k (OF (wSm x A) w).bs (OF (wSm x B) w).bs = some (ofB x.k w x.sm) := hp.symm
  have hl : limB (meP (OF (wSm x A) w) (OF (wSm x B) w) (ofB x.k w x.sm)) = false := OF_big v w1
  have hc : cmpL (OF (wSm x A) w).lb (OF (wSm x B) w).lb = 0 := cmpL_zero.2 rfl
  have e : meC (OF (wSm x A) w) (OF (wSm x B) w) = 0 := by
    unfold meC
    rw [if_neg (by simp [oA, oB]), if_neg (by rw [hc]; simp [OF, wSm]), hp2, meO, hl]
    rfl
  refine ⟨e, ?_⟩
  unfold meR
  rw [if_pos e, hp2]
  rfl
theorem GP.purA {b : Nat} {s : St} {L : List (Nat × D × Nat × List Pd)} {M G : List (Nat × Ob)} {x : C} {A : List I2} (ho : OA b s L (G ++ M)) (h : GP x A G) (y : Ser) (q : Pd) : ∃ s' G', purVs s [.agg [.p (.lst y.lb.length (y.lb.flatMap lbP)), .p (pI y.k), x, .p (.lst y.hs.length (y.hs.flatMap HSm.pd))], .c (.p q)] = some ([.agg ((wSm y A).pd.map .p), .c (.p q)], s') ∧ OA b s' L (G' ++ M) ∧ s'.nx = s.nx := by
  obtain ⟨s', G', h1, h2, h3⟩ := h.pur2 ho
  have hp : ∀ (s : St) (x : Pd), purC s (.p x) = some (x, s) := fun _ _ => rfl
  refine ⟨s', G', ?_, h2, h3⟩
  simp only [purVs, purV, purCs, hp, h1]
  rfl
/-- 13: Of, of a series whose samples are an object of the state -/
theorem call13 {b : Nat} {s : St} {L : List (Nat × D × Nat × List Pd)} {M G : List (Nat × Ob)} {xa : C} {A : List I2} {x : Ser} {w : Int} {d : D} {K : D → St → Prop} (ho : OA b s L (G ++ M)) (hG : GP xa A G) (hp : Pf E0 13 [.agg ((wSm x A).pd.map .p), .c (.p (pI w))] d)
    (hK : ∀ G' s', OA b s' L (G' ++ M) → s'.nx = s.nx → K d s') : wpCall E0 (P' (.fnc 13)) [.v (.agg [.p (.lst x.lb.length (x.lb.flatMap lbP)), .p (pI x.k), xa, .p (.lst x.hs.length (x.hs.flatMap HSm.pd))]), .v (.c (.p (pI w)))] s K := by
  obtain ⟨s', G', h1, h2, h3⟩ := hG.purA ho x (pI w)
  exact wpCall.pf hp (by kernel_rfl) (by kernel_rfl) rfl h1 (hK G' s' h2 h3)
/-- 7: DownsampleParts -/
theorem law7 (x : Ser) (w t : Int) (hlb : x.lb.length < 2^60) (hb : ∀ y ∈ x.hs, y.h.bs.length < 2^60) : ∃ s', Ev E0 (.o 7) [.agg (x.pd.map .p), .c (.p (pI w)), .c (.p (pI t))] s00 (P' (.bool true)) s' := by
  have main : Wc E0 none (Tryz.f7.body.get rfl) { e := [V.agg (x.pd.map .p), .c (.p (pI w)), .c (.p (pI t))].map .v ++ List.replicate (Tryz.f7.ntmps - 3) (.tup []), ds := [], s := s00 } (bodyQ E0 Tryz.f7 fun d _ => d = P' (.bool true)) := by
    show Wc E0 none _ _ _
    simp only [List.map_cons, List.map_nil, List.cons_append, List.nil_append, Tryz.ntmps7, List.replicate, Nat.reduceSub, Nat.reduceAdd, s00]
    refine Wc.seq ?_
    refine Wc.reg fun K hK => ?_; simp only [go_sem, ti3, ti4, ti5, ti32, ti39, ti41, ti31, ti96, ti87, ti29, ti22, ti26, ti23, Int.natCast_zero]; refine hK _ _ ?_; clear hK K
    refine Wc.seq (Wc.seq ?_)
    refine Wc.reg fun K hK => ?_; simp only [go_sem, ti3, ti4, ti5, ti32, ti39, ti41, ti31, ti96, ti87, ti29, ti22, ti26, ti23, Int.natCast_zero]
    refine wpCall.pf (pf11 x hlb) (by kernel_rfl) (by kernel_rfl) rfl rfl ?_
    simp only [go_sem, ti3, ti4, ti5, ti32, ti39, ti41, ti31, ti96, ti87, ti29, ti22, ti26, ti23, Int.natCast_zero]; refine hK _ _ ?_; clear hK K
    refine Wc.cond (t := grS x) (by simp only [go_sem, ti3, ti4, ti5, ti32, ti39, ti41, ti31, ti96, ti87, ti29, ti22, ti26, ti23, Int.natCast_zero]) (fun hc => ?_) (fun hc => ?_)
    · refine Wc.seq ?_
      refine Wc.reg fun K hK => ?_; simp only [go_sem, ti3, ti4, ti5, ti32, ti39, ti41, ti31, ti96, ti87, ti29, ti22, ti26, ti23, Int.natCast_zero]
      refine wpCall.pf (pf12) (by kernel_rfl) (by kernel_rfl) rfl rfl ?_
      simp only [go_sem, ti3, ti4, ti5, ti32, ti39, ti41, ti31, ti96, ti87, ti29, ti22, ti26, ti23, Int.natCast_zero]; refine hK _ _ ?_; clear hK K
      refine Wc.ret (thenD_ret ?_)
      exact Op.ret [.tmp 6] [.c (.p (.bool true))] rfl rfl (by simp only [resultsD, go_sem, ti3, ti4, ti5, ti32, ti39, ti41, ti31, ti96, ti87, ti29, ti22, ti26, ti23, Int.natCast_zero]) rfl
    have z := grS_sz hc hb
    have p13 := pf13 x z w
    by_cases hc0 : ofC x w = 0
    case neg =>
      have hne : (ofC x w != 0) = true := by simpa using hc0
      generalize ofR x w = R at *
      refine Wc.skip (Wc.seq ?_)
      refine Wc.reg fun K hK => ?_; simp only [go_sem, ti3, ti4, ti5, ti32, ti39, ti41, ti31, ti96, ti87, ti29, ti22, ti26, ti23, Int.natCast_zero]
      refine wpCall.pf (p13) (by kernel_rfl) (by kernel_rfl) rfl rfl ?_
      simp only [go_sem, ti3, ti4, ti5, ti32, ti39, ti41, ti31, ti96, ti87, ti29, ti22, ti26, ti23, Int.natCast_zero]; refine hK _ _ ?_; clear hK K
      refine Wc.seq (Wc.seq ?_)
      refine Wc.reg fun K hK => ?_; simp only [go_sem, ti3, ti4, ti5, ti32, ti39, ti41, ti31, ti96, ti87, ti29, ti22, ti26, ti23, Int.natCast_zero, hne]; refine hK _ _ ?_; clear hK K
      refine Wc.cond (t := true) (by simp only [go_sem, ti3, ti4, ti5, ti32, ti39, ti41, ti31, ti96, ti87, ti29, ti22, ti26, ti23, Int.natCast_zero, hne]) (fun _ => ?_) (fun hc => by cases hc)
      refine Wc.seq ?_
      refine Wc.reg fun K hK => ?_; simp only [go_sem, ti3, ti4, ti5, ti32, ti39, ti41, ti31, ti96, ti87, ti29, ti22, ti26, ti23, Int.natCast_zero]
      refine wpCall.pf (pf12) (by kernel_rfl) (by kernel_rfl) rfl rfl ?_
      simp only [go_sem, ti3, ti4, ti5, ti32, ti39, ti41, ti31, ti96, ti87, ti29, ti22, ti26, ti23, Int.natCast_zero]; refine hK _ _ ?_; clear hK K
      refine Wc.ret (thenD_ret ?_)
      exact Op.ret [.tmp 6] [.c (.p (.bool true))] rfl rfl (by simp only [resultsD, go_sem, ti3, ti4, ti5, ti32, ti39, ti41, ti31, ti96, ti87, ti29, ti22, ti26, ti23, Int.natCast_zero]) rfl
    obtain ⟨hok, hk, w1, w2⟩ := ofC_inv hc0
    have v := serOK_v hok hk
    obtain ⟨_, er0⟩ := OF_of hok hk w1 w2
    have zR0 := OF_z z w
    have hsame := zR0.same
    rw [er0, hc0] at p13
    have hAf : ∀ y : I2, (!decide (t < y.1)) = decide (y.1 ≤ t) := fun y => by by_cases h : t < y.1 <;> simp [h] <;> omega
    obtain ⟨A, hA⟩ : ∃ A, x.sm.filter (fun y => !decide (t < y.1)) = A := ⟨_, rfl⟩
    obtain ⟨B, hB⟩ : ∃ B, x.sm.filter (fun y => !decide (y.1 ≤ t)) = B := ⟨_, rfl⟩
    have hAB : A ++ B = x.sm := by
      rw [← hA, ← hB]
      simp only [hAf]
      exact filt_app t x.sm v.srt
    have sA : A.Sublist x.sm := hA ▸ List.filter_sublist
    have sB : B.Sublist x.sm := hB ▸ List.filter_sublist
    have hmp := merge_parts (k := x.k) w1 (A := A) (B := B) (by rw [hAB]; exact v.srt) (by rw [hAB]; exact fun y hy => (v.ok y hy).1.1)
    rw [hAB] at hmp
    refine Wc.skip (Wc.seq ?_)
    refine Wc.reg fun K hK => ?_; simp only [go_sem, ti3, ti4, ti5, ti32, ti39, ti41, ti31, ti96, ti87, ti29, ti22, ti26, ti23, Int.natCast_zero]
    refine wpCall.pf (p13) (by kernel_rfl) (by kernel_rfl) rfl rfl ?_
    simp only [go_sem, ti3, ti4, ti5, ti32, ti39, ti41, ti31, ti96, ti87, ti29, ti22, ti26, ti23, Int.natCast_zero]; refine hK _ _ ?_; clear hK K
    refine Wc.seq (Wc.seq ?_)
    refine Wc.reg fun K hK => ?_; simp only [go_sem, ti3, ti4, ti5, ti32, ti39, ti41, ti31, ti96, ti87, ti29, ti22, ti26, ti23, Int.natCast_zero, b00]; refine hK _ _ ?_; clear hK K
    refine Wc.cond (t := false) (by simp only [go_sem, ti3, ti4, ti5, ti32, ti39, ti41, ti31, ti96, ti87, ti29, ti22, ti26, ti23, Int.natCast_zero, b00]) (fun hc => by cases hc) (fun _ => Wc.skip ?_)
    refine Wc.seqR (fun y => ∃ k7 k9 k10, y.ds = [] ∧ Fs y.e 107 [(1, P' (pI w)), (3, .v (.c (.ref 0 0))), (5, .v (.c (.ref 1 0))), (7, .v (.c (.ref k7 0))), (9, .v (.c (.ref k9 0))), (10, .v (.c (.ref k10 0)))] ∧ OA y.s.nx y.s [] ((k10, .cells (x.pd.map .p) false) :: (k9, .cells (x.pd.map .p) false) :: [(k7, .cells ((OF x w).pd.map .p) false), (1, .cells [.p (pI t)] false), (0, .cells (x.pd.map .p) false)])) ?_ ?_
    · refine Wc.regT fun K hK => ?_
      simp only [go_sem, ti3, ti4, ti5, ti32, ti39, ti41, ti31, ti96, ti87, ti29, ti22, ti26, ti23, Int.natCast_zero]
      refine ⟨by rw [trOK_eq3]; rfl, hK _ _ ?_⟩
      clear hK K
      refine ⟨11, 18, 19, rfl, by simp only [Fs, Int.natCast_zero, go_sem, ti3, ti4, ti5, ti32, ti39, ti41, ti31, ti96, ti87, ti29, ti22, ti26, ti23, Int.natCast_zero], ?_⟩
      refine OA.mono (show OA 20 _ [] ([] ++ (19, .cells (x.pd.map .p) false) :: ((18, .cells (x.pd.map .p) false) :: [(11, .cells ((OF x w).pd.map .p) false), (1, .cells [.p (pI t)] false), (0, .cells (x.pd.map .p) false)])) from OA.set (o := .cells [.nils, .p (pI 0), .nils, .nils] false) (show OA 20 _ [] ([(19, .cells [.nils, .p (pI 0), .nils, .nils] false)] ++ (18, .cells (x.pd.map .p) false) :: [(11, .cells ((OF x w).pd.map .p) false), (1, .cells [.p (pI t)] false), (0, .cells (x.pd.map .p) false)]) from OA.set (o := .cells [.nils, .p (pI 0), .nils, .nils] false) (show OA 20 _ [] ((19, .cells [.nils, .p (pI 0), .nils, .nils] false) :: (18, .cells [.nils, .p (pI 0), .nils, .nils] false) :: [(11, .cells ((OF x w).pd.map .p) false), (1, .cells [.p (pI t)] false), (0, .cells (x.pd.map .p) false)]) from ?_) rfl) rfl) ?_
      · exact by (try simp only [St.put_adv, St.adv_adv, St.put_put, St.nx_put, St.nx_adv]); repeat (first | exact OA.mono s00_oa (by omega) | refine OA.newB ?_ (by omega) rfl | refine OA.putB ?_ (by omega) | refine OA.advB ?_)
      · simp only [St.nx_put, St.nx_adv]; omega
    rintro ⟨e, ds, s1⟩ ⟨k7, k9, k10, rfl, hF, ho⟩
    simp only [Fs] at hF ho
    have g0 := ho.at_ (0, .cells (x.pd.map .p) false) (by simp)
    simp only [List.map_cons, List.map_nil] at g0
    refine Wc.seqR (fun y => ∃ xa G, y.ds = [] ∧ Fs y.e 107 [(1, P' (pI w)), (3, .v (.c (.ref 0 0))), (5, .v (.c (.ref 1 0))), (7, .v (.c (.ref k7 0))), (9, .v (.c (.ref k9 0))), (10, .v (.c (.ref k10 0)))] ∧ OA y.s.nx y.s [] (G ++ (k10, .cells (x.pd.map .p) false) :: (k9, .cells [.p (.lst x.lb.length (x.lb.flatMap lbP)), .p (pI x.k), xa, .p (.lst x.hs.length (x.hs.flatMap HSm.pd))] false) :: [(k7, .cells ((OF x w).pd.map .p) false), (1, .cells [.p (pI t)] false), (0, .cells (x.pd.map .p) false)]) ∧ GP xa A G) ?_ ?_
    · refine Wc.reg fun K hK => ?_; simp only [go_sem, ti3, ti4, ti5, ti32, ti39, ti41, ti31, ti96, ti87, ti29, ti22, ti26, ti23, Int.natCast_zero, hF, g0]
      refine call25 (l := x.sm) (L := []) (M := (k10, .cells (x.pd.map .p) false) :: (k9, .cells (x.pd.map .p) false) :: [(k7, .cells ((OF x w).pd.map .p) false), (1, .cells [.p (pI t)] false), (0, .cells (x.pd.map .p) false)]) ?_ v.ne v.len fun id s2 hs2 hnx2 => ?_
      · exact by (try simp only [St.nx_put, St.nx_adv]); repeat (first | exact OA.mono ho (by omega) | refine OA.newB ?_ (by omega) rfl | refine OA.putB ?_ (by omega) | refine OA.advB ?_)
      simp only [St.nx_adv] at hnx2
      simp only [go_sem, ti3, ti4, ti5, ti32, ti39, ti41, ti31, ti96, ti87, ti29, ti22, ti26, ti23, Int.natCast_zero, hF]
      refine call24 (pred26 1 t) (l := x.sm) (id := id) (L := []) (M := (k10, .cells (x.pd.map .p) false) :: (k9, .cells (x.pd.map .p) false) :: [(k7, .cells ((OF x w).pd.map .p) false), (1, .cells [.p (pI t)] false), (0, .cells (x.pd.map .p) false)]) ?_ (by simp) v.len fun xa G s3 hs3 hnx3 hG => ?_
      · exact by (try simp only [St.nx_put, St.nx_adv]); repeat (first | exact OA.mono hs2 (by omega) | refine OA.newB ?_ (by omega) rfl | refine OA.putB ?_ (by omega) | refine OA.advB ?_)
      rw [hA] at hG
      have g9 := hs3.at_ (k9, .cells (x.pd.map .p) false) (by simp)
      simp only [List.map_cons, List.map_nil] at g9
      simp only [go_sem, ti3, ti4, ti5, ti32, ti39, ti41, ti31, ti96, ti87, ti29, ti22, ti26, ti23, Int.natCast_zero, hF, g9]; refine hK _ _ ?_; clear hK K
      have h5 := OA.setAt (A := G) (B := [(k10, .cells (x.pd.map .p) false)]) (k := k9) (o' := .cells [.p (.lst x.lb.length (x.lb.flatMap lbP)), .p (pI x.k), xa, .p (.lst x.hs.length (x.hs.flatMap HSm.pd))] false) (R := [(k7, .cells ((OF x w).pd.map .p) false), (1, .cells [.p (pI t)] false), (0, .cells (x.pd.map .p) false)]) hs3 rfl
      exact ⟨xa, G, rfl, by simp only [Fs, Int.natCast_zero, go_sem, ti3, ti4, ti5, ti32, ti39, ti41, ti31, ti96, ti87, ti29, ti22, ti26, ti23, Int.natCast_zero, hF], by (try simp only [St.nx_put, St.nx_adv]); repeat (first | exact OA.mono h5 (by omega) | refine OA.newB ?_ (by omega) rfl | refine OA.putB ?_ (by omega) | refine OA.advB ?_), hG⟩
    clear hF ho g0 e s1
    rintro ⟨e, ds, s1⟩ ⟨xa, GA, rfl, hF, ho, hGA⟩
    simp only [Fs] at hF ho
    have g0 := ho.at_ (0, .cells (x.pd.map .p) false) (by simp)
    simp only [List.map_cons, List.map_nil] at g0
    refine Wc.seqR (fun y => ∃ xb G, y.ds = [] ∧ Fs y.e 107 [(1, P' (pI w)), (3, .v (.c (.ref 0 0))), (5, .v (.c (.ref 1 0))), (7, .v (.c (.ref k7 0))), (9, .v (.c (.ref k9 0))), (10, .v (.c (.ref k10 0)))] ∧ OA y.s.nx y.s [] (G ++ (GA ++ (k10, .cells [.p (.lst x.lb.length (x.lb.flatMap lbP)), .p (pI x.k), xb, .p (.lst x.hs.length (x.hs.flatMap HSm.pd))] false) :: (k9, .cells [.p (.lst x.lb.length (x.lb.flatMap lbP)), .p (pI x.k), xa, .p (.lst x.hs.length (x.hs.flatMap HSm.pd))] false) :: [(k7, .cells ((OF x w).pd.map .p) false), (1, .cells [.p (pI t)] false), (0, .cells (x.pd.map .p) false)])) ∧ GP xb B G) ?_ ?_
    · refine Wc.reg fun K hK => ?_; simp only [go_sem, ti3, ti4, ti5, ti32, ti39, ti41, ti31, ti96, ti87, ti29, ti22, ti26, ti23, Int.natCast_zero, hF, g0]
      refine call25 (l := x.sm) (L := []) (M := GA ++ (k10, .cells (x.pd.map .p) false) :: (k9, .cells [.p (.lst x.lb.length (x.lb.flatMap lbP)), .p (pI x.k), xa, .p (.lst x.hs.length (x.hs.flatMap HSm.pd))] false) :: [(k7, .cells ((OF x w).pd.map .p) false), (1, .cells [.p (pI t)] false), (0, .cells (x.pd.map .p) false)]) ?_ v.ne v.len fun id s2 hs2 hnx2 => ?_
      · exact by (try simp only [St.nx_put, St.nx_adv]); repeat (first | exact OA.mono ho (by omega) | refine OA.newB ?_ (by omega) rfl | refine OA.putB ?_ (by omega) | refine OA.advB ?_)
      simp only [St.nx_adv] at hnx2
      simp only [go_sem, ti3, ti4, ti5, ti32, ti39, ti41, ti31, ti96, ti87, ti29, ti22, ti26, ti23, Int.natCast_zero, hF]
      refine call24 (pred27 1 t) (l := x.sm) (id := id) (L := []) (M := GA ++ (k10, .cells (x.pd.map .p) false) :: (k9, .cells [.p (.lst x.lb.length (x.lb.flatMap lbP)), .p (pI x.k), xa, .p (.lst x.hs.length (x.hs.flatMap HSm.pd))] false) :: [(k7, .cells ((OF x w).pd.map .p) false), (1, .cells [.p (pI t)] false), (0, .cells (x.pd.map .p) false)]) ?_ (by simp) v.len fun xb G s3 hs3 hnx3 hG => ?_
      · exact by (try simp only [St.nx_put, St.nx_adv]); repeat (first | exact OA.mono hs2 (by omega) | refine OA.newB ?_ (by omega) rfl | refine OA.putB ?_ (by omega) | refine OA.advB ?_)
      rw [hB] at hG
      have g10 := hs3.at_ (k10, .cells (x.pd.map .p) false) (by simp)
      simp only [List.map_cons, List.map_nil] at g10
      simp only [go_sem, ti3, ti4, ti5, ti32, ti39, ti41, ti31, ti96, ti87, ti29, ti22, ti26, ti23, Int.natCast_zero, hF, g10]; refine hK _ _ ?_; clear hK K
      have h5 := OA.setAt (A := G) (B := GA) (k := k10) (o' := .cells [.p (.lst x.lb.length (x.lb.flatMap lbP)), .p (pI x.k), xb, .p (.lst x.hs.length (x.hs.flatMap HSm.pd))] false) (R := (k9, .cells [.p (.lst x.lb.length (x.lb.flatMap lbP)), .p (pI x.k), xa, .p (.lst x.hs.length (x.hs.flatMap HSm.pd))] false) :: [(k7, .cells ((OF x w).pd.map .p) false), (1, .cells [.p (pI t)] false), (0, .cells (x.pd.map .p) false)]) hs3 rfl
      exact ⟨xb, G, rfl, by simp only [Fs, Int.natCast_zero, go_sem, ti3, ti4, ti5, ti32, ti39, ti41, ti31, ti96, ti87, ti29, ti22, ti26, ti23, Int.natCast_zero, hF], by (try simp only [St.nx_put, St.nx_adv]); repeat (first | exact OA.mono h5 (by omega) | refine OA.newB ?_ (by omega) rfl | refine OA.putB ?_ (by omega) | refine OA.advB ?_), hG⟩
    clear hF ho g0 e s1
    rintro ⟨e, ds, s1⟩ ⟨xb, GB', rfl, hF, ho, hGB⟩
    simp only [Fs] at hF ho
    have g9 := ho.at_ (k9, .cells [.p (.lst x.lb.length (x.lb.flatMap lbP)), .p (pI x.k), xa, .p (.lst x.hs.length (x.hs.flatMap HSm.pd))] false) (by simp)
    have g10 := ho.at_ (k10, .cells [.p (.lst x.lb.length (x.lb.flatMap lbP)), .p (pI x.k), xb, .p (.lst x.hs.length (x.hs.flatMap HSm.pd))] false) (by simp)
    have lA := hGA.len
    have lB := hGB.len
    refine Wc.seq (Wc.seq ?_)
    by_cases hA0 : A = []
    case pos =>
      subst hA0
      have b0e : ((0 : Int) == 0) = true := rfl
      simp only [List.length_nil, Int.natCast_zero] at lA
      refine Wc.reg fun K hK => ?_; simp only [go_sem, ti3, ti4, ti5, ti32, ti39, ti41, ti31, ti96, ti87, ti29, ti22, ti26, ti23, Int.natCast_zero, hF, g9, lA, b0e]; refine hK _ _ ?_; clear hK K
      refine Wc.cond (t := true) (by simp only [go_sem, ti3, ti4, ti5, ti32, ti39, ti41, ti31, ti96, ti87, ti29, ti22, ti26, ti23, Int.natCast_zero, hF, b0e]) (fun _ => ?_) (fun hc => by cases hc)
      refine Wc.seq ?_
      refine Wc.reg fun K hK => ?_; simp only [go_sem, ti3, ti4, ti5, ti32, ti39, ti41, ti31, ti96, ti87, ti29, ti22, ti26, ti23, Int.natCast_zero, hF]
      refine wpCall.pf (pf12) (by kernel_rfl) (by kernel_rfl) rfl rfl ?_
      simp only [go_sem, ti3, ti4, ti5, ti32, ti39, ti41, ti31, ti96, ti87, ti29, ti22, ti26, ti23, Int.natCast_zero, hF]; refine hK _ _ ?_; clear hK K
      refine Wc.ret (thenD_ret ?_)
      exact Op.ret [.tmp 6] [.c (.p (.bool true))] rfl rfl (by simp only [resultsD, go_sem, ti3, ti4, ti5, ti32, ti39, ti41, ti31, ti96, ti87, ti29, ti22, ti26, ti23, Int.natCast_zero, hF]) rfl
    have a0e : ((A.length : Int) == 0) = false := by have := List.length_pos_iff.2 hA0; rw [beq_eq_false_iff_ne]; omega
    by_cases hB0 : B = []
    case pos =>
      subst hB0
      have b0e : ((0 : Int) == 0) = true := rfl
      simp only [List.length_nil, Int.natCast_zero] at lB
      refine Wc.reg fun K hK => ?_; simp only [go_sem, ti3, ti4, ti5, ti32, ti39, ti41, ti31, ti96, ti87, ti29, ti22, ti26, ti23, Int.natCast_zero, hF, g9, g10, lA, lB, a0e, b0e]; refine hK _ _ ?_; clear hK K
      refine Wc.cond (t := true) (by simp only [go_sem, ti3, ti4, ti5, ti32, ti39, ti41, ti31, ti96, ti87, ti29, ti22, ti26, ti23, Int.natCast_zero, hF, b0e]) (fun _ => ?_) (fun hc => by cases hc)
      refine Wc.seq ?_
      refine Wc.reg fun K hK => ?_; simp only [go_sem, ti3, ti4, ti5, ti32, ti39, ti41, ti31, ti96, ti87, ti29, ti22, ti26, ti23, Int.natCast_zero, hF]
      refine wpCall.pf (pf12) (by kernel_rfl) (by kernel_rfl) rfl rfl ?_
      simp only [go_sem, ti3, ti4, ti5, ti32, ti39, ti41, ti31, ti96, ti87, ti29, ti22, ti26, ti23, Int.natCast_zero, hF]; refine hK _ _ ?_; clear hK K
      refine Wc.ret (thenD_ret ?_)
      exact Op.ret [.tmp 6] [.c (.p (.bool true))] rfl rfl (by simp only [resultsD, go_sem, ti3, ti4, ti5, ti32, ti39, ti41, ti31, ti96, ti87, ti29, ti22, ti26, ti23, Int.natCast_zero, hF]) rfl
    have b0e : ((B.length : Int) == 0) = false := by have := List.length_pos_iff.2 hB0; rw [beq_eq_false_iff_ne]; omega
    have zA : (wSm x A).Sz := ⟨z.lb, z.ls, Nat.lt_of_le_of_lt sA.length_le z.sm, z.hs, z.hb⟩
    have zB : (wSm x B).Sz := ⟨z.lb, z.ls, Nat.lt_of_le_of_lt sB.length_le z.sm, z.hs, z.hb⟩
    have oA := OF_of (serOK_mk v sA hA0) hk w1 w2
    have oB := OF_of (serOK_mk v sB hB0) hk w1 w2
    have pA := pf13 (wSm x A) zA w
    have pB := pf13 (wSm x B) zB w
    rw [oA.1, oA.2] at pA
    rw [oB.1, oB.2] at pB
    obtain ⟨mA1, mA2⟩ := me_of v w1 w2 sA sB hA0 hB0 hmp.1
    obtain ⟨mB1, mB2⟩ := me_of v w1 w2 sB sA hB0 hA0 hmp.2
    have p21 := pf21 (OF (wSm x A) w) (OF (wSm x B) w) (OF_z zA w) (OF_z zB w)
    have p21' := pf21 (OF (wSm x B) w) (OF (wSm x A) w) (OF_z zB w) (OF_z zA w)
    rw [mA1, mA2] at p21
    rw [mB1, mB2] at p21'
    clear mA1 mA2 mB1 mB2 oA oB zA zB hmp
    refine Wc.reg fun K hK => ?_; simp only [go_sem, ti3, ti4, ti5, ti32, ti39, ti41, ti31, ti96, ti87, ti29, ti22, ti26, ti23, Int.natCast_zero, hF, g9, g10, lA, lB, a0e, b0e]; refine hK _ _ ?_; clear hK K
    refine Wc.cond (t := false) (by simp only [go_sem, ti3, ti4, ti5, ti32, ti39, ti41, ti31, ti96, ti87, ti29, ti22, ti26, ti23, Int.natCast_zero, hF, a0e, b0e]) (fun hc => by cases hc) (fun _ => Wc.skip ?_)
    refine Wc.seqR (fun y => ∃ k11 G, y.ds = [] ∧ Fs y.e 107 [(1, P' (pI w)), (3, .v (.c (.ref 0 0))), (5, .v (.c (.ref 1 0))), (7, .v (.c (.ref k7 0))), (9, .v (.c (.ref k9 0))), (10, .v (.c (.ref k10 0))), (11, .v (.c (.ref k11 0))), (12, P' (pI 0))] ∧ OA y.s.nx y.s [] ((k11, .cells ((OF (wSm x A) w).pd.map .p) false) :: (GB' ++ (G ++ (k10, .cells [.p (.lst x.lb.length (x.lb.flatMap lbP)), .p (pI x.k), xb, .p (.lst x.hs.length (x.hs.flatMap HSm.pd))] false) :: (k9, .cells [.p (.lst x.lb.length (x.lb.flatMap lbP)), .p (pI x.k), xa, .p (.lst x.hs.length (x.hs.flatMap HSm.pd))] false) :: [(k7, .cells ((OF x w).pd.map .p) false), (1, .cells [.p (pI t)] false), (0, .cells (x.pd.map .p) false)])))) ?_ ?_
    · have h4 := OA.rot' (A := GB') (B := GA) ho
      refine Wc.reg fun K hK => ?_; simp only [go_sem, ti3, ti4, ti5, ti32, ti39, ti41, ti31, ti96, ti87, ti29, ti22, ti26, ti23, Int.natCast_zero, hF, g9]
      refine call13 (b := s1.nx) (L := []) (M := GB' ++ (k10, .cells [.p (.lst x.lb.length (x.lb.flatMap lbP)), .p (pI x.k), xb, .p (.lst x.hs.length (x.hs.flatMap HSm.pd))] false) :: (k9, .cells [.p (.lst x.lb.length (x.lb.flatMap lbP)), .p (pI x.k), xa, .p (.lst x.hs.length (x.hs.flatMap HSm.pd))] false) :: [(k7, .cells ((OF x w).pd.map .p) false), (1, .cells [.p (pI t)] false), (0, .cells (x.pd.map .p) false)]) ?_ hGA pA fun G' s2 hs2 hnx2 => ?_
      · exact by (try simp only [St.nx_put, St.nx_adv]); repeat (first | exact OA.mono h4 (by omega) | refine OA.newB ?_ (by omega) rfl | refine OA.putB ?_ (by omega) | refine OA.advB ?_)
      simp only [St.nx_adv] at hnx2
      simp only [go_sem, ti3, ti4, ti5, ti32, ti39, ti41, ti31, ti96, ti87, ti29, ti22, ti26, ti23, Int.natCast_zero, hF]; refine hK _ _ ?_; clear hK K
      have h6 := OA.rot' (A := G') (B := GB') hs2
      exact ⟨s1.nx + 16, G', rfl, by simp only [Fs, Int.natCast_zero, go_sem, ti3, ti4, ti5, ti32, ti39, ti41, ti31, ti96, ti87, ti29, ti22, ti26, ti23, Int.natCast_zero, hF], by (try simp only [St.put_adv, St.adv_adv, St.put_put, St.nx_put, St.nx_adv]); repeat (first | exact OA.mono h6 (by omega) | refine OA.newB ?_ (by omega) rfl | refine OA.putB ?_ (by omega) | refine OA.advB ?_)⟩
    clear hF ho g9 g10 e s1
    rintro ⟨e, ds, s1⟩ ⟨k11, GA2, rfl, hF, ho⟩
    simp only [Fs] at hF ho
    have g10 := ho.at_ (k10, .cells [.p (.lst x.lb.length (x.lb.flatMap lbP)), .p (pI x.k), xb, .p (.lst x.hs.length (x.hs.flatMap HSm.pd))] false) (by simp)
    refine Wc.seqR (fun y => ∃ k11 k13, y.ds = [] ∧ Fs y.e 107 [(1, P' (pI w)), (3, .v (.c (.ref 0 0))), (5, .v (.c (.ref 1 0))), (7, .v (.c (.ref k7 0))), (9, .v (.c (.ref k9 0))), (10, .v (.c (.ref k10 0))), (11, .v (.c (.ref k11 0))), (12, P' (pI 0)), (13, .v (.c (.ref k13 0))), (14, P' (pI 0))] ∧ OA y.s.nx y.s [] [(k13, .cells ((OF (wSm x B) w).pd.map .p) false), (k11, .cells ((OF (wSm x A) w).pd.map .p) false), (k7, .cells ((OF x w).pd.map .p) false)]) ?_ ?_
    · have h4 : OA s1.nx s1 [] (GB' ++ ((k11, .cells ((OF (wSm x A) w).pd.map .p) false) :: (GA2 ++ (k10, .cells [.p (.lst x.lb.length (x.lb.flatMap lbP)), .p (pI x.k), xb, .p (.lst x.hs.length (x.hs.flatMap HSm.pd))] false) :: (k9, .cells [.p (.lst x.lb.length (x.lb.flatMap lbP)), .p (pI x.k), xa, .p (.lst x.hs.length (x.hs.flatMap HSm.pd))] false) :: [(k7, .cells ((OF x w).pd.map .p) false), (1, .cells [.p (pI t)] false), (0, .cells (x.pd.map .p) false)]))) := OA.rot' (A := [(k11, .cells ((OF (wSm x A) w).pd.map .p) false)]) (B := GB') ho
      refine Wc.reg fun K hK => ?_; simp only [go_sem, ti3, ti4, ti5, ti32, ti39, ti41, ti31, ti96, ti87, ti29, ti22, ti26, ti23, Int.natCast_zero, hF, g10]
      refine call13 (b := s1.nx) (L := []) (M := (k11, .cells ((OF (wSm x A) w).pd.map .p) false) :: (GA2 ++ (k10, .cells [.p (.lst x.lb.length (x.lb.flatMap lbP)), .p (pI x.k), xb, .p (.lst x.hs.length (x.hs.flatMap HSm.pd))] false) :: (k9, .cells [.p (.lst x.lb.length (x.lb.flatMap lbP)), .p (pI x.k), xa, .p (.lst x.hs.length (x.hs.flatMap HSm.pd))] false) :: [(k7, .cells ((OF x w).pd.map .p) false), (1, .cells [.p (pI t)] false), (0, .cells (x.pd.map .p) false)])) ?_ hGB pB fun G' s2 hs2 hnx2 => ?_
      · exact by (try simp only [St.nx_put, St.nx_adv]); repeat (first | exact OA.mono h4 (by omega) | refine OA.newB ?_ (by omega) rfl | refine OA.putB ?_ (by omega) | refine OA.advB ?_)
      simp only [St.nx_adv] at hnx2
      simp only [go_sem, ti3, ti4, ti5, ti32, ti39, ti41, ti31, ti96, ti87, ti29, ti22, ti26, ti23, Int.natCast_zero, hF]; refine hK _ _ ?_; clear hK K
      have h6 : OA _ s2 [] [(k11, .cells ((OF (wSm x A) w).pd.map .p) false), (k7, .cells ((OF x w).pd.map .p) false)] := OA.sub hs2 (List.Sublist.refl _) (List.sublist_append_of_sublist_right (List.Sublist.cons_cons _ (List.sublist_append_of_sublist_right (List.Sublist.cons _ (List.Sublist.cons _ (List.Sublist.cons_cons _ (List.nil_sublist _)))))))
      exact ⟨k11, s1.nx + 6, rfl, by simp only [Fs, Int.natCast_zero, go_sem, ti3, ti4, ti5, ti32, ti39, ti41, ti31, ti96, ti87, ti29, ti22, ti26, ti23, Int.natCast_zero, hF], by (try simp only [St.put_adv, St.adv_adv, St.put_put, St.nx_put, St.nx_adv]); repeat (first | exact OA.mono h6 (by omega) | refine OA.newB ?_ (by omega) rfl | refine OA.putB ?_ (by omega) | refine OA.advB ?_)⟩
    clear hF ho g10 e s1 k11
    rintro ⟨e, ds, s1⟩ ⟨k11, k13, rfl, hF, ho⟩
    simp only [Fs] at hF ho
    have g11 := ho.at_ (k11, .cells ((OF (wSm x A) w).pd.map .p) false) (by simp)
    have g13 := ho.at_ (k13, .cells ((OF (wSm x B) w).pd.map .p) false) (by simp)
    have g7 := ho.at_ (k7, .cells ((OF x w).pd.map .p) false) (by simp)
    generalize OF x w = R at *
    generalize OF (wSm x A) w = RA at *
    generalize OF (wSm x B) w = RB at *
    simp only [List.map_cons, List.map_nil] at g11 g13 g7
    have n7 : ∀ j, (s1.nx + j = k7) = False := fun j => by have := ho.lt g7; simp; omega
    have n7' : ∀ j, (k7 = s1.nx + j) = False := fun j => by have := ho.lt g7; simp; omega
    have n11 : ∀ j, (s1.nx + j = k11) = False := fun j => by have := ho.lt g11; simp; omega
    have n11' : ∀ j, (k11 = s1.nx + j) = False := fun j => by have := ho.lt g11; simp; omega
    have n13 : ∀ j, (s1.nx + j = k13) = False := fun j => by have := ho.lt g13; simp; omega
    have n13' : ∀ j, (k13 = s1.nx + j) = False := fun j => by have := ho.lt g13; simp; omega
    have b0e : ((0 : Int) == 0) = true := rfl
    have q1 : (s1.nx + 15 = s1.nx + 6) = False := by simp
    have q2 : (s1.nx + 6 = s1.nx + 15) = False := by simp
    refine Wc.seq ?_
    refine Wc.reg fun K hK => ?_; simp only [go_sem, ti3, ti4, ti5, ti32, ti39, ti41, ti31, ti96, ti87, ti29, ti22, ti26, ti23, Int.natCast_zero, hF, g11, g13]
    refine wpCall.pf (p21) (by kernel_rfl) (by kernel_rfl) rfl rfl ?_
    simp only [go_sem, ti3, ti4, ti5, ti32, ti39, ti41, ti31, ti96, ti87, ti29, ti22, ti26, ti23, Int.natCast_zero, hF]; refine hK _ _ ?_; clear hK K
    refine Wc.seq ?_
    refine Wc.reg fun K hK => ?_; simp only [go_sem, ti3, ti4, ti5, ti32, ti39, ti41, ti31, ti96, ti87, ti29, ti22, ti26, ti23, Int.natCast_zero, hF, g11, g13, n11, n11', n13, n13']
    refine wpCall.pf (p21') (by kernel_rfl) (by kernel_rfl) rfl rfl ?_
    simp only [go_sem, ti3, ti4, ti5, ti32, ti39, ti41, ti31, ti96, ti87, ti29, ti22, ti26, ti23, Int.natCast_zero, hF]; refine hK _ _ ?_; clear hK K
    refine Wc.seq ?_
    refine Wc.reg fun K hK => ?_; simp only [go_sem, ti3, ti4, ti5, ti32, ti39, ti41, ti31, ti96, ti87, ti29, ti22, ti26, ti23, Int.natCast_zero, hF, b0e, g7, n7, n7', q1, q2]
    refine wpCall.pf (hsame) (by kernel_rfl) (by kernel_rfl) rfl rfl ?_
    simp only [go_sem, ti3, ti4, ti5, ti32, ti39, ti41, ti31, ti96, ti87, ti29, ti22, ti26, ti23, Int.natCast_zero, hF, b0e, g7, n7, n7', q1, q2]
    refine wpCall.pf (hsame) (by kernel_rfl) (by kernel_rfl) rfl rfl ?_
    simp only [go_sem, ti3, ti4, ti5, ti32, ti39, ti41, ti31, ti96, ti87, ti29, ti22, ti26, ti23, Int.natCast_zero, hF]
    refine wpCall.pf (pf12) (by kernel_rfl) (by kernel_rfl) rfl rfl ?_
    simp only [go_sem, ti3, ti4, ti5, ti32, ti39, ti41, ti31, ti96, ti87, ti29, ti22, ti26, ti23, Int.natCast_zero, hF]; refine hK _ _ ?_; clear hK K
    exact Wc.ret (Op.ret [.tmp 6] [.c (.p (.bool true))] rfl rfl (by simp only [resultsD, go_sem, ti3, ti4, ti5, ti32, ti39, ti41, ti31, ti96, ti87, ti29, ti22, ti26, ti23, Int.natCast_zero, hF]) rfl)
  obtain ⟨n, d, s', h1, h2⟩ := Ev.body (g := 7) (args := [V.agg (x.pd.map .p), .c (.p (pI w)), .c (.p (pI t))]) (by kernel_rfl) rfl main
  subst h2
  exact ⟨s', n + 1, h1⟩
end Go.Proofs.YtedcnhbblgmdnaaGreat.Ab
