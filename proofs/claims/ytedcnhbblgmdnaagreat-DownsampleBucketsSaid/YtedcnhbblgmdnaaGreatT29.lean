/- A part of the proof: an evaluator of the code, its contracts, the law. No condition. -/
import Derived.Test.YtedcnhbblgmdnaaGreatT28
namespace Go.Proofs.YtedcnhbblgmdnaaGreat.Ab
set_option maxHeartbeats 8000000
set_option maxRecDepth 10000
set_option linter.unusedSimpArgs false
set_option linter.unusedVariables false
/-- Each bucket and its samples. -/
theorem bkt_piece {k w : Int} {l : List I2} (hw : 1 ≤ w) (hs : l.Pairwise (fun a b => a.1 < b.1)) (hb : ∀ x ∈ l, 1 ≤ x.1) : ∀ b ∈ rollB k w l, ∃ x r, l.filter (inB b.st w) = x :: r ∧ b = sumB k b.st x r := by
  obtain ⟨_, i2⟩ := pieces_inv hw l.length l (Nat.le_refl _) hs hb
  intro b hm
  unfold rollB at hm
  obtain ⟨p, hp, hbp⟩ := List.mem_flatMap.1 hm
  obtain ⟨j1, x, r, j2, _, _⟩ := i2 p hp
  unfold sumP at hbp
  rw [j2] at hbp
  have he := List.mem_singleton.1 hbp
  have hst : b.st = p.1 := by rw [he]; rfl
  rw [hst, ← j1]
  exact ⟨x, r, j2, he⟩
theorem sumV_app (l : List I2) (y : I2) : sumV (l ++ [y]) = sumV l + y.2 := by simp [sumV]
theorem sumV_b {k : Int} {l : List I2} (hl : l.length ≤ 2000) (h : ∀ y ∈ l, okS k y) : -2199023255552000 ≤ sumV l ∧ sumV l ≤ 2199023255552000 := by
  obtain ⟨h1, h2⟩ := sumV_bnd l h 0
  unfold sumV
  omega
theorem fold_min2 {x : I2} {r : List I2} (h : x.2 ≤ 1099511627776) : (x :: r).foldl (fun m y => minI m y.2) 1099511627776 = (x :: r).foldl (fun m y => minI m y.2) x.2 := by
  have e1 : minI 1099511627776 x.2 = x.2 := by unfold minI; split <;> omega
  have e2 : minI x.2 x.2 = x.2 := by unfold minI; split <;> rfl
  rw [List.foldl_cons, List.foldl_cons, e1, e2]
theorem fold_max2 {x : I2} {r : List I2} (h : -1099511627776 ≤ x.2) : (x :: r).foldl (fun m y => maxI m y.2) (-1099511627776) = (x :: r).foldl (fun m y => maxI m y.2) x.2 := by
  have e1 : maxI (-1099511627776) x.2 = x.2 := by unfold maxI; split <;> omega
  have e2 : maxI x.2 x.2 = x.2 := by unfold maxI; split <;> rfl
  rw [List.foldl_cons, List.foldl_cons, e1, e2]
theorem filt_take {p : I2 → Bool} {l : List I2} {j : Nat} {y : I2} (h : l[j]? = some y) : (l.take (j + 1)).filter p = (l.take j).filter p ++ (if p y then [y] else []) := by
  rw [take_succ h, List.filter_append]
  cases hp : p y <;> simp [hp]
/-- 4: DownsampleBuckets -/
theorem law4 (x : Ser) (w : Int) (hlb : x.lb.length < 2^60) (hb : ∀ y ∈ x.hs, y.h.bs.length < 2^60) : ∃ s', Ev E0 (.o 4) [.agg (x.pd.map .p), .c (.p (pI w))] s00 (P' (.bool true)) s' := by
  have main : Wc E0 none (Tryz.f4.body.get rfl) { e := [V.agg (x.pd.map .p), .c (.p (pI w))].map .v ++ List.replicate (Tryz.f4.ntmps - 2) (.tup []), ds := [], s := s00 } (bodyQ E0 Tryz.f4 fun d _ => d = P' (.bool true)) := by
    show Wc E0 none _ _ _
    simp only [List.map_cons, List.map_nil, List.cons_append, List.nil_append, Tryz.ntmps4, List.replicate, Nat.reduceSub, Nat.reduceAdd, s00]
    refine Wc.seq ?_
    refine Wc.reg fun K hK => ?_; simp only [go_sem, ti3, ti4, ti5, ti32, ti39, ti41, ti31, ti96, ti87, ti29, ti22, ti26, ti23, Int.natCast_zero]; refine hK _ _ ?_; clear hK K
    refine Wc.seq (Wc.seq ?_)
    refine Wc.reg fun K hK => ?_; simp only [go_sem, ti3, ti4, ti5, ti32, ti39, ti41, ti31, ti96, ti87, ti29, ti22, ti26, ti23, Int.natCast_zero]
    refine wpCall.pf (pf11 x hlb) (by kernel_rfl) (by kernel_rfl) rfl rfl ?_
    simp only [go_sem, ti3, ti4, ti5, ti32, ti39, ti41, ti31, ti96, ti87, ti29, ti22, ti26, ti23, Int.natCast_zero]; refine hK _ _ ?_; clear hK K
    refine Wc.cond (t := grS x) (by simp only [go_sem, ti3, ti4, ti5, ti32, ti39, ti41, ti31, ti96, ti87, ti29, ti22, ti26, ti23, Int.natCast_zero]) (fun hc => ?_) (fun hc => ?_)
    · refine Wc.seq ?_
      refine Wc.reg fun K hK => ?_; simp only [go_sem, ti3, ti4, ti5, ti32, ti39, ti41, ti31, ti96, ti87, ti29, ti22, ti26, ti23, Int.natCast_zero]
      refine wpCall.pf (pf12) (by kernel_rfl) (by kernel_rfl) rfl rfl ?_
      simp only [go_sem, ti3, ti4, ti5, ti32, ti39, ti41, ti31, ti96, ti87, ti29, ti22, ti26, ti23, Int.natCast_zero]; refine hK _ _ ?_; clear hK K
      refine Wc.ret (thenD_ret ?_)
      exact Op.ret [.tmp 4] [.c (.p (.bool true))] rfl rfl (by simp only [resultsD, go_sem, ti3, ti4, ti5, ti32, ti39, ti41, ti31, ti96, ti87, ti29, ti22, ti26, ti23, Int.natCast_zero]) rfl
    have z := grS_sz hc hb
    have p13 := pf13 x z w
    by_cases hc0 : ofC x w = 0
    case neg =>
      have hne : (ofC x w != 0) = true := by simpa using hc0
      have er : ofR x w = zR := by rw [ofR, if_neg hc0]
      have b0e : ((0 : Int) == 0) = true := rfl
      rw [er] at p13
      have p13 : Pf E0 13 [.agg (x.pd.map .p), .c (.p (pI w))] (.tup [.agg [.p (.lst 0 []), .p (pI 0), .p (pI 0), .p (.lst 0 [])], .c (.p (pI (ofC x w)))]) := p13
      refine Wc.skip (Wc.seq ?_)
      refine Wc.reg fun K hK => ?_; simp only [go_sem, ti3, ti4, ti5, ti32, ti39, ti41, ti31, ti96, ti87, ti29, ti22, ti26, ti23, Int.natCast_zero]
      refine wpCall.pf (p13) (by kernel_rfl) (by kernel_rfl) rfl rfl ?_
      simp only [go_sem, ti3, ti4, ti5, ti32, ti39, ti41, ti31, ti96, ti87, ti29, ti22, ti26, ti23, Int.natCast_zero]; refine hK _ _ ?_; clear hK K
      refine Wc.seq (Wc.seq ?_)
      refine Wc.reg fun K hK => ?_; simp only [go_sem, ti3, ti4, ti5, ti32, ti39, ti41, ti31, ti96, ti87, ti29, ti22, ti26, ti23, Int.natCast_zero, hne]; refine hK _ _ ?_; clear hK K
      refine Wc.cond (t := true) (by simp only [go_sem, ti3, ti4, ti5, ti32, ti39, ti41, ti31, ti96, ti87, ti29, ti22, ti26, ti23, Int.natCast_zero, hne]) (fun _ => ?_) (fun hc => by cases hc)
      refine Wc.seq ?_
      refine Wc.reg fun K hK => ?_; simp only [go_sem, ti3, ti4, ti5, ti32, ti39, ti41, ti31, ti96, ti87, ti29, ti22, ti26, ti23, Int.natCast_zero, b0e]
      refine wpCall.pf (pf12) (by kernel_rfl) (by kernel_rfl) rfl rfl ?_
      simp only [go_sem, ti3, ti4, ti5, ti32, ti39, ti41, ti31, ti96, ti87, ti29, ti22, ti26, ti23, Int.natCast_zero, b0e]; refine hK _ _ ?_; clear hK K
      refine Wc.ret (thenD_ret ?_)
      exact Op.ret [.tmp 4] [.c (.p (.bool true))] rfl rfl (by simp only [resultsD, go_sem, ti3, ti4, ti5, ti32, ti39, ti41, ti31, ti96, ti87, ti29, ti22, ti26, ti23, Int.natCast_zero]) rfl
    obtain ⟨hok, hk, w1, w2⟩ := ofC_inv hc0
    have v := serOK_v hok hk
    obtain ⟨_, er0⟩ := OF_of hok hk w1 w2
    have hOk := OF_ok v w1 w2
    have hroll : rollB x.k w x.sm = ofB x.k w x.sm := rollB_eq w1 v.srt (fun y hy => (v.ok y hy).1.1)
    have er : ofR x w = ⟨x.lb, x.k, w, rollB x.k w x.sm⟩ := by rw [er0, OF, hroll]
    have hOk2 : rlpOK ⟨x.lb, x.k, w, rollB x.k w x.sm⟩ = true := by rw [hroll]; exact hOk
    have hpc := bkt_piece (k := x.k) w1 v.srt (fun y hy => (v.ok y hy).1.1)
    obtain ⟨hcnt, hsum⟩ := sum_count (k := x.k) w1 v.srt (fun y hy => (v.ok y hy).1.1)
    have hR := rlpOK_v hOk2
    have p19 := pf19 ⟨x.lb, x.k, w, rollB x.k w x.sm⟩ z.lb z.ls
    unfold chkR at p19
    rw [hOk2] at p19
    rw [er, hc0] at p13
    clear hOk hOk2 hroll er er0
    generalize rollB x.k w x.sm = B at *
    have hBl := hR.len
    have hvb := hR.vb
    simp only at hBl hvb
    have hvl := v.len
    have hfs := fS x.sm
    have hfB := fB B
    have hbS := sumV_b hvl v.ok
    refine Wc.skip (Wc.seq ?_)
    refine Wc.reg fun K hK => ?_; simp only [go_sem, ti3, ti4, ti5, ti32, ti39, ti41, ti31, ti96, ti87, ti29, ti22, ti26, ti23, Int.natCast_zero]
    refine wpCall.pf (p13) (by kernel_rfl) (by kernel_rfl) rfl rfl ?_
    simp only [go_sem, ti3, ti4, ti5, ti32, ti39, ti41, ti31, ti96, ti87, ti29, ti22, ti26, ti23, Int.natCast_zero]; refine hK _ _ ?_; clear hK K
    refine Wc.seq (Wc.seq ?_)
    refine Wc.reg fun K hK => ?_; simp only [go_sem, ti3, ti4, ti5, ti32, ti39, ti41, ti31, ti96, ti87, ti29, ti22, ti26, ti23, Int.natCast_zero, b00]; refine hK _ _ ?_; clear hK K
    refine Wc.cond (t := false) (by simp only [go_sem, ti3, ti4, ti5, ti32, ti39, ti41, ti31, ti96, ti87, ti29, ti22, ti26, ti23, Int.natCast_zero, b00]) (fun hc => by cases hc) (fun _ => Wc.skip ?_)
    refine Wc.seq ?_
    refine Wc.reg fun K hK => ?_; simp only [go_sem, ti3, ti4, ti5, ti32, ti39, ti41, ti31, ti96, ti87, ti29, ti22, ti26, ti23, Int.natCast_zero]; refine hK _ _ ?_; clear hK K
    have sv0 : sumV [] = 0 := rfl
    refine Wc.seqR (fun y => ∃ kr, y.ds = [] ∧ Fs y.e 206 [(1, P' (pI w)), (2, .v (.c (.ref 0 0))), (5, .v (.c (.ref kr 0))), (7, P' (pI 0)), (8, P' (pI 0)), (9, P' (pI (sumV x.sm)))] ∧ OA y.s.nx y.s [] [(kr, .cells ((Rlp.mk x.lb x.k w B).pd.map .p) false), (0, .cells (x.pd.map .p) false)]) ?_ ?_
    · refine Wc.seq ?_
      refine Wc.reg fun K hK => ?_; simp only [go_sem, ti3, ti4, ti5, ti32, ti39, ti41, ti31, ti96, ti87, ti29, ti22, ti26, ti23, Int.natCast_zero]; refine hK _ _ ?_; clear hK K
      refine Wc.block (Wc.loop (fun c y => ∃ (j kr : Nat), (c = x.sm.length - j ∧ j ≤ x.sm.length) ∧ y.ds = [] ∧ Fs y.e 206 [(1, P' (pI w)), (2, .v (.c (.ref 0 0))), (5, .v (.c (.ref kr 0))), (7, P' (pI 0)), (8, P' (pI 0)), (9, P' (pI (sumV (x.sm.take j)))), (40, P' (.lst x.sm.length (x.sm.flatMap p2))), (41, P' (pI x.sm.length)), (42, P' (pI j))] ∧ OA y.s.nx y.s [] [(kr, .cells ((Rlp.mk x.lb x.k w B).pd.map .p) false), (0, .cells (x.pd.map .p) false)]) ?_ (k := x.sm.length) ⟨0, 10, ⟨rfl, by omega⟩, rfl, by simp only [Fs, Int.natCast_zero, go_sem, ti3, ti4, ti5, ti32, ti39, ti41, ti31, ti96, ti87, ti29, ti22, ti26, ti23, Int.natCast_zero, sv0, List.take_zero], by (try simp only [St.nx_put, St.nx_adv]); repeat (first | exact OA.mono s00_oa (by omega) | refine OA.newB ?_ (by omega) rfl | refine OA.advB ?_)⟩)
      rintro c ⟨e, ds, s1⟩ ⟨j, kr, ⟨rfl, hj⟩, rfl, hF, ho⟩
      simp only [Fs] at hF ho
      refine Wc.seq ?_
      refine Wc.reg fun K hK => ?_; simp only [go_sem, ti3, ti4, ti5, ti32, ti39, ti41, ti31, ti96, ti87, ti29, ti22, ti26, ti23, Int.natCast_zero, hF]; refine hK _ _ ?_; clear hK K
      refine Wc.seq ?_
      refine Wc.cond (t := decide ((j : Int) < x.sm.length)) (by simp only [go_sem, ti3, ti4, ti5, ti32, ti39, ti41, ti31, ti96, ti87, ti29, ti22, ti26, ti23, Int.natCast_zero, hF]) (fun hc => ?_) (fun hc => ?_)
      · have hjl : j < x.sm.length := by have := of_decide_eq_true hc; omega
        obtain ⟨y0, hy⟩ : ∃ y, x.sm[j]? = some y := ⟨x.sm[j], List.getElem?_eq_getElem hjl⟩
        have hix := ixA ti23 rfl ti39 (j := j) (m := x.sm.length) (cs := x.sm.flatMap p2) hjl hfs (by decide)
        have hca := rpA (off := j * 2) (drop_flat (f := p2) (k := 2) (fun _ => rfl) hy) (by rw [hfs]; omega)
        have ht : sumV (x.sm.take (j + 1)) = sumV (x.sm.take j) + y0.2 := by rw [take_succ hy, sumV_app]
        obtain ⟨c1, c2⟩ := sumV_b (l := x.sm.take (j + 1)) (by simp; omega) (fun y hy => v.ok y (List.mem_of_mem_take hy))
        have e1 : IntKind.i64.wrap (sumV (x.sm.take j) + y0.2) = sumV (x.sm.take (j + 1)) := by rw [wi64, ht]; omega
        refine Wc.skip (Wc.seq (Wc.block (Wc.seq ?_)))
        refine Wc.reg fun K hK => ?_; simp only [go_sem, ti3, ti4, ti5, ti32, ti39, ti41, ti31, ti96, ti87, ti29, ti22, ti26, ti23, Int.natCast_zero, hF, hix, hca]; refine hK _ _ ?_; clear hK K
        refine Wc.reg fun K hK => ?_; simp only [go_sem, ti3, ti4, ti5, ti32, ti39, ti41, ti31, ti96, ti87, ti29, ti22, ti26, ti23, Int.natCast_zero, hF, e1]; refine hK _ _ ?_; clear hK K
        refine Wc.reg fun K hK => ?_; simp only [go_sem, ti3, ti4, ti5, ti32, ti39, ti41, ti31, ti96, ti87, ti29, ti22, ti26, ti23, Int.natCast_zero, hF, i64n j (by omega)]; refine hK _ _ ?_; clear hK K
        exact ⟨x.sm.length - (j + 1), by omega, j + 1, kr, ⟨rfl, by omega⟩, rfl, by simp only [Fs, Int.natCast_zero, go_sem, ti3, ti4, ti5, ti32, ti39, ti41, ti31, ti96, ti87, ti29, ti22, ti26, ti23, Int.natCast_zero, hF], by (try simp only [St.put_adv, St.adv_adv, St.put_put, St.nx_put, St.nx_adv]); repeat (first | exact OA.mono ho (by omega) | refine OA.newB ?_ (by omega) rfl | refine OA.putB ?_ (by omega) | refine OA.advB ?_)⟩
      · have hil : j = x.sm.length := by have := of_decide_eq_false hc; omega
        rw [hil, List.take_length] at hF
        exact Wc.exit ⟨kr, rfl, by simp only [Fs, Int.natCast_zero, go_sem, ti3, ti4, ti5, ti32, ti39, ti41, ti31, ti96, ti87, ti29, ti22, ti26, ti23, Int.natCast_zero, hF], by (try simp only [St.nx_put, St.nx_adv]); repeat (first | exact OA.mono ho (by omega) | refine OA.newB ?_ (by omega) rfl | refine OA.advB ?_)⟩
    rintro ⟨e, ds, s1⟩ ⟨kr, rfl, hF, ho⟩
    simp only [Fs] at hF ho
    have gr := ho.at_ (kr, .cells ((Rlp.mk x.lb x.k w B).pd.map .p) false) (by simp)
    simp only [List.map_cons, List.map_nil] at gr
    refine Wc.seqR (fun y => ∃ kr, y.ds = [] ∧ Fs y.e 206 [(1, P' (pI w)), (2, .v (.c (.ref 0 0))), (5, .v (.c (.ref kr 0))), (7, P' (pI x.sm.length)), (8, P' (pI (sumV x.sm))), (9, P' (pI (sumV x.sm)))] ∧ OA y.s.nx y.s [] [(kr, .cells ((Rlp.mk x.lb x.k w B).pd.map .p) false), (0, .cells (x.pd.map .p) false)]) ?_ ?_
    · refine Wc.seq ?_
      refine Wc.reg fun K hK => ?_; simp only [go_sem, ti3, ti4, ti5, ti32, ti39, ti41, ti31, ti96, ti87, ti29, ti22, ti26, ti23, Int.natCast_zero, hF, gr]; refine hK _ _ ?_; clear hK K
      refine Wc.block (Wc.loop (fun c y => ∃ (i kr : Nat) (cn sn : Int), (c = B.length - i ∧ i ≤ B.length ∧ (B.drop i).foldl (fun c b => c + b.c) cn = (x.sm.length : Int) ∧ (B.drop i).foldl (fun c b => c + b.s) sn = sumV x.sm ∧ 0 ≤ cn ∧ cn ≤ i * 2000 ∧ -(i * 2199023255552000) ≤ sn ∧ sn ≤ i * 2199023255552000) ∧ y.ds = [] ∧ Fs y.e 206 [(1, P' (pI w)), (2, .v (.c (.ref 0 0))), (5, .v (.c (.ref kr 0))), (7, P' (pI cn)), (8, P' (pI sn)), (9, P' (pI (sumV x.sm))), (52, P' (.lst B.length (B.flatMap Bkt.pd))), (53, P' (pI B.length)), (54, P' (pI i))] ∧ OA y.s.nx y.s [] [(kr, .cells ((Rlp.mk x.lb x.k w B).pd.map .p) false), (0, .cells (x.pd.map .p) false)]) ?_ (k := B.length) ⟨0, kr, 0, 0, ⟨rfl, by omega, hcnt, hsum, by omega, by omega, by omega, by omega⟩, rfl, by simp only [Fs, Int.natCast_zero, go_sem, ti3, ti4, ti5, ti32, ti39, ti41, ti31, ti96, ti87, ti29, ti22, ti26, ti23, Int.natCast_zero, hF], by (try simp only [St.nx_put, St.nx_adv]); repeat (first | exact OA.mono ho (by omega) | refine OA.newB ?_ (by omega) rfl | refine OA.advB ?_)⟩)
      clear hF ho gr e s1 kr
      rintro c ⟨e, ds, s1⟩ ⟨i, kr, cn, sn, ⟨rfl, hi, hc1, hs1, b1, b2, b3, b4⟩, rfl, hF, ho⟩
      simp only [Fs] at hF ho
      refine Wc.seq ?_
      refine Wc.reg fun K hK => ?_; simp only [go_sem, ti3, ti4, ti5, ti32, ti39, ti41, ti31, ti96, ti87, ti29, ti22, ti26, ti23, Int.natCast_zero, hF]; refine hK _ _ ?_; clear hK K
      refine Wc.seq ?_
      refine Wc.cond (t := decide ((i : Int) < B.length)) (by simp only [go_sem, ti3, ti4, ti5, ti32, ti39, ti41, ti31, ti96, ti87, ti29, ti22, ti26, ti23, Int.natCast_zero, hF]) (fun hc => ?_) (fun hc => ?_)
      · have hil : i < B.length := by have := of_decide_eq_true hc; omega
        obtain ⟨b, hbi⟩ : ∃ y, B[i]? = some y := ⟨B[i], List.getElem?_eq_getElem hil⟩
        have hbm := List.mem_of_getElem? hbi
        obtain ⟨x0, r0, hfil, hbe⟩ := hpc b hbm
        have hv := hvb b hbm
        rw [drop_at hbi, List.foldl_cons] at hc1 hs1
        have hix := ixA ti29 rfl ti41 (j := i) (m := B.length) (cs := B.flatMap Bkt.pd) hil hfB (by decide)
        have hca := rpB0 hbi
        have hxm : ∀ y ∈ x0 :: r0, y ∈ x.sm := fun y hy => by rw [← hfil] at hy; exact (List.mem_filter.1 hy).1
        have hx0 := v.ok x0 (hxm x0 (by simp))
        have fmn : (x.sm.filter (inB b.st w)).foldl (fun m y => minI m y.2) 1099511627776 = b.mn := by rw [hfil, fold_min2 hx0.2.1.2, hbe]; rfl
        have fmx : (x.sm.filter (inB b.st w)).foldl (fun m y => maxI m y.2) (-1099511627776) = b.mx := by rw [hfil, fold_max2 hx0.2.1.1, hbe]; rfl
        have fsm : sumV (x.sm.filter (inB b.st w)) = b.s := by rw [hfil, hbe]; rfl
        refine Wc.skip (Wc.seq (Wc.block ?_))
        refine Wc.seqR (fun y => ∃ kb, y.ds = [] ∧ Fs y.e 206 [(1, P' (pI w)), (2, .v (.c (.ref 0 0))), (5, .v (.c (.ref kr 0))), (7, P' (pI cn)), (8, P' (pI sn)), (9, P' (pI (sumV x.sm))), (52, P' (.lst B.length (B.flatMap Bkt.pd))), (53, P' (pI B.length)), (54, P' (pI i)), (13, .v (.c (.ref kb 0)))] ∧ OA y.s.nx y.s [] ((kb, .cells (b.pd.map .p) false) :: [(kr, .cells ((Rlp.mk x.lb x.k w B).pd.map .p) false), (0, .cells (x.pd.map .p) false)])) ?_ ?_
        · refine Wc.reg fun K hK => ?_; simp only [go_sem, ti3, ti4, ti5, ti32, ti39, ti41, ti31, ti96, ti87, ti29, ti22, ti26, ti23, Int.natCast_zero, hF, hix, hca]; refine hK _ _ ?_; clear hK K
          exact ⟨s1.nx + 3, rfl, by simp only [Fs, Int.natCast_zero, go_sem, ti3, ti4, ti5, ti32, ti39, ti41, ti31, ti96, ti87, ti29, ti22, ti26, ti23, Int.natCast_zero, hF], by (try simp only [St.put_adv, St.adv_adv, St.put_put, St.nx_put, St.nx_adv]); repeat (first | exact OA.mono ho (by omega) | refine OA.newB ?_ (by omega) rfl | refine OA.putB ?_ (by omega) | refine OA.advB ?_)⟩
        clear hF ho e s1
        rintro ⟨e, ds, s1⟩ ⟨kb, rfl, hF, ho⟩
        simp only [Fs] at hF ho
        have g0 := ho.at_ (0, .cells (x.pd.map .p) false) (by simp)
        simp only [List.map_cons, List.map_nil] at g0
        refine Wc.seq ?_
        refine Wc.reg fun K hK => ?_; simp only [go_sem, ti3, ti4, ti5, ti32, ti39, ti41, ti31, ti96, ti87, ti29, ti22, ti26, ti23, Int.natCast_zero, hF]; refine hK _ _ ?_; clear hK K
        refine Wc.seq ?_
        refine Wc.reg fun K hK => ?_; simp only [go_sem, ti3, ti4, ti5, ti32, ti39, ti41, ti31, ti96, ti87, ti29, ti22, ti26, ti23, Int.natCast_zero, hF]; refine hK _ _ ?_; clear hK K
        refine Wc.seqR (fun y => ∃ xc G, y.ds = [] ∧ Fs y.e 206 [(1, P' (pI w)), (2, .v (.c (.ref 0 0))), (5, .v (.c (.ref kr 0))), (7, P' (pI cn)), (8, P' (pI sn)), (9, P' (pI (sumV x.sm))), (52, P' (.lst B.length (B.flatMap Bkt.pd))), (53, P' (pI B.length)), (54, P' (pI i)), (13, .v (.c (.ref kb 0))), (14, .v (.c xc)), (15, P' (pI b.mn)), (16, P' (pI b.mx)), (17, P' (pI b.s))] ∧ OA y.s.nx y.s [] (G ++ (kb, .cells (b.pd.map .p) false) :: [(kr, .cells ((Rlp.mk x.lb x.k w B).pd.map .p) false), (0, .cells (x.pd.map .p) false)]) ∧ GS xc (x0 :: r0) G) ?_ ?_
        · refine Wc.seq ?_
          refine Wc.reg fun K hK => ?_; simp only [go_sem, ti3, ti4, ti5, ti32, ti39, ti41, ti31, ti96, ti87, ti29, ti22, ti26, ti23, Int.natCast_zero, hF, g0]; refine hK _ _ ?_; clear hK K
          refine Wc.block (Wc.loop (fun c y => ∃ (j : Nat) (xc : C) (G : List (Nat × Ob)), (c = x.sm.length - j ∧ j ≤ x.sm.length) ∧ y.ds = [] ∧ Fs y.e 206 [(1, P' (pI w)), (2, .v (.c (.ref 0 0))), (5, .v (.c (.ref kr 0))), (7, P' (pI cn)), (8, P' (pI sn)), (9, P' (pI (sumV x.sm))), (52, P' (.lst B.length (B.flatMap Bkt.pd))), (53, P' (pI B.length)), (54, P' (pI i)), (13, .v (.c (.ref kb 0))), (14, .v (.c xc)), (15, P' (pI (((x.sm.take j).filter (inB b.st w)).foldl (fun m y => minI m y.2) 1099511627776))), (16, P' (pI (((x.sm.take j).filter (inB b.st w)).foldl (fun m y => maxI m y.2) (-1099511627776)))), (17, P' (pI (sumV ((x.sm.take j).filter (inB b.st w))))), (59, P' (.lst x.sm.length (x.sm.flatMap p2))), (60, P' (pI x.sm.length)), (61, P' (pI j))] ∧ OA y.s.nx y.s [] (G ++ (kb, .cells (b.pd.map .p) false) :: [(kr, .cells ((Rlp.mk x.lb x.k w B).pd.map .p) false), (0, .cells (x.pd.map .p) false)]) ∧ GS xc ((x.sm.take j).filter (inB b.st w)) G) ?_ (k := x.sm.length) ⟨0, .nils, [], ⟨rfl, by omega⟩, rfl, by simp only [Fs, Int.natCast_zero, go_sem, ti3, ti4, ti5, ti32, ti39, ti41, ti31, ti96, ti87, ti29, ti22, ti26, ti23, Int.natCast_zero, hF, sv0, List.take_zero, List.filter_nil, List.foldl_nil], by (try simp only [St.nx_put, St.nx_adv]); repeat (first | exact OA.mono ho (by omega) | refine OA.newB ?_ (by omega) rfl | refine OA.advB ?_), .inl ⟨rfl, rfl, rfl⟩⟩)
          clear hF ho g0 e s1
          rintro c ⟨e, ds, s1⟩ ⟨j, xc, G, ⟨rfl, hj⟩, rfl, hF, ho, hG⟩
          simp only [Fs] at hF ho
          refine Wc.seq ?_
          refine Wc.reg fun K hK => ?_; simp only [go_sem, ti3, ti4, ti5, ti32, ti39, ti41, ti31, ti96, ti87, ti29, ti22, ti26, ti23, Int.natCast_zero, hF]; refine hK _ _ ?_; clear hK K
          refine Wc.seq ?_
          refine Wc.cond (t := decide ((j : Int) < x.sm.length)) (by simp only [go_sem, ti3, ti4, ti5, ti32, ti39, ti41, ti31, ti96, ti87, ti29, ti22, ti26, ti23, Int.natCast_zero, hF]) (fun hc => ?_) (fun hc => ?_)
          · have hjl : j < x.sm.length := by have := of_decide_eq_true hc; omega
            obtain ⟨y0, hy⟩ : ∃ y, x.sm[j]? = some y := ⟨x.sm[j], List.getElem?_eq_getElem hjl⟩
            have hym := List.mem_of_getElem? hy
            obtain ⟨⟨t1, t2⟩, ⟨v1, v2⟩, _⟩ := v.ok y0 hym
            have hft := filt_take (p := inB b.st w) hy
            have hfl2 : ((x.sm.take j).filter (inB b.st w)).length ≤ 2000 := Nat.le_trans (List.length_filter_le _ _) (by simp; omega)
            obtain ⟨c1, c2⟩ := sumV_b hfl2 (fun y hy => v.ok y (List.mem_of_mem_take ((List.mem_filter.1 hy).1)))
            generalize (x.sm.take j).filter (inB b.st w) = A at *
            have hix := ixA ti23 rfl ti39 (j := j) (m := x.sm.length) (cs := x.sm.flatMap p2) hjl hfs (by decide)
            have hca := rpA (off := j * 2) (drop_flat (f := p2) (k := 2) (fun _ => rfl) hy) (by rw [hfs]; omega)
            refine Wc.skip (Wc.seq (Wc.block ?_))
            refine Wc.seqR (fun y => ∃ ky, y.ds = [] ∧ Fs y.e 206 [(1, P' (pI w)), (2, .v (.c (.ref 0 0))), (5, .v (.c (.ref kr 0))), (7, P' (pI cn)), (8, P' (pI sn)), (9, P' (pI (sumV x.sm))), (52, P' (.lst B.length (B.flatMap Bkt.pd))), (53, P' (pI B.length)), (54, P' (pI i)), (13, .v (.c (.ref kb 0))), (14, .v (.c xc)), (15, P' (pI (A.foldl (fun m y => minI m y.2) 1099511627776))), (16, P' (pI (A.foldl (fun m y => maxI m y.2) (-1099511627776)))), (17, P' (pI (sumV A))), (59, P' (.lst x.sm.length (x.sm.flatMap p2))), (60, P' (pI x.sm.length)), (61, P' (pI j)), (19, .v (.c (.ref ky 0)))] ∧ OA y.s.nx y.s [] (G ++ (ky, .cells ((p2 y0).map .p) false) :: (kb, .cells (b.pd.map .p) false) :: [(kr, .cells ((Rlp.mk x.lb x.k w B).pd.map .p) false), (0, .cells (x.pd.map .p) false)])) ?_ ?_
            · refine Wc.reg fun K hK => ?_; simp only [go_sem, ti3, ti4, ti5, ti32, ti39, ti41, ti31, ti96, ti87, ti29, ti22, ti26, ti23, Int.natCast_zero, hF, hix, hca]; refine hK _ _ ?_; clear hK K
              exact ⟨s1.nx + 3, rfl, by simp only [Fs, Int.natCast_zero, go_sem, ti3, ti4, ti5, ti32, ti39, ti41, ti31, ti96, ti87, ti29, ti22, ti26, ti23, Int.natCast_zero, hF], OA.rot' (A := [(s1.nx + 3, .cells ((p2 y0).map .p) false)]) (B := G) (show OA _ _ [] ((s1.nx + 3, .cells ((p2 y0).map .p) false) :: (G ++ (kb, .cells (b.pd.map .p) false) :: [(kr, .cells ((Rlp.mk x.lb x.k w B).pd.map .p) false), (0, .cells (x.pd.map .p) false)])) from by (try simp only [St.put_adv, St.adv_adv, St.put_put, St.nx_put, St.nx_adv]); repeat (first | exact OA.mono ho (by omega) | refine OA.newB ?_ (by omega) rfl | refine OA.putB ?_ (by omega) | refine OA.advB ?_))⟩
            clear hF ho e s1
            rintro ⟨e, ds, s1⟩ ⟨ky, rfl, hF, ho⟩
            simp only [Fs] at hF ho
            have gy := ho.at_ (ky, .cells ((p2 y0).map .p) false) (by simp)
            have gb := ho.at_ (kb, .cells (b.pd.map .p) false) (by simp)
            simp only [List.map_cons, List.map_nil] at gy gb
            have e1 : IntKind.i64.wrap (b.st + w) = b.st + w := by have := hv.t0; have := hv.t1; rw [wi64]; omega
            have es : IntKind.i64.wrap (sumV A + y0.2) = sumV A + y0.2 := by rw [wi64]; omega
            refine Wc.seq ?_
            by_cases h1 : b.st < y0.1
            case neg =>
              have hp : inB b.st w y0 = false := by simp [inB, h1]
              rw [hp, if_neg Bool.false_ne_true, List.append_nil] at hft
              refine Wc.reg fun K hK => ?_; simp only [go_sem, ti3, ti4, ti5, ti32, ti39, ti41, ti31, ti96, ti87, ti29, ti22, ti26, ti23, Int.natCast_zero, hF, gy, gb, h1]; refine hK _ _ ?_; clear hK K
              refine Wc.cond (t := false) (by simp only [go_sem, ti3, ti4, ti5, ti32, ti39, ti41, ti31, ti96, ti87, ti29, ti22, ti26, ti23, Int.natCast_zero, hF]) (fun hc => by cases hc) (fun _ => Wc.skip ?_)
              refine Wc.reg fun K hK => ?_; simp only [go_sem, ti3, ti4, ti5, ti32, ti39, ti41, ti31, ti96, ti87, ti29, ti22, ti26, ti23, Int.natCast_zero, hF, i64n j (by omega)]; refine hK _ _ ?_; clear hK K
              refine ⟨x.sm.length - (j + 1), by omega, j + 1, xc, G, ⟨rfl, by omega⟩, rfl, ?_, ?_, by rw [hft]; exact hG⟩
              · rw [hft]; exact by simp only [Fs, Int.natCast_zero, go_sem, ti3, ti4, ti5, ti32, ti39, ti41, ti31, ti96, ti87, ti29, ti22, ti26, ti23, Int.natCast_zero, hF]
              · refine OA.sub (M := G ++ (ky, .cells ((p2 y0).map .p) false) :: (kb, .cells (b.pd.map .p) false) :: [(kr, .cells ((Rlp.mk x.lb x.k w B).pd.map .p) false), (0, .cells (x.pd.map .p) false)]) ?_ (List.Sublist.refl _) (List.Sublist.append (List.Sublist.refl _) (List.Sublist.cons _ (List.Sublist.refl _)))
                exact by (try simp only [St.nx_put, St.nx_adv]); repeat (first | exact OA.mono ho (by omega) | refine OA.newB ?_ (by omega) rfl | refine OA.putB ?_ (by omega) | refine OA.advB ?_)
            by_cases h2 : y0.1 ≤ b.st + w
            case neg =>
              have hp : inB b.st w y0 = false := by simp [inB, h2]
              rw [hp, if_neg Bool.false_ne_true, List.append_nil] at hft
              refine Wc.reg fun K hK => ?_; simp only [go_sem, ti3, ti4, ti5, ti32, ti39, ti41, ti31, ti96, ti87, ti29, ti22, ti26, ti23, Int.natCast_zero, hF, gy, gb, e1, h1, h2]; refine hK _ _ ?_; clear hK K
              refine Wc.cond (t := false) (by simp only [go_sem, ti3, ti4, ti5, ti32, ti39, ti41, ti31, ti96, ti87, ti29, ti22, ti26, ti23, Int.natCast_zero, hF]) (fun hc => by cases hc) (fun _ => Wc.skip ?_)
              refine Wc.reg fun K hK => ?_; simp only [go_sem, ti3, ti4, ti5, ti32, ti39, ti41, ti31, ti96, ti87, ti29, ti22, ti26, ti23, Int.natCast_zero, hF, i64n j (by omega)]; refine hK _ _ ?_; clear hK K
              refine ⟨x.sm.length - (j + 1), by omega, j + 1, xc, G, ⟨rfl, by omega⟩, rfl, ?_, ?_, by rw [hft]; exact hG⟩
              · rw [hft]; exact by simp only [Fs, Int.natCast_zero, go_sem, ti3, ti4, ti5, ti32, ti39, ti41, ti31, ti96, ti87, ti29, ti22, ti26, ti23, Int.natCast_zero, hF]
              · refine OA.sub (M := G ++ (ky, .cells ((p2 y0).map .p) false) :: (kb, .cells (b.pd.map .p) false) :: [(kr, .cells ((Rlp.mk x.lb x.k w B).pd.map .p) false), (0, .cells (x.pd.map .p) false)]) ?_ (List.Sublist.refl _) (List.Sublist.append (List.Sublist.refl _) (List.Sublist.cons _ (List.Sublist.refl _)))
                exact by (try simp only [St.nx_put, St.nx_adv]); repeat (first | exact OA.mono ho (by omega) | refine OA.newB ?_ (by omega) rfl | refine OA.putB ?_ (by omega) | refine OA.advB ?_)
            have hp : inB b.st w y0 = true := by simp [inB, h1, h2]
            rw [hp, if_pos rfl] at hft
            refine Wc.reg fun K hK => ?_; simp only [go_sem, ti3, ti4, ti5, ti32, ti39, ti41, ti31, ti96, ti87, ti29, ti22, ti26, ti23, Int.natCast_zero, hF, gy, gb, e1, h1, h2]; refine hK _ _ ?_; clear hK K
            refine Wc.cond (t := true) (by simp only [go_sem, ti3, ti4, ti5, ti32, ti39, ti41, ti31, ti96, ti87, ti29, ti22, ti26, ti23, Int.natCast_zero, hF]) (fun _ => ?_) (fun hc => by cases hc)
            refine Wc.seq ?_
            refine Wc.reg fun K hK => ?_; simp only [go_sem, ti3, ti4, ti5, ti32, ti39, ti41, ti31, ti96, ti87, ti29, ti22, ti26, ti23, Int.natCast_zero, hF, gy]
            refine GS.app (m := [y0]) (M := (ky, .cells ((p2 y0).map .p) false) :: (kb, .cells (b.pd.map .p) false) :: [(kr, .cells ((Rlp.mk x.lb x.k w B).pd.map .p) false), (0, .cells (x.pd.map .p) false)]) (G := G) (L := []) ?_ hG (Nat.le_refl _) (by simp only [List.length_cons, List.length_nil]; omega) (by simp only [go_sem, ti3, ti4, ti5, ti32, ti39, ti41, ti31, ti96, ti87, ti29, ti22, ti26, ti23, Int.natCast_zero]; rfl) (by simp) fun x' G' s3 hs hnx hG' => ?_
            · exact by (try simp only [St.nx_put, St.nx_adv]); repeat (first | exact OA.mono ho (by omega) | refine OA.newB ?_ (by omega) rfl | refine OA.putB ?_ (by omega) | refine OA.advB ?_)
            have gy' := hs.at_ (ky, .cells ((p2 y0).map .p) false) (by simp)
            simp only [List.map_cons, List.map_nil] at gy'
            simp only [St.nx_put, St.nx_adv] at hnx
            simp only [go_sem, ti3, ti4, ti5, ti32, ti39, ti41, ti31, ti96, ti87, ti29, ti22, ti26, ti23, Int.natCast_zero, hF]; refine hK _ _ ?_; clear hK K
            refine Wc.regD fun K hK => ?_; simp only [go_sem, ti3, ti4, ti5, ti32, ti39, ti41, ti31, ti96, ti87, ti29, ti22, ti26, ti23, Int.natCast_zero, hF, gy', minB2, maxB2, es]; refine hK _ _ ?_; clear hK K
            refine Wc.reg fun K hK => ?_; simp only [go_sem, ti3, ti4, ti5, ti32, ti39, ti41, ti31, ti96, ti87, ti29, ti22, ti26, ti23, Int.natCast_zero, hF, i64n j (by omega)]; refine hK _ _ ?_; clear hK K
            refine ⟨x.sm.length - (j + 1), by omega, j + 1, x', G', ⟨rfl, by omega⟩, rfl, ?_, ?_, by rw [hft]; exact hG'⟩
            · rw [hft, List.foldl_append, List.foldl_append, sumV_app]; exact by simp only [Fs, Int.natCast_zero, go_sem, ti3, ti4, ti5, ti32, ti39, ti41, ti31, ti96, ti87, ti29, ti22, ti26, ti23, Int.natCast_zero, hF, List.foldl_cons, List.foldl_nil]
            · refine OA.sub (M := G' ++ (ky, .cells ((p2 y0).map .p) false) :: (kb, .cells (b.pd.map .p) false) :: [(kr, .cells ((Rlp.mk x.lb x.k w B).pd.map .p) false), (0, .cells (x.pd.map .p) false)]) ?_ (List.Sublist.refl _) (List.Sublist.append (List.Sublist.refl _) (List.Sublist.cons _ (List.Sublist.refl _)))
              exact by (try simp only [St.nx_put, St.nx_adv]); repeat (first | exact OA.mono hs (by omega) | refine OA.newB ?_ (by omega) rfl | refine OA.putB ?_ (by omega) | refine OA.advB ?_)
          · have hil : j = x.sm.length := by have := of_decide_eq_false hc; omega
            rw [hil, List.take_length, fmn, fmx, fsm] at hF
            rw [hil, List.take_length, hfil] at hG
            exact Wc.exit ⟨xc, G, rfl, by simp only [Fs, Int.natCast_zero, go_sem, ti3, ti4, ti5, ti32, ti39, ti41, ti31, ti96, ti87, ti29, ti22, ti26, ti23, Int.natCast_zero, hF], by (try simp only [St.nx_put, St.nx_adv]); repeat (first | exact OA.mono ho (by omega) | refine OA.newB ?_ (by omega) rfl | refine OA.advB ?_), hG⟩
        clear hF ho g0 e s1
        rintro ⟨e, ds, s1⟩ ⟨xc, G, rfl, hF, ho, hG⟩
        simp only [Fs] at hF ho
        have gb := ho.at_ (kb, .cells (b.pd.map .p) false) (by simp)
        have g0 := ho.at_ (0, .cells (x.pd.map .p) false) (by simp)
        simp only [List.map_cons, List.map_nil] at gb g0
        have glen := hG.len
        have hFl : (x0 :: r0).length ≤ 2000 := by rw [← hfil]; exact Nat.le_trans (List.length_filter_le _ _) hvl
        have hFo : ∀ y ∈ x0 :: r0, okS x.k y := fun y hy => v.ok y (hxm y hy)
        have p18 := pf18 x.k (x0 :: r0) hFl (fun e y hy => e ▸ hFo y hy)
        obtain ⟨zl, hzl0⟩ : ∃ z, (x0 :: r0).getLast (by simp) = z := ⟨_, rfl⟩
        have hzl : (x0 :: r0)[(x0 :: r0).length - 1]? = some zl := by rw [← hzl0, List.getLast_eq_getElem]; simp
        have f5 : (b.f != x0.2) = false := by rw [hbe]; exact bne_self_eq_false _
        have f7 : (b.ft != x0.1) = false := by rw [hbe]; exact bne_self_eq_false _
        have f6 : (b.l != zl.2) = false := by rw [hbe, ← hzl0]; exact bne_self_eq_false _
        have f8 : (b.lt != zl.1) = false := by rw [hbe, ← hzl0]; exact bne_self_eq_false _
        have f9 : (b.inc != (if x.k = 2 then incV (x0 :: r0) else 0)) = false := by rw [hbe]; exact bne_self_eq_false _
        have f1 : b.c = ((x0 :: r0).length : Int) := by rw [hbe]; rfl
        have hx00 : (x0 :: r0)[0]? = some x0 := rfl
        have hN1 : 1 ≤ (x0 :: r0).length := by simp
        clear hzl0 hfil hxm hbe
        generalize x0 :: r0 = A at *
        have f1' : (b.c != (A.length : Int)) = false := by rw [f1]; exact bne_self_eq_false _
        have fn0 : ((A.length : Int) == 0) = false := by rw [beq_eq_false_iff_ne]; omega
        have hw0 : (w = 0) = False := by simp; omega
        have htm := hv.tm
        refine Wc.seq (Wc.seq ?_)
        refine Wc.reg fun K hK => ?_; simp only [go_sem, ti3, ti4, ti5, ti32, ti39, ti41, ti31, ti96, ti87, ti29, ti22, ti26, ti23, Int.natCast_zero, hF, gb, glen, fn0, hw0, htm, f1', bne_self_eq_false, b00]; refine hK _ _ ?_; clear hK K
        refine Wc.cond (t := false) (by simp only [go_sem, ti3, ti4, ti5, ti32, ti39, ti41, ti31, ti96, ti87, ti29, ti22, ti26, ti23, Int.natCast_zero, hF]) (fun hc => by cases hc) (fun _ => Wc.skip ?_)
        refine Wc.seq (Wc.seq ?_)
        rcases hG with ⟨_, h0, _⟩ | ⟨id, rfl, rfl⟩
        · rw [h0] at hN1; simp at hN1
        have gi := ho.at_ (id, .grow 2 A.length (cS A) false) (by simp)
        have hG : GS (.gs A.length id 0 A.length 2) A [(id, .grow 2 A.length (cS A) false)] := .inr ⟨id, rfl, rfl⟩
        have hix : indexAddrD E0 23 (.v (.c (.gs A.length id 0 A.length 2))) (.v (.c (.p (.int .i64 ((0 : Nat) : Int))))) = _ := ixG ti23 rfl ti39 (j := 0) (n := A.length) (by omega) rfl
        have hiz : indexAddrD E0 23 (.v (.c (.gs A.length id 0 A.length 2))) (.v (.c (.p (.int .i64 ((A.length - 1 : Nat) : Int))))) = _ := ixG ti23 rfl ti39 (j := A.length - 1) (n := A.length) (by omega) rfl
        simp only [Int.natCast_zero, Nat.zero_mul, Nat.zero_add] at hix hiz
        have em : IntKind.i64.wrap ((A.length : Int) - 1) = ((A.length - 1 : Nat) : Int) := by rw [wi64]; omega
        have d0 := cS_drop hx00
        have d1 := cS_drop1 hx00
        have dz := cS_drop hzl
        have dz1 := cS_drop1 hzl
        simp only [Nat.zero_mul, Nat.zero_add, List.drop_zero] at d0 d1
        have t0 : (cS A).take 1 = [.p (pI x0.1)] := by rw [d0]; rfl
        have hl1 : (1 ≤ (cS A).length) = True := by rw [cS_len]; simp; omega
        have hlz : ((A.length - 1) * 2 ≤ (cS A).length) = True := by rw [cS_len]; simp; omega
        have hlz1 : ((A.length - 1) * 2 + 1 ≤ (cS A).length) = True := by rw [cS_len]; simp; omega
        refine Wc.regD fun K hK => ?_; simp only [go_sem, ti3, ti4, ti5, ti32, ti39, ti41, ti31, ti96, ti87, ti29, ti22, ti26, ti23, Int.natCast_zero, hF, gb, gi, hix, hiz, em, t0, d1, dz, dz1, hl1, hlz, hlz1, f5, f6, f7, f8]; refine hK _ _ ?_; clear hK K
        refine Wc.cond (t := false) (by simp only [go_sem, ti3, ti4, ti5, ti32, ti39, ti41, ti31, ti96, ti87, ti29, ti22, ti26, ti23, Int.natCast_zero, hF]) (fun hc => by cases hc) (fun _ => Wc.skip ?_)
        refine Wc.seq (Wc.seq ?_)
        obtain ⟨s3, G3, hp, ho3, hnx3⟩ := GS.pur2 (s := ((s1.adv 35).adv 40).adv 5) (M := (kb, .cells (b.pd.map .p) false) :: [(kr, .cells ((Rlp.mk x.lb x.k w B).pd.map .p) false), (0, .cells (x.pd.map .p) false)]) ho.adv.adv.adv hG
        have hq : ∀ (s : St) (x : Pd), purC s (.p x) = some (x, s) := fun _ _ => rfl
        have hpv : purVs (((s1.adv 35).adv 40).adv 5) [.c (.p (pI x.k)), .c (.gs A.length id 0 A.length 2)] = some ([.c (.p (pI x.k)), .c (.p (.lst A.length (A.flatMap p2)))], s3) := by simp only [purVs, purV, hq, hp]
        have gb3 := ho3.at_ (kb, .cells (b.pd.map .p) false) (by simp)
        simp only [List.map_cons, List.map_nil] at gb3
        have b5 := hv.c1
        have b6 := hv.c2
        have b7 := hv.s1
        have b8 := hv.s2
        have ec : IntKind.i64.wrap (cn + b.c) = cn + b.c := by rw [wi64]; omega
        have ess : IntKind.i64.wrap (sn + b.s) = sn + b.s := by rw [wi64]; omega
        refine Wc.reg fun K hK => ?_; simp only [go_sem, ti3, ti4, ti5, ti32, ti39, ti41, ti31, ti96, ti87, ti29, ti22, ti26, ti23, Int.natCast_zero, hF, g0]
        refine wpCall.pf p18 (by kernel_rfl) (by kernel_rfl) rfl hpv ?_
        simp only [go_sem, ti3, ti4, ti5, ti32, ti39, ti41, ti31, ti96, ti87, ti29, ti22, ti26, ti23, Int.natCast_zero, hF]; refine hK _ _ ?_; clear hK K
        refine Wc.seq ?_
        refine Wc.reg fun K hK => ?_; simp only [go_sem, ti3, ti4, ti5, ti32, ti39, ti41, ti31, ti96, ti87, ti29, ti22, ti26, ti23, Int.natCast_zero, hF, gb3, f9]; refine hK _ _ ?_; clear hK K
        refine Wc.cond (t := false) (by simp only [go_sem, ti3, ti4, ti5, ti32, ti39, ti41, ti31, ti96, ti87, ti29, ti22, ti26, ti23, Int.natCast_zero, hF]) (fun hc => by cases hc) (fun _ => Wc.skip ?_)
        refine Wc.regD fun K hK => ?_; simp only [go_sem, ti3, ti4, ti5, ti32, ti39, ti41, ti31, ti96, ti87, ti29, ti22, ti26, ti23, Int.natCast_zero, hF, gb3, ec, ess]; refine hK _ _ ?_; clear hK K
        refine Wc.reg fun K hK => ?_; simp only [go_sem, ti3, ti4, ti5, ti32, ti39, ti41, ti31, ti96, ti87, ti29, ti22, ti26, ti23, Int.natCast_zero, hF, i64n i (by omega)]; refine hK _ _ ?_; clear hK K
        refine ⟨B.length - (i + 1), by omega, i + 1, kr, cn + b.c, sn + b.s, ⟨rfl, by omega, hc1, hs1, by omega, by omega, by omega, by omega⟩, rfl, by simp only [Fs, Int.natCast_zero, go_sem, ti3, ti4, ti5, ti32, ti39, ti41, ti31, ti96, ti87, ti29, ti22, ti26, ti23, Int.natCast_zero, hF], ?_⟩
        refine OA.sub (M := G3 ++ (kb, .cells (b.pd.map .p) false) :: [(kr, .cells ((Rlp.mk x.lb x.k w B).pd.map .p) false), (0, .cells (x.pd.map .p) false)]) ?_ (List.Sublist.refl _) (List.sublist_append_of_sublist_right (List.Sublist.cons _ (List.Sublist.refl _)))
        simp only [St.nx_adv] at hnx3
        exact by (try simp only [St.nx_put, St.nx_adv]); repeat (first | exact OA.mono ho3 (by omega) | refine OA.newB ?_ (by omega) rfl | refine OA.putB ?_ (by omega) | refine OA.advB ?_)
      · have hil : i = B.length := by have := of_decide_eq_false hc; omega
        rw [hil, List.drop_length, List.foldl_nil] at hc1 hs1
        rw [hc1, hs1] at hF
        exact Wc.exit ⟨kr, rfl, by simp only [Fs, Int.natCast_zero, go_sem, ti3, ti4, ti5, ti32, ti39, ti41, ti31, ti96, ti87, ti29, ti22, ti26, ti23, Int.natCast_zero, hF], by (try simp only [St.nx_put, St.nx_adv]); repeat (first | exact OA.mono ho (by omega) | refine OA.newB ?_ (by omega) rfl | refine OA.advB ?_)⟩
    clear hF ho gr e s1 kr
    rintro ⟨e, ds, s1⟩ ⟨kr, rfl, hF, ho⟩
    simp only [Fs] at hF ho
    have gr := ho.at_ (kr, .cells ((Rlp.mk x.lb x.k w B).pd.map .p) false) (by simp)
    have g0 := ho.at_ (0, .cells (x.pd.map .p) false) (by simp)
    simp only [List.map_cons, List.map_nil] at gr g0
    refine Wc.seq ?_
    refine Wc.reg fun K hK => ?_; simp only [go_sem, ti3, ti4, ti5, ti32, ti39, ti41, ti31, ti96, ti87, ti29, ti22, ti26, ti23, Int.natCast_zero, hF, gr, g0, beq_self_eq_true]
    refine wpCall.pf (p19) (by kernel_rfl) (by kernel_rfl) rfl rfl ?_
    simp only [go_sem, ti3, ti4, ti5, ti32, ti39, ti41, ti31, ti96, ti87, ti29, ti22, ti26, ti23, Int.natCast_zero, hF, if_true, beq_self_eq_true]
    refine wpCall.pf (pf12) (by kernel_rfl) (by kernel_rfl) rfl rfl ?_
    simp only [go_sem, ti3, ti4, ti5, ti32, ti39, ti41, ti31, ti96, ti87, ti29, ti22, ti26, ti23, Int.natCast_zero, hF]; refine hK _ _ ?_; clear hK K
    exact Wc.ret (Op.ret [.tmp 4] [.c (.p (.bool true))] rfl rfl (by simp only [resultsD, go_sem, ti3, ti4, ti5, ti32, ti39, ti41, ti31, ti96, ti87, ti29, ti22, ti26, ti23, Int.natCast_zero, hF]) rfl)
  obtain ⟨n, d, s', h1, h2⟩ := Ev.body (g := 4) (args := [V.agg (x.pd.map .p), .c (.p (pI w))]) (by kernel_rfl) rfl main
  subst h2
  exact ⟨s', n + 1, h1⟩
end Go.Proofs.YtedcnhbblgmdnaaGreat.Ab
