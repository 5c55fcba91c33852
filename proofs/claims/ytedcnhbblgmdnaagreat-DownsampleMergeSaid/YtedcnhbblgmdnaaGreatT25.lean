/- A part of the proof: an evaluator of the code, its contracts, the law. No condition. -/
import Derived.Test.YtedcnhbblgmdnaaGreatT24
namespace Go.Proofs.YtedcnhbblgmdnaaGreat.Ab
set_option maxHeartbeats 8000000
set_option maxRecDepth 10000
set_option linter.unusedSimpArgs false
set_option linter.unusedVariables false
theorem St.put_adv (s : St) (k n : Nat) (o : Ob) : (s.put k o).adv n = (s.adv n).put k o := rfl
def coP (x : Rlp) (f : Int) : Rlp := ⟨x.lb, x.k, x.w * f, coarB x.k (x.w * f) x.bs⟩
def coC (x : Rlp) (f : Int) : Int := if rlpOK x = false then 1 else if f < 1 ∨ Int.tdiv 1099511627776 x.w < f then 2 else if limB (coP x f) then 4 else 0
/-- A coarser rollup. -/
def coR (x : Rlp) (f : Int) : Rlp := if coC x f = 0 then coP x f else zR
theorem coar_w {w f : Int} (h1 : 1 ≤ w) (h2 : w ≤ 1099511627776) (hf : ¬ (f < 1 ∨ Int.tdiv 1099511627776 w < f)) : 1 ≤ w * f ∧ w * f ≤ 1099511627776 := by
  have h3 : w * Int.tdiv 1099511627776 w ≤ 1099511627776 := Int.mul_tdiv_self_le (by omega)
  have h4 : w * f ≤ w * Int.tdiv 1099511627776 w := Int.mul_le_mul_of_nonneg_left (by omega) (by omega)
  have h5 : w * 1 ≤ w * f := Int.mul_le_mul_of_nonneg_left (by omega) (by omega)
  omega
theorem coar_s {w s : Int} (h1 : 1 ≤ w) (h2 : w ≤ 1099511627776) (h3 : 0 ≤ s) (h4 : s < 1099511627776) : IntKind.i64.wrap (s.tdiv w) = s.tdiv w ∧ IntKind.i64.wrap (s.tdiv w * w) = s.tdiv w * w ∧ IntKind.i64.wrap (s - s.tmod w) = s.tdiv w * w := by
  have e := Int.tdiv_mul_add_tmod s w
  have a1 : 0 ≤ s.tdiv w := Int.tdiv_nonneg h3 (by omega)
  have a2 : s.tdiv w ≤ s := by rw [Int.tdiv_eq_ediv_of_nonneg h3]; exact Int.ediv_le_self _ h3
  have a3 : 0 ≤ s.tmod w := Int.tmod_nonneg w h3
  have a4 : 0 ≤ s.tdiv w * w := Int.mul_nonneg a1 (by omega)
  refine ⟨by rw [wi64]; omega, by rw [wi64]; omega, by rw [wi64]; omega⟩
theorem lim_grp {k : Int} {l : List Bkt} {x : Rlp} (hx : x.bs = grpB k l) (hl : l.length ≤ 2000) : limB x = bigB x.bs := by
  have := grpB_len k l
  rw [limB, hx, decide_eq_false (by omega), Bool.or_false]
/-- 16: the reference's Coarsen -/
theorem pf16 (x : Rlp) (hlb : x.lb.length < 2^40) (hls : ∀ y ∈ x.lb, y.1.length < 2^50 ∧ y.2.length < 2^50) (f : Int) : Pf E0 16 [.agg (x.pd.map .p), .c (.p (pI f))] (resR (coR x f) (coC x f)) := by
  have hfl : (x.bs.flatMap Bkt.pd).length = x.bs.length * 10 := flat_len (k := 10) (fun _ => rfl) _
  have p := pf23 x hlb hls
  refine Pf.body (fn := Tryz.f16) (by kernel_rfl) rfl ?_; simp only [List.map_cons, List.map_nil, List.cons_append, List.nil_append, List.length_cons, List.length_nil, Tryz.ntmps16, List.replicate, Nat.reduceSub, Nat.reduceAdd]
  refine Wc.seq ?_
  refine Wc.reg fun K hK => ?_; simp only [go_sem, ti3, ti4, ti32, ti39, ti41, ti31, ti96, ti87, ti29, ti22, ti26, ti23, Int.natCast_zero]; refine hK _ _ ?_; clear hK K
  refine Wc.seq (Wc.seq ?_)
  cases hok : rlpOK x with
  | false =>
    have e1 : chkR x = 1 := by unfold chkR; rw [hok]; rfl
    rw [e1] at p
    refine Wc.reg fun K hK => ?_; simp only [go_sem, ti3, ti4, ti32, ti39, ti41, ti31, ti96, ti87, ti29, ti22, ti26, ti23, Int.natCast_zero]
    refine wpCall.pf (p) (by kernel_rfl) (by kernel_rfl) rfl rfl ?_
    simp only [go_sem, ti3, ti4, ti32, ti39, ti41, ti31, ti96, ti87, ti29, ti22, ti26, ti23, Int.natCast_zero]; refine hK _ _ ?_; clear hK K
    refine Wc.cond (t := true) (by simp only [go_sem, ti3, ti4, ti32, ti39, ti41, ti31, ti96, ti87, ti29, ti22, ti26, ti23, Int.natCast_zero, b10]) (fun _ => ?_) (fun hc => by cases hc)
    refine Wc.seq ?_
    refine Wc.reg fun K hK => ?_; simp only [go_sem, ti3, ti4, ti32, ti39, ti41, ti31, ti96, ti87, ti29, ti22, ti26, ti23, Int.natCast_zero]; refine hK _ _ ?_; clear hK K
    have e : coC x f = 1 := by unfold coC; rw [if_pos hok]
    rw [coR, e]
    exact Wc.ret (Pf.ret [.cell 4 31, .tmp 5] [.agg [.nils, .p (pI 0), .p (pI 0), .nils], .c (.p (pI 1))] rfl rfl (by simp only [resultsD, go_sem, ti3, ti4, ti32, ti39, ti41, ti31, ti96, ti87, ti29, ti22, ti26, ti23, Int.natCast_zero]) rfl)
  | true =>
  have e1 : chkR x = 0 := by unfold chkR; rw [hok]; rfl
  rw [e1] at p
  have v := rlpOK_v hok
  have hw1 := v.w1
  have hw2 := v.w2
  have hvl := v.len
  have hw0 : (x.w = 0) = False := by simp; omega
  have ed : IntKind.i64.wrap (Int.tdiv 1099511627776 x.w) = Int.tdiv 1099511627776 x.w := by
    have h1 : 0 ≤ Int.tdiv 1099511627776 x.w := Int.tdiv_nonneg (by omega) (by omega)
    have h2 : Int.tdiv 1099511627776 x.w ≤ 1099511627776 := by rw [Int.tdiv_eq_ediv_of_nonneg (by omega)]; exact Int.ediv_le_self _ (by omega)
    rw [wi64]; omega
  refine Wc.reg fun K hK => ?_; simp only [go_sem, ti3, ti4, ti32, ti39, ti41, ti31, ti96, ti87, ti29, ti22, ti26, ti23, Int.natCast_zero]
  refine wpCall.pf (p) (by kernel_rfl) (by kernel_rfl) rfl rfl ?_
  simp only [go_sem, ti3, ti4, ti32, ti39, ti41, ti31, ti96, ti87, ti29, ti22, ti26, ti23, Int.natCast_zero]; refine hK _ _ ?_; clear hK K
  refine Wc.cond (t := false) (by simp only [go_sem, ti3, ti4, ti32, ti39, ti41, ti31, ti96, ti87, ti29, ti22, ti26, ti23, Int.natCast_zero, bne_self_eq_false]) (fun hc => by cases hc) (fun _ => Wc.skip ?_)
  refine Wc.seq (Wc.seq ?_)
  by_cases w1 : f < 1
  · refine Wc.reg fun K hK => ?_; simp only [go_sem, ti3, ti4, ti32, ti39, ti41, ti31, ti96, ti87, ti29, ti22, ti26, ti23, Int.natCast_zero, w1]; refine hK _ _ ?_; clear hK K
    refine Wc.cond (t := true) (by simp only [go_sem, ti3, ti4, ti32, ti39, ti41, ti31, ti96, ti87, ti29, ti22, ti26, ti23, Int.natCast_zero]) (fun _ => ?_) (fun hc => by cases hc)
    refine Wc.seq ?_
    refine Wc.reg fun K hK => ?_; simp only [go_sem, ti3, ti4, ti32, ti39, ti41, ti31, ti96, ti87, ti29, ti22, ti26, ti23, Int.natCast_zero]; refine hK _ _ ?_; clear hK K
    have e : coC x f = 2 := by unfold coC; rw [if_neg (by simp [hok]), if_pos (.inl w1)]
    rw [coR, e]
    exact Wc.ret (Pf.ret [.cell 4 31, .tmp 5] [.agg [.nils, .p (pI 0), .p (pI 0), .nils], .c (.p (pI 2))] rfl rfl (by simp only [resultsD, go_sem, ti3, ti4, ti32, ti39, ti41, ti31, ti96, ti87, ti29, ti22, ti26, ti23, Int.natCast_zero]) rfl)
  refine Wc.reg fun K hK => ?_; simp only [go_sem, ti3, ti4, ti32, ti39, ti41, ti31, ti96, ti87, ti29, ti22, ti26, ti23, Int.natCast_zero, w1, hw0, ed]; refine hK _ _ ?_; clear hK K
  refine Wc.cond (t := decide (Int.tdiv 1099511627776 x.w < f)) (by simp only [go_sem, ti3, ti4, ti32, ti39, ti41, ti31, ti96, ti87, ti29, ti22, ti26, ti23, Int.natCast_zero]) (fun hc => ?_) (fun hc => ?_)
  · have w2 := of_decide_eq_true hc
    refine Wc.seq ?_
    refine Wc.reg fun K hK => ?_; simp only [go_sem, ti3, ti4, ti32, ti39, ti41, ti31, ti96, ti87, ti29, ti22, ti26, ti23, Int.natCast_zero]; refine hK _ _ ?_; clear hK K
    have e : coC x f = 2 := by unfold coC; rw [if_neg (by simp [hok]), if_pos (.inr w2)]
    rw [coR, e]
    exact Wc.ret (Pf.ret [.cell 4 31, .tmp 5] [.agg [.nils, .p (pI 0), .p (pI 0), .nils], .c (.p (pI 2))] rfl rfl (by simp only [resultsD, go_sem, ti3, ti4, ti32, ti39, ti41, ti31, ti96, ti87, ti29, ti22, ti26, ti23, Int.natCast_zero]) rfl)
  have w2 := of_decide_eq_false hc
  have wf : ¬ (f < 1 ∨ Int.tdiv 1099511627776 x.w < f) := by omega
  obtain ⟨hW1, hW2⟩ := coar_w hw1 hw2 wf
  have eW : IntKind.i64.wrap (x.w * f) = x.w * f := by rw [wi64]; omega
  have hWz : (x.w * f = 0) = False := by simp only [eq_iff_iff, iff_false]; omega
  have e : coC x f = if limB (coP x f) then 4 else 0 := by unfold coC; rw [if_neg (by simp [hok]), if_neg wf]
  have eR : coR x f = if limB (coP x f) then zR else coP x f := by
    rw [coR, e]
    cases limB (coP x f) <;> rfl
  rw [eR, e]
  refine Wc.skip (Wc.seq ?_)
  refine Wc.reg fun K hK => ?_; simp only [go_sem, ti3, ti4, ti32, ti39, ti41, ti31, ti96, ti87, ti29, ti22, ti26, ti23, Int.natCast_zero, eW]; refine hK _ _ ?_; clear hK K
  refine Wc.seqR (fun y => ∃ k6 xc G, y.ds = [] ∧ Fs y.e 64 [(4, .v (.c (.ref 1 0))), (6, .v (.c (.ref k6 0)))] ∧ OA y.s.nx y.s [] (G ++ [(k6, .cells [.p (.lst x.lb.length (x.lb.flatMap lbP)), .p (pI x.k), .p (pI (x.w * f)), xc] false), (1, .cells [.nils, .p (pI 0), .p (pI 0), .nils] false), (0, .cells (x.pd.map .p) false)]) ∧ GB xc (coarB x.k (x.w * f) x.bs) G) ?_ ?_
  · refine Wc.seq ?_
    refine Wc.reg fun K hK => ?_; simp only [go_sem, ti3, ti4, ti32, ti39, ti41, ti31, ti96, ti87, ti29, ti22, ti26, ti23, Int.natCast_zero]; refine hK _ _ ?_; clear hK K
    refine Wc.block (Wc.loop (fun c y => ∃ (i k6 : Nat) (xc : C) (G : List (Nat × Ob)), c = x.bs.length - i ∧ i ≤ x.bs.length ∧ y.ds = [] ∧ Fs y.e 64 [(2, .v (.c (.ref 0 0))), (4, .v (.c (.ref 1 0))), (6, .v (.c (.ref k6 0))), (7, P' (pI i))] ∧ OA y.s.nx y.s [] (G ++ [(k6, .cells [.p (.lst x.lb.length (x.lb.flatMap lbP)), .p (pI x.k), .p (pI (x.w * f)), xc] false), (1, .cells [.nils, .p (pI 0), .p (pI 0), .nils] false), (0, .cells (x.pd.map .p) false)]) ∧ GB xc (grpB x.k ((x.bs.take i).map (reB (fun s : Int => s.tdiv (x.w * f) * (x.w * f))))) G) ?_ (k := x.bs.length) ?_)
    · rintro c ⟨e, ds, s1⟩ ⟨i, k6, xc, G, rfl, hi, rfl, hF, ho, hG⟩
      simp only [Fs] at hF ho
      have g6 := ho.at_ (k6, .cells [.p (.lst x.lb.length (x.lb.flatMap lbP)), .p (pI x.k), .p (pI (x.w * f)), xc] false) (by simp)
      have g0 := ho.at_ (0, .cells (x.pd.map .p) false) (by simp)
      simp only [List.map_cons, List.map_nil] at g0
      have hlt6 := ho.lt g6
      have hlt0 := ho.lt g0
      have n6 : ∀ j, (s1.nx + j = k6) = False := fun j => by simp; omega
      have n6' : ∀ j, (k6 = s1.nx + j) = False := fun j => by simp; omega
      have n0 : ∀ j, (s1.nx + j = 0) = False := fun j => by simp; omega
      refine Wc.seq (Wc.seq ?_)
      refine Wc.reg fun K hK => ?_; simp only [go_sem, ti3, ti4, ti32, ti39, ti41, ti31, ti96, ti87, ti29, ti22, ti26, ti23, Int.natCast_zero, hF, g0]; refine hK _ _ ?_; clear hK K
      refine Wc.cond (t := decide ((i : Int) < x.bs.length)) (by simp only [go_sem, ti3, ti4, ti32, ti39, ti41, ti31, ti96, ti87, ti29, ti22, ti26, ti23, Int.natCast_zero, hF]) (fun hc => ?_) (fun hc => ?_)
      · have hil : i < x.bs.length := by have := of_decide_eq_true hc; omega
        obtain ⟨u, hu⟩ : ∃ u, x.bs[i]? = some u := ⟨x.bs[i], List.getElem?_eq_getElem hil⟩
        have hix := ixA ti29 rfl ti41 (j := i) (m := x.bs.length) (cs := x.bs.flatMap Bkt.pd) hil hfl (by decide)
        have hca := rpA (off := i * 10) (drop_flat (f := Bkt.pd) (k := 10) (fun _ => rfl) hu) (by rw [hfl]; omega)
        have hub := v.vb u (List.mem_of_getElem? hu)
        obtain ⟨es1, es2, es3⟩ := coar_s hW1 hW2 hub.t0 hub.t1
        have htk : x.bs.take (i + 1) = x.bs.take i ++ [u] := take_succ hu
        have hlen : (x.bs.take i).length = i := by simp; omega
        refine Wc.skip (Wc.seq (Wc.block (Wc.seq ?_)))
        refine Wc.reg fun K hK => ?_; simp only [go_sem, ti3, ti4, ti32, ti39, ti41, ti31, ti96, ti87, ti29, ti22, ti26, ti23, Int.natCast_zero, hF, g0, hix, hca]; refine hK _ _ ?_; clear hK K
        refine Wc.seq ?_
        refine Wc.regT fun K hK => ?_
        simp only [go_sem, ti3, ti4, ti32, ti39, ti41, ti31, ti96, ti87, ti29, ti22, ti26, ti23, Int.natCast_zero, hF, g6, n6, n6', n0, hWz, es1, es2]
        refine ⟨by rw [trOK_eq3]; rfl, hK _ _ ?_⟩
        clear hK K
        refine Wc.reg fun K hK => ?_; simp only [go_sem, ti3, ti4, ti32, ti39, ti41, ti31, ti96, ti87, ti29, ti22, ti26, ti23, Int.natCast_zero, hF, g6, g0, n6, n6', n0, St.put_put]
        refine call46 (G := G) (M := [(k6, .cells [.p (.lst x.lb.length (x.lb.flatMap lbP)), .p (pI x.k), .p (pI (x.w * f)), xc] false), (1, .cells [.nils, .p (pI 0), .p (pI 0), .nils] false), (0, .cells (x.pd.map .p) false)]) (L := []) (b := reB (fun s : Int => s.tdiv (x.w * f) * (x.w * f)) u) ?_ hG (by have := grpB_len x.k ((x.bs.take i).map (reB (fun s : Int => s.tdiv (x.w * f) * (x.w * f)))); simp only [List.length_map] at this; omega) (fun a ha _ => ((grpB_wn (fun s : Int => s.tdiv (x.w * f) * (x.w * f)) i _ hlen (fun y hy => v.vb y (List.mem_of_mem_take hy)) a (List.mem_of_getLast? ha)).jb hub (by omega) (by omega)).re) fun x' G' s' hs hnx hG' => ?_
        · exact by (try simp only [St.put_adv, St.adv_adv, St.put_put, St.nx_put, St.nx_adv]); repeat (first | exact OA.mono ho (by omega) | refine OA.newB ?_ (by omega) rfl | refine OA.putB ?_ (by omega) | refine OA.advB ?_)
        have g6' := hs.at_ (k6, .cells [.p (.lst x.lb.length (x.lb.flatMap lbP)), .p (pI x.k), .p (pI (x.w * f)), xc] false) (by simp)
        simp only [go_sem, ti3, ti4, ti32, ti39, ti41, ti31, ti96, ti87, ti29, ti22, ti26, ti23, Int.natCast_zero, hF, g6']; refine hK _ _ ?_; clear hK K
        refine Wc.reg fun K hK => ?_; simp only [go_sem, ti3, ti4, ti32, ti39, ti41, ti31, ti96, ti87, ti29, ti22, ti26, ti23, Int.natCast_zero, hF, i64n i (by omega)]; refine hK _ _ ?_; clear hK K
        refine ⟨x.bs.length - (i + 1), by omega, i + 1, k6, x', G', rfl, by omega, rfl, by simp only [Fs, Int.natCast_zero, go_sem, ti3, ti4, ti32, ti39, ti41, ti31, ti96, ti87, ti29, ti22, ti26, ti23, Int.natCast_zero, hF], ?_, ?_⟩
        · exact by (try simp only [St.nx_put, St.nx_adv]); first | ((repeat (first | exact OA.mono hs (by omega) | refine OA.advB ?_)); done) | ((repeat refine OA.advB ?_); refine OA.ofS ?_; repeat (first | exact ⟨_, OA.mono hs (by omega)⟩ | refine OAs.adv ?_ | refine OAs.put ?_))
        · rw [htk, List.map_append, List.map_cons, List.map_nil, grpB_snoc]; exact hG'
      · have hil : i = x.bs.length := by have := of_decide_eq_false hc; omega
        rw [hil, List.take_length] at hG
        exact Wc.exit ⟨k6, xc, G, rfl, by simp only [Fs, Int.natCast_zero, go_sem, ti3, ti4, ti32, ti39, ti41, ti31, ti96, ti87, ti29, ti22, ti26, ti23, Int.natCast_zero, hF], by (try simp only [St.nx_put, St.nx_adv]); repeat (first | exact OA.mono ho (by omega) | refine OA.newB ?_ (by omega) rfl | refine OA.advB ?_), hG⟩
    · exact ⟨0, 24, .nils, [], rfl, by omega, rfl, by simp only [Fs, Int.natCast_zero, go_sem, ti3, ti4, ti32, ti39, ti41, ti31, ti96, ti87, ti29, ti22, ti26, ti23, Int.natCast_zero], by (try simp only [St.nx_put, St.nx_adv]); repeat (first | exact OA.mono s00_oa (by omega) | refine OA.newB ?_ (by omega) rfl | refine OA.advB ?_), .inl ⟨rfl, rfl, rfl⟩⟩
  rintro ⟨e, ds, s1⟩ ⟨k6, xc, G, rfl, hF, ho, hG⟩
  simp only [Fs] at hF ho
  have g6 := ho.at_ (k6, .cells [.p (.lst x.lb.length (x.lb.flatMap lbP)), .p (pI x.k), .p (pI (x.w * f)), xc] false) (by simp)
  obtain ⟨s3, G3, hp, ho3, hnx3⟩ := GB.purA (s := s1.adv 6) (M := [(k6, .cells [.p (.lst x.lb.length (x.lb.flatMap lbP)), .p (pI x.k), .p (pI (x.w * f)), xc] false), (1, .cells [.nils, .p (pI 0), .p (pI 0), .nils] false), (0, .cells (x.pd.map .p) false)]) ho.adv hG x.lb x.k (x.w * f)
  have g1 := ho3.at_ (1, .cells [.nils, .p (pI 0), .p (pI 0), .nils] false) (by simp)
  refine Wc.seq ?_
  refine Wc.reg fun K hK => ?_; simp only [go_sem, ti3, ti4, ti32, ti39, ti41, ti31, ti96, ti87, ti29, ti22, ti26, ti23, Int.natCast_zero, hF, g6]
  refine wpCall.pf (pf49 (coP x f) ?_) (by kernel_rfl) (by kernel_rfl) rfl hp ?_
  · have := grpB_len x.k (x.bs.map (reB (fun s : Int => s.tdiv (x.w * f) * (x.w * f))))
    simp only [List.length_map] at this
    show (grpB _ _).length < _
    omega
  simp only [go_sem, ti3, ti4, ti32, ti39, ti41, ti31, ti96, ti87, ti29, ti22, ti26, ti23, Int.natCast_zero, hF, g1]; refine hK _ _ ?_; clear hK K
  cases hl : limB (coP x f) with
  | true => exact Wc.ret (Pf.ret [.cell 4 31, .tmp 5] [.agg (zR.pd.map .p), .c (.p (pI 4))] rfl rfl (by simp only [resultsD, go_sem, ti3, ti4, ti32, ti39, ti41, ti31, ti96, ti87, ti29, ti22, ti26, ti23, Int.natCast_zero, hF]) rfl)
  | false => exact Wc.ret (Pf.ret [.cell 4 31, .tmp 5] [.agg ((coP x f).pd.map .p), .c (.p (pI 0))] rfl rfl (by simp only [resultsD, go_sem, ti3, ti4, ti32, ti39, ti41, ti31, ti96, ti87, ti29, ti22, ti26, ti23, Int.natCast_zero, hF]) rfl)
end Go.Proofs.YtedcnhbblgmdnaaGreat.Ab
namespace Go.Proofs.YtedcnhbblgmdnaaGreat.Ab
set_option maxHeartbeats 8000000
set_option maxRecDepth 10000
set_option linter.unusedSimpArgs false
set_option linter.unusedVariables false
theorem GB.len {x : C} {l : List Bkt} {G : List (Nat × Ob)} (h : GB x l G) : lenD E0 29 (.v (.c x)) = some (.v (.c (.p (.int .i64 l.length)))) := by
  rcases h with ⟨rfl, rfl, _⟩ | ⟨id, rfl, _⟩
  · rw [lenD_nils, ti29]; rfl
  · rw [lenD_gs, ti29]; rfl
theorem bigB_snoc (l : List Bkt) (b : Bkt) : bigB (l ++ [b]) = (bigB l || decide (2000 < b.c)) := by simp [bigB]
theorem grpB_take (k : Int) (l : List Bkt) (i : Nat) : grpB k l = (l.drop i).foldl (appB k) (grpB k (l.take i)) := by
  unfold grpB
  rw [← List.foldl_append, List.take_append_drop]
theorem o48 : E0.opn 48 = false := by kernel_rfl
theorem x48 : E0.xt 48 = none := by kernel_rfl
/-- 15: Coarsen -/
theorem pf15 (x : Rlp) (hlb : x.lb.length < 2^40) (hls : ∀ y ∈ x.lb, y.1.length < 2^50 ∧ y.2.length < 2^50) (f : Int) : Pf E0 15 [.agg (x.pd.map .p), .c (.p (pI f))] (resR (coR x f) (coC x f)) := by
  have hfl : (x.bs.flatMap Bkt.pd).length = x.bs.length * 10 := flat_len (k := 10) (fun _ => rfl) _
  have p := pf19 x hlb hls
  refine Pf.body (fn := Tryz.f15) (by kernel_rfl) rfl ?_; simp only [List.map_cons, List.map_nil, List.cons_append, List.nil_append, List.length_cons, List.length_nil, Tryz.ntmps15, List.replicate, Nat.reduceSub, Nat.reduceAdd]
  refine Wc.seq ?_
  refine Wc.reg fun K hK => ?_; simp only [go_sem, ti3, ti4, ti32, ti39, ti41, ti31, ti96, ti87, ti29, ti22, ti26, ti23, Int.natCast_zero]; refine hK _ _ ?_; clear hK K
  refine Wc.seq (Wc.seq ?_)
  cases hok : rlpOK x with
  | false =>
    have e1 : chkR x = 1 := by unfold chkR; rw [hok]; rfl
    rw [e1] at p
    refine Wc.reg fun K hK => ?_; simp only [go_sem, ti3, ti4, ti32, ti39, ti41, ti31, ti96, ti87, ti29, ti22, ti26, ti23, Int.natCast_zero]
    refine wpCall.pf (p) (by kernel_rfl) (by kernel_rfl) rfl rfl ?_
    simp only [go_sem, ti3, ti4, ti32, ti39, ti41, ti31, ti96, ti87, ti29, ti22, ti26, ti23, Int.natCast_zero]; refine hK _ _ ?_; clear hK K
    refine Wc.cond (t := true) (by simp only [go_sem, ti3, ti4, ti32, ti39, ti41, ti31, ti96, ti87, ti29, ti22, ti26, ti23, Int.natCast_zero, b10]) (fun _ => ?_) (fun hc => by cases hc)
    refine Wc.seq ?_
    refine Wc.reg fun K hK => ?_; simp only [go_sem, ti3, ti4, ti32, ti39, ti41, ti31, ti96, ti87, ti29, ti22, ti26, ti23, Int.natCast_zero]; refine hK _ _ ?_; clear hK K
    have e : coC x f = 1 := by unfold coC; rw [if_pos hok]
    rw [coR, e]
    exact Wc.ret (Pf.ret [.cell 4 31, .tmp 5] [.agg [.nils, .p (pI 0), .p (pI 0), .nils], .c (.p (pI 1))] rfl rfl (by simp only [resultsD, go_sem, ti3, ti4, ti32, ti39, ti41, ti31, ti96, ti87, ti29, ti22, ti26, ti23, Int.natCast_zero]) rfl)
  | true =>
  have e1 : chkR x = 0 := by unfold chkR; rw [hok]; rfl
  rw [e1] at p
  have v := rlpOK_v hok
  have hw1 := v.w1
  have hw2 := v.w2
  have hvl := v.len
  have hw0 : (x.w = 0) = False := by simp; omega
  have ed : IntKind.i64.wrap (Int.tdiv 1099511627776 x.w) = Int.tdiv 1099511627776 x.w := by
    have h1 : 0 ≤ Int.tdiv 1099511627776 x.w := Int.tdiv_nonneg (by omega) (by omega)
    have h2 : Int.tdiv 1099511627776 x.w ≤ 1099511627776 := by rw [Int.tdiv_eq_ediv_of_nonneg (by omega)]; exact Int.ediv_le_self _ (by omega)
    rw [wi64]; omega
  refine Wc.reg fun K hK => ?_; simp only [go_sem, ti3, ti4, ti32, ti39, ti41, ti31, ti96, ti87, ti29, ti22, ti26, ti23, Int.natCast_zero]
  refine wpCall.pf (p) (by kernel_rfl) (by kernel_rfl) rfl rfl ?_
  simp only [go_sem, ti3, ti4, ti32, ti39, ti41, ti31, ti96, ti87, ti29, ti22, ti26, ti23, Int.natCast_zero]; refine hK _ _ ?_; clear hK K
  refine Wc.cond (t := false) (by simp only [go_sem, ti3, ti4, ti32, ti39, ti41, ti31, ti96, ti87, ti29, ti22, ti26, ti23, Int.natCast_zero, bne_self_eq_false]) (fun hc => by cases hc) (fun _ => Wc.skip ?_)
  refine Wc.seq (Wc.seq ?_)
  by_cases w1 : f < 1
  · refine Wc.reg fun K hK => ?_; simp only [go_sem, ti3, ti4, ti32, ti39, ti41, ti31, ti96, ti87, ti29, ti22, ti26, ti23, Int.natCast_zero, w1]; refine hK _ _ ?_; clear hK K
    refine Wc.cond (t := true) (by simp only [go_sem, ti3, ti4, ti32, ti39, ti41, ti31, ti96, ti87, ti29, ti22, ti26, ti23, Int.natCast_zero]) (fun _ => ?_) (fun hc => by cases hc)
    refine Wc.seq ?_
    refine Wc.reg fun K hK => ?_; simp only [go_sem, ti3, ti4, ti32, ti39, ti41, ti31, ti96, ti87, ti29, ti22, ti26, ti23, Int.natCast_zero]; refine hK _ _ ?_; clear hK K
    have e : coC x f = 2 := by unfold coC; rw [if_neg (by simp [hok]), if_pos (.inl w1)]
    rw [coR, e]
    exact Wc.ret (Pf.ret [.cell 4 31, .tmp 5] [.agg [.nils, .p (pI 0), .p (pI 0), .nils], .c (.p (pI 2))] rfl rfl (by simp only [resultsD, go_sem, ti3, ti4, ti32, ti39, ti41, ti31, ti96, ti87, ti29, ti22, ti26, ti23, Int.natCast_zero]) rfl)
  refine Wc.reg fun K hK => ?_; simp only [go_sem, ti3, ti4, ti32, ti39, ti41, ti31, ti96, ti87, ti29, ti22, ti26, ti23, Int.natCast_zero, w1, hw0, ed]; refine hK _ _ ?_; clear hK K
  refine Wc.cond (t := decide (Int.tdiv 1099511627776 x.w < f)) (by simp only [go_sem, ti3, ti4, ti32, ti39, ti41, ti31, ti96, ti87, ti29, ti22, ti26, ti23, Int.natCast_zero]) (fun hc => ?_) (fun hc => ?_)
  · have w2 := of_decide_eq_true hc
    refine Wc.seq ?_
    refine Wc.reg fun K hK => ?_; simp only [go_sem, ti3, ti4, ti32, ti39, ti41, ti31, ti96, ti87, ti29, ti22, ti26, ti23, Int.natCast_zero]; refine hK _ _ ?_; clear hK K
    have e : coC x f = 2 := by unfold coC; rw [if_neg (by simp [hok]), if_pos (.inr w2)]
    rw [coR, e]
    exact Wc.ret (Pf.ret [.cell 4 31, .tmp 5] [.agg [.nils, .p (pI 0), .p (pI 0), .nils], .c (.p (pI 2))] rfl rfl (by simp only [resultsD, go_sem, ti3, ti4, ti32, ti39, ti41, ti31, ti96, ti87, ti29, ti22, ti26, ti23, Int.natCast_zero]) rfl)
  have w2 := of_decide_eq_false hc
  have wf : ¬ (f < 1 ∨ Int.tdiv 1099511627776 x.w < f) := by omega
  obtain ⟨hW1, hW2⟩ := coar_w hw1 hw2 wf
  have eW : IntKind.i64.wrap (x.w * f) = x.w * f := by rw [wi64]; omega
  have hWz : (x.w * f = 0) = False := by simp only [eq_iff_iff, iff_false]; omega
  have e : coC x f = if limB (coP x f) then 4 else 0 := by unfold coC; rw [if_neg (by simp [hok]), if_neg wf]
  have eR : coR x f = if limB (coP x f) then zR else coP x f := by
    rw [coR, e]
    cases limB (coP x f) <;> rfl
  rw [eR, e]
  refine Wc.skip (Wc.seq ?_)
  refine Wc.reg fun K hK => ?_; simp only [go_sem, ti3, ti4, ti32, ti39, ti41, ti31, ti96, ti87, ti29, ti22, ti26, ti23, Int.natCast_zero, eW]; refine hK _ _ ?_; clear hK K
  generalize hCB : coarB x.k (x.w * f) x.bs = CB
  have hlim : limB (coP x f) = bigB CB := by rw [← hCB]; exact lim_grp (k := x.k) (l := x.bs.map (reB (fun s : Int => s.tdiv (x.w * f) * (x.w * f)))) rfl (by simp; omega)
  have hcoP : coP x f = ⟨x.lb, x.k, x.w * f, CB⟩ := by rw [← hCB]; rfl
  rw [hlim, hcoP]
  refine Wc.seqR (fun y => ∃ k6 xc G, bigB CB = false ∧ y.ds = [] ∧ Fs y.e 99 [(4, .v (.c (.ref 1 0))), (6, .v (.c (.ref k6 0)))] ∧ OA y.s.nx y.s [] (G ++ [(k6, .cells [.p (.lst x.lb.length (x.lb.flatMap lbP)), .p (pI x.k), .p (pI (x.w * f)), xc] false), (1, .cells [.nils, .p (pI 0), .p (pI 0), .nils] false), (0, .cells (x.pd.map .p) false)]) ∧ GB xc CB G) ?_ ?_
  · refine Wc.seq ?_
    refine Wc.reg fun K hK => ?_; simp only [go_sem, ti3, ti4, ti32, ti39, ti41, ti31, ti96, ti87, ti29, ti22, ti26, ti23, Int.natCast_zero]; refine hK _ _ ?_; clear hK K
    refine Wc.block (Wc.loop (fun c y => ∃ (i k6 : Nat) (xc : C) (G : List (Nat × Ob)) (acc : List Bkt), c = x.bs.length - i ∧ i ≤ x.bs.length ∧ y.ds = [] ∧ Fs y.e 99 [(2, .v (.c (.ref 0 0))), (4, .v (.c (.ref 1 0))), (6, .v (.c (.ref k6 0))), (35, P' (.lst x.bs.length (x.bs.flatMap Bkt.pd))), (36, P' (pI x.bs.length)), (37, P' (pI i))] ∧ OA y.s.nx y.s [] (G ++ [(k6, .cells [.p (.lst x.lb.length (x.lb.flatMap lbP)), .p (pI x.k), .p (pI (x.w * f)), xc] false), (1, .cells [.nils, .p (pI 0), .p (pI 0), .nils] false), (0, .cells (x.pd.map .p) false)]) ∧ GB xc acc G ∧ acc = grpB x.k ((x.bs.take i).map (reB (fun s : Int => s.tdiv (x.w * f) * (x.w * f)))) ∧ bigB acc = false) ?_ (k := x.bs.length) ?_)
    · rintro c ⟨e, ds, s1⟩ ⟨i, k6, xc, G, acc, rfl, hi, rfl, hF, ho, hG, hacc, hbig⟩
      simp only [Fs] at hF ho
      have g6 := ho.at_ (k6, .cells [.p (.lst x.lb.length (x.lb.flatMap lbP)), .p (pI x.k), .p (pI (x.w * f)), xc] false) (by simp)
      have g0 := ho.at_ (0, .cells (x.pd.map .p) false) (by simp)
      simp only [List.map_cons, List.map_nil] at g0
      have hlt6 := ho.lt g6
      have hlt0 := ho.lt g0
      have n6 : ∀ j, (s1.nx + j = k6) = False := fun j => by simp; omega
      have n6' : ∀ j, (k6 = s1.nx + j) = False := fun j => by simp; omega
      have n0 : ∀ j, (s1.nx + j = 0) = False := fun j => by simp; omega
      refine Wc.seq ?_
      refine Wc.reg fun K hK => ?_; simp only [go_sem, ti3, ti4, ti32, ti39, ti41, ti31, ti96, ti87, ti29, ti22, ti26, ti23, Int.natCast_zero, hF]; refine hK _ _ ?_; clear hK K
      refine Wc.seq ?_
      refine Wc.cond (t := decide ((i : Int) < x.bs.length)) (by simp only [go_sem, ti3, ti4, ti32, ti39, ti41, ti31, ti96, ti87, ti29, ti22, ti26, ti23, Int.natCast_zero, hF]) (fun hc => ?_) (fun hc => ?_)
      · have hil : i < x.bs.length := by have := of_decide_eq_true hc; omega
        obtain ⟨u, hu⟩ : ∃ u, x.bs[i]? = some u := ⟨x.bs[i], List.getElem?_eq_getElem hil⟩
        have hix := ixA ti29 rfl ti41 (j := i) (m := x.bs.length) (cs := x.bs.flatMap Bkt.pd) hil hfl (by decide)
        have hca := rpA (off := i * 10) (drop_flat (f := Bkt.pd) (k := 10) (fun _ => rfl) hu) (by rw [hfl]; omega)
        have hub := v.vb u (List.mem_of_getElem? hu)
        obtain ⟨es1, es2, es3⟩ := coar_s hW1 hW2 hub.t0 hub.t1
        have htk : x.bs.take (i + 1) = x.bs.take i ++ [u] := take_succ hu
        have hlen : (x.bs.take i).length = i := by simp; omega
        have hal : acc.length ≤ i := by
          have := grpB_len x.k ((x.bs.take i).map (reB (fun s : Int => s.tdiv (x.w * f) * (x.w * f))))
          rw [hacc]; simp only [List.length_map] at this; omega
        have hwn : ∀ a ∈ acc, Wn i a := fun a ha => grpB_wn (fun s : Int => s.tdiv (x.w * f) * (x.w * f)) i _ hlen (fun y hy => v.vb y (List.mem_of_mem_take hy)) a (by rw [← hacc]; exact ha)
        have hnext : grpB x.k ((x.bs.take (i + 1)).map (reB (fun s : Int => s.tdiv (x.w * f) * (x.w * f)))) = appB x.k acc (reB (fun s : Int => s.tdiv (x.w * f) * (x.w * f)) u) := by rw [htk, List.map_append, List.map_cons, List.map_nil, grpB_snoc, ← hacc]
        have hfin : bigB (appB x.k acc (reB (fun s : Int => s.tdiv (x.w * f) * (x.w * f)) u)) = true → bigB CB = true := fun h => by
          rw [← hCB]
          show bigB (grpB x.k (x.bs.map (reB (fun s : Int => s.tdiv (x.w * f) * (x.w * f))))) = true
          rw [grpB_take x.k _ (i + 1), ← List.map_take, hnext]
          refine bigB_apps _ _ (fun b hb => ?_) h
          rw [← List.map_drop] at hb
          obtain ⟨z, hz, rfl⟩ := List.mem_map.1 hb
          have := (v.vb z (List.mem_of_mem_drop hz)).c1
          show 0 ≤ z.c
          omega
        have hc2 := hub.c2
        have hBc : (reB (fun s : Int => s.tdiv (x.w * f) * (x.w * f)) u).c = u.c := rfl
        have hjb : ∀ a, acc.getLast? = some a → JB a (reB (fun s : Int => s.tdiv (x.w * f) * (x.w * f)) u) := fun a ha => ((hwn a (List.mem_of_getLast? ha)).jb hub (by omega) (by omega)).re
        refine Wc.skip (Wc.seq (Wc.block (Wc.seq ?_)))
        refine Wc.reg fun K hK => ?_; simp only [go_sem, ti3, ti4, ti32, ti39, ti41, ti31, ti96, ti87, ti29, ti22, ti26, ti23, Int.natCast_zero, hF, hix, hca]; refine hK _ _ ?_; clear hK K
        refine Wc.seq ?_
        refine Wc.regT fun K hK => ?_
        simp only [go_sem, ti3, ti4, ti32, ti39, ti41, ti31, ti96, ti87, ti29, ti22, ti26, ti23, Int.natCast_zero, hF, g6, n6, n6', n0, hWz, es3, St.put_put]
        refine ⟨by rw [trOK_eq3]; rfl, hK _ _ ?_⟩
        clear hK K
        have glen := hG.len
        refine Wc.seq ?_
        refine Wc.reg fun K hK => ?_; simp only [go_sem, ti3, ti4, ti32, ti39, ti41, ti31, ti96, ti87, ti29, ti22, ti26, ti23, Int.natCast_zero, hF, g6, n6, n6', n0, glen]; refine hK _ _ ?_; clear hK K
        rcases List.eq_nil_or_concat acc with rfl | ⟨D, a, rfl⟩
        · have hA : appB x.k [] (reB (fun s : Int => s.tdiv (x.w * f) * (x.w * f)) u) = [] ++ [reB (fun s : Int => s.tdiv (x.w * f) * (x.w * f)) u] := rfl
          refine Wc.seq (Wc.seq ?_)
          refine Wc.regD fun K hK => ?_; simp only [go_sem, ti3, ti4, ti32, ti39, ti41, ti31, ti96, ti87, ti29, ti22, ti26, ti23, Int.natCast_zero, hF]; refine hK _ _ ?_; clear hK K
          refine Wc.cond (t := true) (by simp only [go_sem, ti3, ti4, ti32, ti39, ti41, ti31, ti96, ti87, ti29, ti22, ti26, ti23, Int.natCast_zero, hF]) (fun _ => ?_) (fun hc => by cases hc)
          refine Wc.seq ?_
          refine Wc.reg fun K hK => ?_; simp only [go_sem, ti3, ti4, ti32, ti39, ti41, ti31, ti96, ti87, ti29, ti22, ti26, ti23, Int.natCast_zero, hF, g6, n6, n6', n0]
          refine GB.app (m := [reB (fun s : Int => s.tdiv (x.w * f) * (x.w * f)) u]) (M := [(k6, .cells [.p (.lst x.lb.length (x.lb.flatMap lbP)), .p (pI x.k), .p (pI (x.w * f)), xc] false), (1, .cells [.nils, .p (pI 0), .p (pI 0), .nils] false), (0, .cells (x.pd.map .p) false)]) (G := G) (L := []) ?_ hG (Nat.le_refl _) (by simp only [List.length_cons, List.length_nil, List.length_append] at hal ⊢; omega) (by simp only [go_sem, ti3, ti4, ti32, ti39, ti41, ti31, ti96, ti87, ti29, ti22, ti26, ti23, Int.natCast_zero]; rfl) (by simp) fun x' G' s3 hs hnx hG' => ?_
          · exact by (try simp only [St.put_adv, St.adv_adv, St.put_put, St.nx_put, St.nx_adv]); repeat (first | exact OA.mono ho (by omega) | refine OA.newB ?_ (by omega) rfl | refine OA.putB ?_ (by omega) | refine OA.advB ?_)
          have g6' := hs.at_ (k6, .cells [.p (.lst x.lb.length (x.lb.flatMap lbP)), .p (pI x.k), .p (pI (x.w * f)), xc] false) (by simp)
          simp only [St.nx_put, St.nx_adv] at hnx
          simp only [go_sem, ti3, ti4, ti32, ti39, ti41, ti31, ti96, ti87, ti29, ti22, ti26, ti23, Int.natCast_zero, hF, g6', n6, n6', n0]; refine hK _ _ ?_; clear hK K
          refine Wc.exit ?_
          refine Wc.reg fun K hK => ?_; simp only [go_sem, ti3, ti4, ti32, ti39, ti41, ti31, ti96, ti87, ti29, ti22, ti26, ti23, Int.natCast_zero, hF, i64n i (by omega)]; refine hK _ _ ?_; clear hK K
          refine ⟨x.bs.length - (i + 1), by omega, i + 1, k6, x', G', _, rfl, by omega, rfl, by simp only [Fs, Int.natCast_zero, go_sem, ti3, ti4, ti32, ti39, ti41, ti31, ti96, ti87, ti29, ti22, ti26, ti23, Int.natCast_zero, hF], ?_, hG', by rw [hnext, hA], by rw [bigB_snoc, hbig, Bool.false_or]; simp only [decide_eq_false_iff_not]; omega⟩
          exact by (try simp only [St.nx_put, St.nx_adv]); first | ((repeat (first | exact OA.mono hs (by omega) | refine OA.advB ?_)); done) | ((repeat refine OA.advB ?_); refine OA.ofS ?_; repeat (first | exact ⟨_, OA.mono hs (by omega)⟩ | refine OAs.adv ?_ | refine OAs.put ?_))
        rw [List.concat_eq_append] at *
        rcases hG with ⟨_, h0, _⟩ | ⟨id, rfl, rfl⟩
        · simp at h0
        have hG : GB (.gs (D ++ [a]).length id 0 (D ++ [a]).length 10) (D ++ [a]) [(id, .grow 10 (D ++ [a]).length (cB (D ++ [a])) false)] := .inr ⟨id, rfl, rfl⟩
        have gi := ho.at_ (id, .grow 10 (D ++ [a]).length (cB (D ++ [a])) false) (by simp)
        have hlti := ho.lt gi
        have ni : ∀ j, (s1.nx + j = id) = False := fun j => by simp; omega
        have ni' : ∀ j, (id = s1.nx + j) = False := fun j => by simp; omega
        have hl : (D ++ [a]).length = D.length + 1 := by simp
        have hixa : indexAddrD E0 29 (.v (.c (.gs (D ++ [a]).length id 0 (D ++ [a]).length 10))) (.v (.c (.p (.int .i64 (D.length : Int))))) = _ := ixG ti29 rfl ti41 (j := D.length) (n := (D ++ [a]).length) (by omega) rfl
        have e1 : IntKind.i64.wrap (((D ++ [a]).length : Int) - 1) = (D.length : Int) := by rw [wi64, hl]; omega
        have hdr : (cB (D ++ [a])).drop (D.length * 10) = a.pd.map .p ++ cB [] := cB_drop D a []
        have hle : (D.length * 10 ≤ (cB (D ++ [a])).length) = True := by rw [cB_len, hl]; simp; omega
        have hz : (((D ++ [a]).length : Int) == 0) = false := by rw [beq_eq_false_iff_ne, hl]; omega
        simp only [Nat.zero_add] at hixa
        have hja := hjb a (by simp)
        have htD : (cB (D ++ [a])).take (D.length * 10) = cB D := cB_take D [a]
        have hdD : (cB (D ++ [a])).drop (D.length * 10 + 10) = [] := List.drop_of_length_le (by rw [cB_len, hl]; omega)
        have hle2 : (D.length * 10 + 10 ≤ (cB (D ++ [a])).length) = True := by rw [cB_len, hl]; simp; omega
        generalize hN : (D ++ [a]).length = N at *
        generalize hCS : cB (D ++ [a]) = CS at *
        refine Wc.seq (Wc.seq ?_)
        refine Wc.regD fun K hK => ?_; simp only [go_sem, ti3, ti4, ti32, ti39, ti41, ti31, ti96, ti87, ti29, ti22, ti26, ti23, Int.natCast_zero, hF, g6, n6, n6', n0, gi, ni, ni', hixa, e1, hdr, hle, hz]; refine hK _ _ ?_; clear hK K
        refine Wc.cond (t := a.st != u.st.tdiv (x.w * f) * (x.w * f)) (by simp only [go_sem, ti3, ti4, ti32, ti39, ti41, ti31, ti96, ti87, ti29, ti22, ti26, ti23, Int.natCast_zero, hF]) (fun hc => ?_) (fun hc => ?_)
        · have hne : a.st ≠ u.st.tdiv (x.w * f) * (x.w * f) := by simpa using hc
          have hA : appB x.k (D ++ [a]) (reB (fun s : Int => s.tdiv (x.w * f) * (x.w * f)) u) = (D ++ [a]) ++ [reB (fun s : Int => s.tdiv (x.w * f) * (x.w * f)) u] := appB_new fun z hz => by simp at hz; subst hz; exact hne
          refine Wc.seq ?_
          refine Wc.reg fun K hK => ?_; simp only [go_sem, ti3, ti4, ti32, ti39, ti41, ti31, ti96, ti87, ti29, ti22, ti26, ti23, Int.natCast_zero, hF, g6, n6, n6', n0]
          refine GB.app (m := [reB (fun s : Int => s.tdiv (x.w * f) * (x.w * f)) u]) (M := [(k6, .cells [.p (.lst x.lb.length (x.lb.flatMap lbP)), .p (pI x.k), .p (pI (x.w * f)), .gs N id 0 N 10] false), (1, .cells [.nils, .p (pI 0), .p (pI 0), .nils] false), (0, .cells (x.pd.map .p) false)]) (G := [(id, .grow 10 N CS false)]) (L := []) ?_ hG (Nat.le_refl _) (by simp only [List.length_cons, List.length_nil, List.length_append] at hal ⊢; omega) (by simp only [go_sem, ti3, ti4, ti32, ti39, ti41, ti31, ti96, ti87, ti29, ti22, ti26, ti23, Int.natCast_zero]; rfl) (by simp) fun x' G' s3 hs hnx hG' => ?_
          · exact by (try simp only [St.put_adv, St.adv_adv, St.put_put, St.nx_put, St.nx_adv]); repeat (first | exact OA.mono ho (by omega) | refine OA.newB ?_ (by omega) rfl | refine OA.putB ?_ (by omega) | refine OA.advB ?_)
          have g6' := hs.at_ (k6, .cells [.p (.lst x.lb.length (x.lb.flatMap lbP)), .p (pI x.k), .p (pI (x.w * f)), .gs N id 0 N 10] false) (by simp)
          simp only [St.nx_put, St.nx_adv] at hnx
          simp only [go_sem, ti3, ti4, ti32, ti39, ti41, ti31, ti96, ti87, ti29, ti22, ti26, ti23, Int.natCast_zero, hF, g6', n6, n6', n0]; refine hK _ _ ?_; clear hK K
          refine Wc.exit ?_
          refine Wc.reg fun K hK => ?_; simp only [go_sem, ti3, ti4, ti32, ti39, ti41, ti31, ti96, ti87, ti29, ti22, ti26, ti23, Int.natCast_zero, hF, i64n i (by omega)]; refine hK _ _ ?_; clear hK K
          refine ⟨x.bs.length - (i + 1), by omega, i + 1, k6, x', G', _, rfl, by omega, rfl, by simp only [Fs, Int.natCast_zero, go_sem, ti3, ti4, ti32, ti39, ti41, ti31, ti96, ti87, ti29, ti22, ti26, ti23, Int.natCast_zero, hF], ?_, hG', by rw [hnext, hA], by rw [bigB_snoc, hbig, Bool.false_or]; simp only [decide_eq_false_iff_not]; omega⟩
          exact by (try simp only [St.nx_put, St.nx_adv]); first | ((repeat (first | exact OA.mono hs (by omega) | refine OA.advB ?_)); done) | ((repeat refine OA.advB ?_); refine OA.ofS ?_; repeat (first | exact ⟨_, OA.mono hs (by omega)⟩ | refine OAs.adv ?_ | refine OAs.put ?_))
        · have heq : a.st = u.st.tdiv (x.w * f) * (x.w * f) := by simpa using hc
          have hA : appB x.k (D ++ [a]) (reB (fun s : Int => s.tdiv (x.w * f) * (x.w * f)) u) = D ++ [joinB x.k a (reB (fun s : Int => s.tdiv (x.w * f) * (x.w * f)) u)] := appB_same heq
          refine Wc.skip (Wc.seq ?_)
          refine Wc.regT fun K hK => ?_
          simp only [go_sem, ti3, ti4, ti32, ti39, ti41, ti31, ti96, ti87, ti29, ti22, ti26, ti23, Int.natCast_zero, hF, g6, g0, n6, n6', n0, gi, ni, ni', hixa, e1, hdr, hle]
          refine wpCall.pf (hja.pf48 x.k) (by kernel_rfl) (by kernel_rfl) rfl rfl ?_
          simp only [go_sem, ti3, ti4, ti32, ti39, ti41, ti31, ti96, ti87, ti29, ti22, ti26, ti23, Int.natCast_zero, hF, g6, n6, n6', n0, gi, ni, ni', hixa, e1, hdr, hle, o48, x48]
          refine ⟨by rw [trOK_eq3]; rfl, hK _ _ ?_⟩
          clear hK K
          have hlJ : ((D ++ [joinB x.k a (reB (fun s : Int => s.tdiv (x.w * f) * (x.w * f)) u)]).length : Nat) = N := by rw [List.length_append]; simp only [List.length_cons, List.length_nil]; omega
          have hcJ : cB D ++ (joinB x.k a (reB (fun s : Int => s.tdiv (x.w * f) * (x.w * f)) u)).pd.map .p = cB (D ++ [joinB x.k a (reB (fun s : Int => s.tdiv (x.w * f) * (x.w * f)) u)]) := by rw [cB_app]; simp [cB]
          have hbD : bigB D = false := by rw [bigB_snoc, Bool.or_eq_false_iff] at hbig; exact hbig.1
          rw [hA] at hfin
          generalize joinB x.k a (reB (fun s : Int => s.tdiv (x.w * f) * (x.w * f)) u) = J at *
          refine Wc.seq (Wc.seq ?_)
          refine Wc.reg fun K hK => ?_; simp only [go_sem, ti3, ti4, ti32, ti39, ti41, ti31, ti96, ti87, ti29, ti22, ti26, ti23, Int.natCast_zero, hF, g6, n6, n6', n0]; refine hK _ _ ?_; clear hK K
          refine Wc.cond (t := decide (2000 < J.c)) (by simp only [go_sem, ti3, ti4, ti32, ti39, ti41, ti31, ti96, ti87, ti29, ti22, ti26, ti23, Int.natCast_zero, hF]) (fun hc => ?_) (fun hc => ?_)
          · have g1 := ho.at_ (1, .cells [.nils, .p (pI 0), .p (pI 0), .nils] false) (by simp)
            have hlt1 := ho.lt g1
            have n1 : ∀ j, (s1.nx + j = 1) = False := fun j => by simp; omega
            refine Wc.seq ?_
            refine Wc.reg fun K hK => ?_; simp only [go_sem, ti3, ti4, ti32, ti39, ti41, ti31, ti96, ti87, ti29, ti22, ti26, ti23, Int.natCast_zero, hF, g1, n1]; refine hK _ _ ?_; clear hK K
            rw [hfin (by rw [bigB_snoc, hc, Bool.or_true])]
            exact Wc.ret (Pf.ret [.cell 4 31, .tmp 5] [.agg [.nils, .p (pI 0), .p (pI 0), .nils], .c (.p (pI 4))] rfl rfl (by simp only [resultsD, go_sem, ti3, ti4, ti32, ti39, ti41, ti31, ti96, ti87, ti29, ti22, ti26, ti23, Int.natCast_zero, hF]) rfl)
          · refine Wc.skip ?_
            refine Wc.reg fun K hK => ?_; simp only [go_sem, ti3, ti4, ti32, ti39, ti41, ti31, ti96, ti87, ti29, ti22, ti26, ti23, Int.natCast_zero, hF, g6, gi, n6, n6', n0, ni, ni', e1, hixa, hle2, htD, hdD]; refine hK _ _ ?_; clear hK K
            refine Wc.reg fun K hK => ?_; simp only [go_sem, ti3, ti4, ti32, ti39, ti41, ti31, ti96, ti87, ti29, ti22, ti26, ti23, Int.natCast_zero, hF, i64n i (by omega)]; refine hK _ _ ?_; clear hK K
            refine ⟨x.bs.length - (i + 1), by omega, i + 1, k6, .gs N id 0 N 10, [(id, .grow 10 N (cB (D ++ [J])) false)], D ++ [J], rfl, by omega, rfl, by simp only [Fs, Int.natCast_zero, go_sem, ti3, ti4, ti32, ti39, ti41, ti31, ti96, ti87, ti29, ti22, ti26, ti23, Int.natCast_zero, hF], ?_, .inr ⟨id, by rw [hlJ], by rw [hlJ]⟩, by rw [hnext, hA], by rw [bigB_snoc, hbD, Bool.false_or]; exact hc⟩
            rw [← hcJ]
            exact by (try simp only [St.put_adv, St.adv_adv, St.put_put, St.nx_put, St.nx_adv]); (repeat refine OA.advB ?_); refine OA.ofS (M1 := []) ?_; repeat (first | exact ⟨_, OA.mono ho (by omega)⟩ | refine OAs.adv ?_ | refine OAs.put ?_ | refine OAs.putB ?_ (by omega))
      · have hil : i = x.bs.length := by have := of_decide_eq_false hc; omega
        rw [hil, List.take_length] at hacc
        have hac2 : acc = CB := by rw [hacc, ← hCB]; rfl
        rw [hac2] at hG hbig
        exact Wc.exit ⟨k6, xc, G, hbig, rfl, by simp only [Fs, Int.natCast_zero, go_sem, ti3, ti4, ti32, ti39, ti41, ti31, ti96, ti87, ti29, ti22, ti26, ti23, Int.natCast_zero, hF], by (try simp only [St.nx_put, St.nx_adv]); repeat (first | exact OA.mono ho (by omega) | refine OA.newB ?_ (by omega) rfl | refine OA.advB ?_), hG⟩
    · exact ⟨0, 24, .nils, [], [], rfl, by omega, rfl, by simp only [Fs, Int.natCast_zero, go_sem, ti3, ti4, ti32, ti39, ti41, ti31, ti96, ti87, ti29, ti22, ti26, ti23, Int.natCast_zero], by (try simp only [St.put_adv, St.adv_adv, St.put_put, St.nx_put, St.nx_adv]); repeat (first | exact OA.mono s00_oa (by omega) | refine OA.newB ?_ (by omega) rfl | refine OA.putB ?_ (by omega) | refine OA.advB ?_), .inl ⟨rfl, rfl, rfl⟩, rfl, rfl⟩
  rintro ⟨e, ds, s1⟩ ⟨k6, xc, G, hbig, rfl, hF, ho, hG⟩
  simp only [Fs] at hF ho
  have g6 := ho.at_ (k6, .cells [.p (.lst x.lb.length (x.lb.flatMap lbP)), .p (pI x.k), .p (pI (x.w * f)), xc] false) (by simp)
  have g1 := ho.at_ (1, .cells [.nils, .p (pI 0), .p (pI 0), .nils] false) (by simp)
  refine Wc.seq ?_
  refine Wc.reg fun K hK => ?_; simp only [go_sem, ti3, ti4, ti32, ti39, ti41, ti31, ti96, ti87, ti29, ti22, ti26, ti23, Int.natCast_zero, hF, g6, g1]; refine hK _ _ ?_; clear hK K
  rw [hbig]
  exact Wc.ret (Pf.retG [.cell 4 31, .tmp 5] rfl rfl (by simp only [resultsD, go_sem, ti3, ti4, ti32, ti39, ti41, ti31, ti96, ti87, ti29, ti22, ti26, ti23, Int.natCast_zero, hF]) ((ho.adv (n := 3)).keepG (k := 1) (o := .cells [.nils, .p (pI 0), .p (pI 0), .nils] false) (by simp) rfl) hG)
end Go.Proofs.YtedcnhbblgmdnaaGreat.Ab
namespace Go.Proofs.YtedcnhbblgmdnaaGreat.Ab
set_option maxHeartbeats 8000000
set_option maxRecDepth 10000
set_option linter.unusedSimpArgs false
set_option linter.unusedVariables false
theorem less_irr : ∀ s : List UInt8, Op.bytesLess s s = false
  | [] => rfl
  | a :: r => by
    simp only [Op.bytesLess, less_irr r, Bool.and_false, Bool.or_false, decide_eq_false_iff_not]
    exact UInt8.lt_irrefl a
theorem o154 : E0.opn 154 = false := by kernel_rfl
theorem x154 : E0.xt 154 = none := by kernel_rfl
/-- 115: Text, of equal texts -/
theorem pf154 (s : List UInt8) : Pf E0 154 [.c (.p (.str s)), .c (.p (.str s))] (P' (pI 0)) := by
  have h := less_irr s
  refine Pf.body (fn := Tryz.f154) (by kernel_rfl) rfl ?_; simp only [List.map_cons, List.map_nil, List.cons_append, List.nil_append, List.length_cons, List.length_nil, Tryz.ntmps154, List.replicate, Nat.reduceSub, Nat.reduceAdd]
  refine Wc.seq ?_
  refine Wc.reg fun K hK => ?_; simp only [go_sem, ti3, ti9, ti4, ti32, ti22, ti23, ti24, ti26, ti94, ti96, ti39, ti148, ti150, ti152, ti117]; refine hK _ _ ?_; clear hK K
  refine Wc.seq (Wc.seq ?_)
  refine Wc.reg fun K hK => ?_; simp only [go_sem, ti3, ti9, ti4, ti32, ti22, ti23, ti24, ti26, ti94, ti96, ti39, ti148, ti150, ti152, ti117, h]; refine hK _ _ ?_; clear hK K
  refine Wc.cond (t := false) (by simp only [go_sem, ti3, ti9, ti4, ti32, ti22, ti23, ti24, ti26, ti94, ti96, ti39, ti148, ti150, ti152, ti117, h]) (fun hc => by cases hc) (fun _ => Wc.skip ?_)
  refine Wc.seq (Wc.seq ?_)
  refine Wc.reg fun K hK => ?_; simp only [go_sem, ti3, ti9, ti4, ti32, ti22, ti23, ti24, ti26, ti94, ti96, ti39, ti148, ti150, ti152, ti117, h]; refine hK _ _ ?_; clear hK K
  refine Wc.cond (t := false) (by simp only [go_sem, ti3, ti9, ti4, ti32, ti22, ti23, ti24, ti26, ti94, ti96, ti39, ti148, ti150, ti152, ti117, h, Bool.or_true]) (fun hc => by cases hc) (fun _ => Wc.skip ?_)
  refine Wc.seq ?_
  refine Wc.reg fun K hK => ?_; simp only [go_sem, ti3, ti9, ti4, ti32, ti22, ti23, ti24, ti26, ti94, ti96, ti39, ti148, ti150, ti152, ti117]; refine hK _ _ ?_; clear hK K
  exact Wc.ret (Pf.ret [.tmp 4] [.c (.p (pI 0))] rfl rfl (by simp only [resultsD, go_sem, ti3, ti9, ti4, ti32, ti22, ti23, ti24, ti26, ti94, ti96, ti39, ti148, ti150, ti152, ti117]) rfl)
/-- 77: Compare, of equal labels -/
theorem pf96 (l : List Lb) (hl : l.length < 2^60) : Pf E0 96 [.c (.p (.lst l.length (l.flatMap lbP))), .c (.p (.lst l.length (l.flatMap lbP)))] (P' (pI 0)) := by
  have hfl : (l.flatMap lbP).length = l.length * 2 := flat_len (k := 2) (fun _ => rfl) l
  refine Pf.body (fn := Tryz.f96) (by kernel_rfl) rfl ?_; simp only [List.map_cons, List.map_nil, List.cons_append, List.nil_append, List.length_cons, List.length_nil, Tryz.ntmps96, List.replicate, Nat.reduceSub, Nat.reduceAdd]
  refine Wc.seq ?_
  refine Wc.reg fun K hK => ?_; simp only [go_sem, ti3, ti9, ti4, ti32, ti22, ti23, ti24, ti26, ti94, ti96, ti39, ti148, ti150, ti152, ti117]; refine hK _ _ ?_; clear hK K
  refine Wc.seqA (fun y => y.ds = [] ∧ y.e.length = 58 ∧ y.e.getD 0 .junk = P' (.lst l.length (l.flatMap lbP)) ∧ y.e.getD 1 .junk = P' (.lst l.length (l.flatMap lbP))) ?_ ?_
  · refine Wc.seq ?_
    refine Wc.reg fun K hK => ?_; simp only [go_sem, ti3, ti9, ti4, ti32, ti22, ti23, ti24, ti26, ti94, ti96, ti39, ti148, ti150, ti152, ti117, Int.natCast_zero]; refine hK _ _ ?_; clear hK K
    refine Wc.block (Wc.loop (fun k y => ∃ i : Nat, k = l.length - i ∧ i ≤ l.length ∧ y.ds = [] ∧ y.e.length = 58 ∧ y.e.getD 0 .junk = P' (.lst l.length (l.flatMap lbP)) ∧ y.e.getD 1 .junk = P' (.lst l.length (l.flatMap lbP)) ∧ y.e.getD 5 .junk = P' (pI i)) ?_ (k := l.length) ?_)
    · rintro k ⟨e, ds, s1⟩ ⟨i, rfl, hi, rfl, hlen, h0, h1, h5⟩
      simp only at hlen h0 h1 h5
      refine Wc.seq (Wc.seq ?_)
      by_cases hil : i < l.length
      · have hd : ((i : Int) < (l.length : Int)) = True := by simp only [eq_iff_iff, iff_true]; omega
        obtain ⟨x, hx⟩ : ∃ x, l[i]? = some x := ⟨l[i], List.getElem?_eq_getElem hil⟩
        have hix := ixA ti22 rfl ti117 (j := i) (m := l.length) (cs := l.flatMap lbP) hil hfl (by decide)
        have hca := rpA (off := i * 2) (drop_flat (f := lbP) (k := 2) (fun _ => rfl) hx) (by rw [hfl]; omega)
        have hcc := rpA (off := i * 2 + 1) (cs := l.flatMap lbP) (pre := [.str x.2]) (rest := (l.drop (i + 1)).flatMap lbP) (by rw [← List.drop_drop, drop_flat (f := lbP) (k := 2) (fun _ => rfl) hx]; rfl) (by rw [hfl]; omega)
        refine Wc.reg fun K hK => ?_; simp only [go_sem, ti3, ti9, ti4, ti32, ti22, ti23, ti24, ti26, ti94, ti96, ti39, ti148, ti150, ti152, ti117, hlen, h0, h1, h5, hd]; refine hK _ _ ?_; clear hK K
        refine Wc.cond (t := true) (by simp only [go_sem, ti3, ti9, ti4, ti32, ti22, ti23, ti24, ti26, ti94, ti96, ti39, ti148, ti150, ti152, ti117, hlen, hd]) (fun _ => ?_) (fun hc => by cases hc)
        refine Wc.skip (Wc.seq (Wc.block (Wc.seq (Wc.seq ?_))))
        refine Wc.regD fun K hK => ?_; simp only [go_sem, ti3, ti9, ti4, ti32, ti22, ti23, ti24, ti26, ti94, ti96, ti39, ti148, ti150, ti152, ti117, hlen, h0, h1, h5, hix, hca]
        refine ⟨by simp [o154, x154, plainD, plainV, plainC], ?_⟩
        refine wpCall.pf (pf154 x.1) (by kernel_rfl) (by kernel_rfl) rfl rfl ?_
        simp only [go_sem, ti3, ti9, ti4, ti32, ti22, ti23, ti24, ti26, ti94, ti96, ti39, ti148, ti150, ti152, ti117, hlen, h0, h1, h5, hix, hca]; refine hK _ _ ?_; clear hK K
        refine Wc.seq ?_
        refine Wc.reg fun K hK => ?_; simp only [go_sem, ti3, ti9, ti4, ti32, ti22, ti23, ti24, ti26, ti94, ti96, ti39, ti148, ti150, ti152, ti117, hlen, h0, h1, h5]; refine hK _ _ ?_; clear hK K
        refine Wc.cond (t := false) (by simp only [go_sem, ti3, ti9, ti4, ti32, ti22, ti23, ti24, ti26, ti94, ti96, ti39, ti148, ti150, ti152, ti117, hlen]; rfl) (fun hc => by cases hc) (fun _ => Wc.skip ?_)
        refine Wc.seq ?_
        refine Wc.regD fun K hK => ?_; simp only [go_sem, ti3, ti9, ti4, ti32, ti22, ti23, ti24, ti26, ti94, ti96, ti39, ti148, ti150, ti152, ti117, hlen, h0, h1, h5, hix, hcc]
        refine ⟨by simp [o154, x154, plainD, plainV, plainC], ?_⟩
        refine wpCall.pf (pf154 x.2) (by kernel_rfl) (by kernel_rfl) rfl rfl ?_
        simp only [go_sem, ti3, ti9, ti4, ti32, ti22, ti23, ti24, ti26, ti94, ti96, ti39, ti148, ti150, ti152, ti117, hlen, h0, h1, h5, hix, hcc]; refine hK _ _ ?_; clear hK K
        refine Wc.seq ?_
        refine Wc.reg fun K hK => ?_; simp only [go_sem, ti3, ti9, ti4, ti32, ti22, ti23, ti24, ti26, ti94, ti96, ti39, ti148, ti150, ti152, ti117, hlen, h0, h1, h5]; refine hK _ _ ?_; clear hK K
        refine Wc.cond (t := false) (by simp only [go_sem, ti3, ti9, ti4, ti32, ti22, ti23, ti24, ti26, ti94, ti96, ti39, ti148, ti150, ti152, ti117, hlen]; rfl) (fun hc => by cases hc) (fun _ => Wc.skip ?_)
        refine Wc.reg fun K hK => ?_; simp only [go_sem, ti3, ti9, ti4, ti32, ti22, ti23, ti24, ti26, ti94, ti96, ti39, ti148, ti150, ti152, ti117, hlen, h0, h1, h5, i64n i (by omega)]; refine hK _ _ ?_; clear hK K
        exact ⟨l.length - (i + 1), by omega, i + 1, rfl, by omega, rfl, by simp only [go_sem, ti3, ti9, ti4, ti32, ti22, ti23, ti24, ti26, ti94, ti96, ti39, ti148, ti150, ti152, ti117, hlen], by simp only [go_sem, ti3, ti9, ti4, ti32, ti22, ti23, ti24, ti26, ti94, ti96, ti39, ti148, ti150, ti152, ti117, hlen, h0], by simp only [go_sem, ti3, ti9, ti4, ti32, ti22, ti23, ti24, ti26, ti94, ti96, ti39, ti148, ti150, ti152, ti117, hlen, h1], by simp only [go_sem, ti3, ti9, ti4, ti32, ti22, ti23, ti24, ti26, ti94, ti96, ti39, ti148, ti150, ti152, ti117, hlen]⟩
      · have hd : ((i : Int) < (l.length : Int)) = False := by simp only [eq_iff_iff, iff_false]; omega
        refine Wc.reg fun K hK => ?_; simp only [go_sem, ti3, ti9, ti4, ti32, ti22, ti23, ti24, ti26, ti94, ti96, ti39, ti148, ti150, ti152, ti117, hlen, h0, h1, h5, hd]; refine hK _ _ ?_; clear hK K
        refine Wc.cond (t := false) (by simp only [go_sem, ti3, ti9, ti4, ti32, ti22, ti23, ti24, ti26, ti94, ti96, ti39, ti148, ti150, ti152, ti117, hlen, hd]) (fun hc => by cases hc) (fun _ => ?_)
        exact Wc.exit ⟨rfl, rfl, by simp only [go_sem, ti3, ti9, ti4, ti32, ti22, ti23, ti24, ti26, ti94, ti96, ti39, ti148, ti150, ti152, ti117, hlen], by simp only [go_sem, ti3, ti9, ti4, ti32, ti22, ti23, ti24, ti26, ti94, ti96, ti39, ti148, ti150, ti152, ti117, hlen, h0], by simp only [go_sem, ti3, ti9, ti4, ti32, ti22, ti23, ti24, ti26, ti94, ti96, ti39, ti148, ti150, ti152, ti117, hlen, h1]⟩
    · exact ⟨0, rfl, by omega, rfl, rfl, rfl, rfl, rfl⟩
  rintro ⟨e, ds, s1⟩ ⟨rfl, hlen, h0, h1⟩
  simp only at hlen h0 h1
  have hd : ((l.length : Int) < (l.length : Int)) = False := by simp
  refine Wc.seq (Wc.seq ?_)
  refine Wc.reg fun K hK => ?_; simp only [go_sem, ti3, ti9, ti4, ti32, ti22, ti23, ti24, ti26, ti94, ti96, ti39, ti148, ti150, ti152, ti117, hlen, h0, h1, hd]; refine hK _ _ ?_; clear hK K
  refine Wc.cond (t := false) (by simp only [go_sem, ti3, ti9, ti4, ti32, ti22, ti23, ti24, ti26, ti94, ti96, ti39, ti148, ti150, ti152, ti117, hlen, hd]) (fun hc => by cases hc) (fun _ => Wc.skip ?_)
  refine Wc.seq (Wc.seq ?_)
  refine Wc.reg fun K hK => ?_; simp only [go_sem, ti3, ti9, ti4, ti32, ti22, ti23, ti24, ti26, ti94, ti96, ti39, ti148, ti150, ti152, ti117, hlen, h0, h1, hd]; refine hK _ _ ?_; clear hK K
  refine Wc.cond (t := false) (by simp only [go_sem, ti3, ti9, ti4, ti32, ti22, ti23, ti24, ti26, ti94, ti96, ti39, ti148, ti150, ti152, ti117, hlen, hd]) (fun hc => by cases hc) (fun _ => Wc.skip ?_)
  refine Wc.seq ?_
  refine Wc.reg fun K hK => ?_; simp only [go_sem, ti3, ti9, ti4, ti32, ti22, ti23, ti24, ti26, ti94, ti96, ti39, ti148, ti150, ti152, ti117, hlen]; refine hK _ _ ?_; clear hK K
  exact Wc.ret (Pf.ret [.tmp 4] [.c (.p (pI 0))] rfl rfl (by simp only [resultsD, go_sem, ti3, ti9, ti4, ti32, ti22, ti23, ti24, ti26, ti94, ti96, ti39, ti148, ti150, ti152, ti117, hlen]) rfl)
/-- 36: Same, of equal labels -/
theorem pf50 (l : List Lb) (hl : l.length < 2^60) : Pf E0 50 [.c (.p (.lst l.length (l.flatMap lbP))), .c (.p (.lst l.length (l.flatMap lbP)))] (P' (.bool true)) := by
  refine Pf.body (fn := Tryz.f50) (by kernel_rfl) rfl ?_; simp only [List.map_cons, List.map_nil, List.cons_append, List.nil_append, List.length_cons, List.length_nil, Tryz.ntmps50, List.replicate, Nat.reduceSub, Nat.reduceAdd]
  refine Wc.seq ?_
  refine Wc.reg fun K hK => ?_; simp only [go_sem, ti3, ti9, ti4, ti32, ti22, ti23, ti24, ti26, ti94, ti96, ti39, ti148, ti150, ti152, ti117]; refine hK _ _ ?_; clear hK K
  refine Wc.seq ?_
  refine Wc.reg fun K hK => ?_; simp only [go_sem, ti3, ti9, ti4, ti32, ti22, ti23, ti24, ti26, ti94, ti96, ti39, ti148, ti150, ti152, ti117]
  refine wpCall.pf (pf96 l hl) (by kernel_rfl) (by kernel_rfl) rfl rfl ?_
  simp only [go_sem, ti3, ti9, ti4, ti32, ti22, ti23, ti24, ti26, ti94, ti96, ti39, ti148, ti150, ti152, ti117]; refine hK _ _ ?_; clear hK K
  exact Wc.ret (Pf.ret [.tmp 4] [.c (.p (.bool true))] rfl rfl (by simp only [resultsD, go_sem, ti3, ti9, ti4, ti32, ti22, ti23, ti24, ti26, ti94, ti96, ti39, ti148, ti150, ti152, ti117]; try rfl) rfl)
def lbG (x : Lb) : Bool := decide (61 < x.1.length) || decide (201 < x.2.length)
def lbsG (l : List Lb) : Bool := l.any lbG || decide (17 < l.length)
/-- 19: Great, of labels -/
theorem pf39 (l : List Lb) (hl : l.length < 2^60) : Pf E0 39 [.c (.p (.lst l.length (l.flatMap lbP)))] (P' (.bool (lbsG l))) := by
  have hfl : (l.flatMap lbP).length = l.length * 2 := flat_len (k := 2) (fun _ => rfl) l
  refine Pf.body (fn := Tryz.f39) (by kernel_rfl) rfl ?_; simp only [List.map_cons, List.map_nil, List.cons_append, List.nil_append, List.length_cons, List.length_nil, Tryz.ntmps39, List.replicate, Nat.reduceSub, Nat.reduceAdd]
  refine Wc.seq ?_
  refine Wc.reg fun K hK => ?_; simp only [go_sem, ti3, ti9, ti4, ti32, ti22, ti23, ti24, ti26, ti94, ti96, ti39, ti148, ti150, ti152, ti117]; refine hK _ _ ?_; clear hK K
  refine Wc.seqR (fun y => l.any lbG = false ∧ y.ds = [] ∧ y.e.length = 29 ∧ y.e.getD 0 .junk = P' (.lst l.length (l.flatMap lbP))) ?_ ?_
  · refine Wc.seq ?_
    refine Wc.reg fun K hK => ?_; simp only [go_sem, ti3, ti9, ti4, ti32, ti22, ti23, ti24, ti26, ti94, ti96, ti39, ti148, ti150, ti152, ti117, Int.natCast_zero]; refine hK _ _ ?_; clear hK K
    refine Wc.block (Wc.loop (fun k y => ∃ i : Nat, k = l.length - i ∧ i ≤ l.length ∧ y.ds = [] ∧ y.e.length = 29 ∧ y.e.getD 0 .junk = P' (.lst l.length (l.flatMap lbP)) ∧ y.e.getD 3 .junk = P' (pI i) ∧ (l.take i).any lbG = false) ?_ (k := l.length) ?_)
    · rintro k ⟨e, ds, s1⟩ ⟨i, rfl, hi, rfl, hlen, h0, h3, hn⟩
      simp only at hlen h0 h3
      refine Wc.seq (Wc.seq ?_)
      refine Wc.reg fun K hK => ?_; simp only [go_sem, ti3, ti9, ti4, ti32, ti22, ti23, ti24, ti26, ti94, ti96, ti39, ti148, ti150, ti152, ti117, hlen, h0, h3]; refine hK _ _ ?_; clear hK K
      refine Wc.cond (t := decide ((i : Int) < l.length)) (by simp only [go_sem, ti3, ti9, ti4, ti32, ti22, ti23, ti24, ti26, ti94, ti96, ti39, ti148, ti150, ti152, ti117, hlen]) (fun hc => ?_) (fun hc => ?_)
      · have hil : i < l.length := by have h9 : (i : Int) < l.length := (by simpa using hc); omega
        obtain ⟨x, hx⟩ : ∃ x, l[i]? = some x := ⟨l[i], List.getElem?_eq_getElem hil⟩
        have hix := ixA ti22 rfl ti117 (j := i) (m := l.length) (cs := l.flatMap lbP) hil hfl (by decide)
        have hca := rpA (off := i * 2) (drop_flat (f := lbP) (k := 2) (fun _ => rfl) hx) (by rw [hfl]; omega)
        have hcc := rpA (off := i * 2 + 1) (cs := l.flatMap lbP) (pre := [.str x.2]) (rest := (l.drop (i + 1)).flatMap lbP) (by rw [← List.drop_drop, drop_flat (f := lbP) (k := 2) (fun _ => rfl) hx]; rfl) (by rw [hfl]; omega)
        have bad : lbG x = true → lbsG l = true := fun h => by
          unfold lbsG
          rw [List.any_eq_true.2 ⟨x, List.mem_of_getElem? hx, h⟩, Bool.true_or]
        refine Wc.skip (Wc.seq (Wc.block (Wc.seq ?_)))
        by_cases z1 : 61 < x.1.length
        · have f1 : ((61 : Int) < (x.1.length : Int)) = True := by simp only [eq_iff_iff, iff_true]; omega
          refine Wc.reg fun K hK => ?_; simp only [go_sem, ti3, ti9, ti4, ti32, ti22, ti23, ti24, ti26, ti94, ti96, ti39, ti148, ti150, ti152, ti117, hlen, h0, h3, hix, hca, f1]; refine hK _ _ ?_; clear hK K
          refine Wc.cond (t := true) (by simp only [go_sem, ti3, ti9, ti4, ti32, ti22, ti23, ti24, ti26, ti94, ti96, ti39, ti148, ti150, ti152, ti117, hlen]) (fun _ => ?_) (fun hc => by cases hc)
          refine Wc.seq ?_
          refine Wc.reg fun K hK => ?_; simp only [go_sem, ti3, ti9, ti4, ti32, ti22, ti23, ti24, ti26, ti94, ti96, ti39, ti148, ti150, ti152, ti117, hlen]; refine hK _ _ ?_; clear hK K
          rw [bad (by simp [lbG, z1])]
          exact Wc.ret (Pf.ret [.tmp 2] [.c (.p (.bool true))] rfl rfl (by simp only [resultsD, go_sem, ti3, ti9, ti4, ti32, ti22, ti23, ti24, ti26, ti94, ti96, ti39, ti148, ti150, ti152, ti117, hlen]) rfl)
        have f1 : ((61 : Int) < (x.1.length : Int)) = False := by simp only [eq_iff_iff, iff_false]; omega
        refine Wc.reg fun K hK => ?_; simp only [go_sem, ti3, ti9, ti4, ti32, ti22, ti23, ti24, ti26, ti94, ti96, ti39, ti148, ti150, ti152, ti117, hlen, h0, h3, hix, hca, hcc, f1]; refine hK _ _ ?_; clear hK K
        refine Wc.cond (t := decide ((201 : Int) < x.2.length)) (by simp only [go_sem, ti3, ti9, ti4, ti32, ti22, ti23, ti24, ti26, ti94, ti96, ti39, ti148, ti150, ti152, ti117, hlen]) (fun hc => ?_) (fun hc => ?_)
        · have z2 : (201 : Int) < x.2.length := of_decide_eq_true hc
          have z3 : 201 < x.2.length := by omega
          refine Wc.seq ?_
          refine Wc.reg fun K hK => ?_; simp only [go_sem, ti3, ti9, ti4, ti32, ti22, ti23, ti24, ti26, ti94, ti96, ti39, ti148, ti150, ti152, ti117, hlen]; refine hK _ _ ?_; clear hK K
          rw [bad (by simp [lbG, z3])]
          exact Wc.ret (Pf.ret [.tmp 2] [.c (.p (.bool true))] rfl rfl (by simp only [resultsD, go_sem, ti3, ti9, ti4, ti32, ti22, ti23, ti24, ti26, ti94, ti96, ti39, ti148, ti150, ti152, ti117, hlen]) rfl)
        · have z2 : ¬ (201 : Int) < x.2.length := of_decide_eq_false hc
          have z3 : ¬ 201 < x.2.length := by omega
          refine Wc.skip ?_
          refine Wc.reg fun K hK => ?_; simp only [go_sem, ti3, ti9, ti4, ti32, ti22, ti23, ti24, ti26, ti94, ti96, ti39, ti148, ti150, ti152, ti117, hlen, h0, h3, i64n i (by omega)]; refine hK _ _ ?_; clear hK K
          refine ⟨l.length - (i + 1), by omega, i + 1, rfl, by omega, rfl, by simp only [go_sem, ti3, ti9, ti4, ti32, ti22, ti23, ti24, ti26, ti94, ti96, ti39, ti148, ti150, ti152, ti117, hlen], by simp only [go_sem, ti3, ti9, ti4, ti32, ti22, ti23, ti24, ti26, ti94, ti96, ti39, ti148, ti150, ti152, ti117, hlen, h0], by simp only [go_sem, ti3, ti9, ti4, ti32, ti22, ti23, ti24, ti26, ti94, ti96, ti39, ti148, ti150, ti152, ti117, hlen], ?_⟩
          rw [take_snoc hx, List.any_append, hn]
          simp only [List.any_cons, List.any_nil, lbG, decide_eq_false z1, decide_eq_false z3, Bool.or_self]
      · have hil : i = l.length := by have h9 : ¬ (i : Int) < l.length := (by simpa using hc); omega
        subst hil
        rw [List.take_length] at hn
        exact Wc.exit ⟨hn, rfl, by simp only [go_sem, ti3, ti9, ti4, ti32, ti22, ti23, ti24, ti26, ti94, ti96, ti39, ti148, ti150, ti152, ti117, hlen], by simp only [go_sem, ti3, ti9, ti4, ti32, ti22, ti23, ti24, ti26, ti94, ti96, ti39, ti148, ti150, ti152, ti117, hlen, h0]⟩
    · exact ⟨0, rfl, by omega, rfl, rfl, rfl, rfl, rfl⟩
  rintro ⟨e, ds, s1⟩ ⟨hn, rfl, hlen, h0⟩
  simp only at hlen h0
  refine Wc.seq ?_
  refine Wc.reg fun K hK => ?_; simp only [go_sem, ti3, ti9, ti4, ti32, ti22, ti23, ti24, ti26, ti94, ti96, ti39, ti148, ti150, ti152, ti117, hlen, h0]; refine hK _ _ ?_; clear hK K
  have e1 : lbsG l = decide ((17 : Int) < l.length) := by unfold lbsG; rw [hn, Bool.false_or, decide_eq_decide]; omega
  rw [e1]
  exact Wc.ret (Pf.ret [.tmp 2] [.c (.p (.bool (decide ((17 : Int) < l.length))))] rfl rfl (by simp only [resultsD, go_sem, ti3, ti9, ti4, ti32, ti22, ti23, ti24, ti26, ti94, ti96, ti39, ti148, ti150, ti152, ti117, hlen]) rfl)
def serG (x : Ser) : Bool := x.hs.any (fun y => decide (40 < y.h.bs.length)) || (lbsG x.lb || (decide (24 < x.sm.length) || decide (6 < x.hs.length)))
theorem thenD_ret {K : Fr → Prop} {Q : Ex → Fr → Prop} {y : Fr} (h : Q .ret y) : thenD K Q .ret y := h
end Go.Proofs.YtedcnhbblgmdnaaGreat.Ab
