/- A part of the proof: an evaluator of the code, its contracts, the law. No condition. -/
import Derived.Test.YtedcnhbblgmdnaaGreatT25
namespace Go.Proofs.YtedcnhbblgmdnaaGreat.Ab
set_option maxHeartbeats 8000000
set_option maxRecDepth 10000
set_option linter.unusedSimpArgs false
set_option linter.unusedVariables false
theorem sumV_bnd {k : Int} : ∀ (l : List I2), (∀ x ∈ l, okS k x) → ∀ s0 : Int, s0 - l.length * 1099511627776 ≤ l.foldl (fun s x => s + x.2) s0 ∧ l.foldl (fun s x => s + x.2) s0 ≤ s0 + l.length * 1099511627776
  | [], _, s0 => by simp
  | a :: r, h, s0 => by
    obtain ⟨h1, h2⟩ := sumV_bnd r (fun x hx => h x (by simp [hx])) (s0 + a.2)
    obtain ⟨_, a1, a2⟩ := h a (by simp)
    simp only [List.foldl_cons, List.length_cons]
    omega
theorem OA.putF {b k : Nat} {s : St} {o : Ob} {M : List (Nat × Ob)} (h : OA b s [] M) (hk : k < b) (hm : ∀ y ∈ M, y.1 ≠ k) : OA b (s.put k o) [] M := by
  refine ⟨fun q hq => ?_, fun y hy => (by cases hy), h.dis, fun y hy => ?_, h.nof, h.dism⟩
  · rw [St.get_put, if_neg (by omega)]; exact h.free q hq
  · rw [St.get_put, if_neg (fun e => hm y hy e.symm)]; exact h.at_ y hy
/-- 91: summarize -/
theorem pf91 (st k : Int) (x : I2) (r : List I2) (hk : k = 1 ∨ k = 2) (hl : (x :: r).length ≤ 2000) (hs : (x :: r).Pairwise (fun a b => a.1 < b.1)) (hb : ∀ y ∈ (x :: r), okS k y) : Pf E0 91 [.c (.p (pI st)), .c (.p (.lst (x :: r).length ((x :: r).flatMap p2))), .c (.p (pI k))] (.v (.agg ((sumB k st x r).pd.map .p))) := by
  have hfl : ((x :: r).flatMap p2).length = (x :: r).length * 2 := flat_len (k := 2) (fun _ => rfl) _
  obtain ⟨z, hz⟩ : ∃ z, (x :: r).getLast (by simp) = z := ⟨_, rfl⟩
  have hzl : (x :: r)[(x :: r).length - 1]? = some z := by rw [← hz, List.getLast_eq_getElem]; simp
  have hx0 : (x :: r)[0]? = some x := rfl
  have hpos : 0 < (x :: r).length := by simp
  have hix : indexAddrD E0 23 (.v (.c (.p (.lst (x :: r).length ((x :: r).flatMap p2))))) (.v (.c (.p (.int .i64 0)))) = _ := ixA ti23 rfl ti39 (j := 0) (m := (x :: r).length) (cs := (x :: r).flatMap p2) hpos hfl (by decide)
  have hca := rpA (off := 0 * 2) (drop_flat (f := p2) (k := 2) (fun _ => rfl) hx0) (by rw [hfl]; omega)
  have hiz := ixA ti23 rfl ti39 (j := (x :: r).length - 1) (m := (x :: r).length) (cs := (x :: r).flatMap p2) (by omega) hfl (by decide)
  have hcz := rpA (off := ((x :: r).length - 1) * 2) (drop_flat (f := p2) (k := 2) (fun _ => rfl) hzl) (by rw [hfl]; omega)
  have e1 : IntKind.i64.wrap (((x :: r).length : Int) - 1) = (((x :: r).length - 1 : Nat) : Int) := by rw [wi64]; omega
  simp only [Nat.zero_mul] at hix hca
  have hsum : sumB k st x r = ⟨st, (x :: r).length, sumV (x :: r), (x :: r).foldl (fun m y => minI m y.2) x.2, (x :: r).foldl (fun m y => maxI m y.2) x.2, x.2, z.2, x.1, z.1, if k = 2 then incV (x :: r) else 0⟩ := by
    unfold sumB; rw [hz]
  rw [hsum]
  have hinc : k = 2 → Pf E0 148 [.c (.p (.lst (x :: r).length ((x :: r).flatMap p2)))] (P' (pI (incV (x :: r)))) := fun e => pf148 _ hl hs (fun y hy => e ▸ hb y hy)
  clear hsum hz
  generalize hLL : (x :: r) = l at *
  refine Pf.body (fn := Tryz.f91) (by kernel_rfl) rfl ?_; simp only [List.map_cons, List.map_nil, List.cons_append, List.nil_append, List.length_cons, List.length_nil, Tryz.ntmps91, List.replicate, Nat.reduceSub, Nat.reduceAdd]
  refine Wc.seq ?_
  refine Wc.reg fun K hK => ?_; simp only [go_sem, ti3, ti4, ti32, ti39, ti41, ti31, ti96, ti87, ti29, ti22, ti26, ti23, ti202, ti143, ti238, ti271, Int.natCast_zero]; refine hK _ _ ?_; clear hK K
  refine Wc.seq ?_
  refine Wc.regT fun K hK => ?_
  simp only [go_sem, ti3, ti4, ti32, ti39, ti41, ti31, ti96, ti87, ti29, ti22, ti26, ti23, ti202, ti143, ti238, ti271, Int.natCast_zero, hix, hca, hiz, hcz, e1]
  refine ⟨by rw [trOK_eq]; rfl, hK _ _ ?_⟩
  refine Wc.seq ?_
  refine Wc.reg fun K hK => ?_; simp only [go_sem, ti3, ti4, ti32, ti39, ti41, ti31, ti96, ti87, ti29, ti22, ti26, ti23, ti202, ti143, ti238, ti271, Int.natCast_zero]; refine hK _ _ ?_; clear hK K
  refine Wc.seqR (fun y => y.ds = [] ∧ Fs y.e 68 [(1, P' (.lst l.length (l.flatMap p2))), (2, P' (pI k)), (6, .v (.c (.ref 0 0))), (9, .v (.c (.ref 30 0)))] ∧ OA y.s.nx y.s [] [(30, .cells ([pI st, pI l.length, pI (sumV l), pI (l.foldl (fun m y => minI m y.2) x.2), pI (l.foldl (fun m y => maxI m y.2) x.2), pI x.2, pI z.2, pI x.1, pI z.1, pI 0].map .p) false), (0, .cells ((List.replicate 10 (pI 0)).map .p) false)]) ?_ ?_
  · refine Wc.seq ?_
    refine Wc.reg fun K hK => ?_; simp only [go_sem, ti3, ti4, ti32, ti39, ti41, ti31, ti96, ti87, ti29, ti22, ti26, ti23, ti202, ti143, ti238, ti271, Int.natCast_zero]; refine hK _ _ ?_; clear hK K
    refine Wc.block (Wc.loop (fun c y => ∃ (i : Nat), c = l.length - i ∧ i ≤ l.length ∧ y.ds = [] ∧ Fs y.e 68 [(1, P' (.lst l.length (l.flatMap p2))), (2, P' (pI k)), (6, .v (.c (.ref 0 0))), (9, .v (.c (.ref 30 0))), (37, P' (.lst l.length (l.flatMap p2))), (38, P' (pI l.length)), (39, P' (pI i))] ∧ OA y.s.nx y.s [] [(30, .cells ([pI st, pI l.length, pI (sumV (l.take i)), pI ((l.take i).foldl (fun m y => minI m y.2) x.2), pI ((l.take i).foldl (fun m y => maxI m y.2) x.2), pI x.2, pI z.2, pI x.1, pI z.1, pI 0].map .p) false), (0, .cells ((List.replicate 10 (pI 0)).map .p) false)]) ?_ (k := l.length) ?_)
    · rintro c ⟨e, ds, s1⟩ ⟨i, rfl, hi, rfl, hF, ho⟩
      simp only [Fs] at hF ho
      have g := ho.at_ (30, _) (List.mem_cons_self ..)
      simp only [List.map_cons, List.map_nil] at g
      have hlt := ho.lt g
      have n30 : ∀ j, (s1.nx + j = 30) = False := fun j => by simp; omega
      have n30' : ∀ j, (30 = s1.nx + j) = False := fun j => by simp; omega
      refine Wc.seq ?_
      refine Wc.reg fun K hK => ?_; simp only [go_sem, ti3, ti4, ti32, ti39, ti41, ti31, ti96, ti87, ti29, ti22, ti26, ti23, ti202, ti143, ti238, ti271, Int.natCast_zero, hF]; refine hK _ _ ?_; clear hK K
      refine Wc.seq ?_
      refine Wc.cond (t := decide ((i : Int) < l.length)) (by simp only [go_sem, ti3, ti4, ti32, ti39, ti41, ti31, ti96, ti87, ti29, ti22, ti26, ti23, ti202, ti143, ti238, ti271, Int.natCast_zero, hF]) (fun hc => ?_) (fun hc => ?_)
      · have hil : i < l.length := by have := of_decide_eq_true hc; omega
        obtain ⟨u, hu⟩ : ∃ u, l[i]? = some u := ⟨l[i], List.getElem?_eq_getElem hil⟩
        have hiu := ixA ti23 rfl ti39 (j := i) (m := l.length) (cs := l.flatMap p2) hil hfl (by decide)
        have hcu := rpA (off := i * 2) (drop_flat (f := p2) (k := 2) (fun _ => rfl) hu) (by rw [hfl]; omega)
        have htk := take_succ hu
        have hbu := hb u (List.mem_of_getElem? hu)
        have hsb := sumV_bnd (k := k) (l.take i) (fun y hy => hb y (List.mem_of_mem_take hy)) 0
        have hti : (l.take i).length = i := by simp; omega
        have es : sumV (l.take (i + 1)) = sumV (l.take i) + u.2 := by rw [htk]; simp [sumV, List.foldl_append]
        have em : (l.take (i + 1)).foldl (fun m y => minI m y.2) x.2 = minI ((l.take i).foldl (fun m y => minI m y.2) x.2) u.2 := by rw [htk, List.foldl_append]; rfl
        have ex : (l.take (i + 1)).foldl (fun m y => maxI m y.2) x.2 = maxI ((l.take i).foldl (fun m y => maxI m y.2) x.2) u.2 := by rw [htk, List.foldl_append]; rfl
        have ew : IntKind.i64.wrap (sumV (l.take i) + u.2) = sumV (l.take i) + u.2 := by
          have h1 : sumV (l.take i) = (l.take i).foldl (fun s x => s + x.2) 0 := rfl
          obtain ⟨_, b1, b2⟩ := hbu
          rw [wi64]; omega
        generalize sumV (l.take i) = S at *
        generalize (l.take i).foldl (fun m y => minI m y.2) x.2 = Mn at *
        generalize (l.take i).foldl (fun m y => maxI m y.2) x.2 = Mx at *
        refine Wc.skip (Wc.seq (Wc.block (Wc.seq ?_)))
        refine Wc.reg fun K hK => ?_; simp only [go_sem, ti3, ti4, ti32, ti39, ti41, ti31, ti96, ti87, ti29, ti22, ti26, ti23, ti202, ti143, ti238, ti271, Int.natCast_zero, hF, hiu, hcu]; refine hK _ _ ?_; clear hK K
        refine Wc.seq ?_
        refine Wc.reg fun K hK => ?_; simp only [go_sem, ti3, ti4, ti32, ti39, ti41, ti31, ti96, ti87, ti29, ti22, ti26, ti23, ti202, ti143, ti238, ti271, Int.natCast_zero, hF, g, ew, n30, n30']; refine hK _ _ ?_; clear hK K
        refine Wc.seq ?_
        refine Wc.reg fun K hK => ?_; simp only [go_sem, ti3, ti4, ti32, ti39, ti41, ti31, ti96, ti87, ti29, ti22, ti26, ti23, ti202, ti143, ti238, ti271, Int.natCast_zero, hF, g, minB2, St.put_put, n30, n30']; refine hK _ _ ?_; clear hK K
        refine Wc.reg fun K hK => ?_; simp only [go_sem, ti3, ti4, ti32, ti39, ti41, ti31, ti96, ti87, ti29, ti22, ti26, ti23, ti202, ti143, ti238, ti271, Int.natCast_zero, hF, g, maxB2, St.put_put, n30, n30']; refine hK _ _ ?_; clear hK K
        refine Wc.reg fun K hK => ?_; simp only [go_sem, ti3, ti4, ti32, ti39, ti41, ti31, ti96, ti87, ti29, ti22, ti26, ti23, ti202, ti143, ti238, ti271, Int.natCast_zero, hF, i64n i (by omega)]; refine hK _ _ ?_; clear hK K
        refine ⟨l.length - (i + 1), by omega, i + 1, rfl, by omega, rfl, by simp only [Fs, Int.natCast_zero, go_sem, ti3, ti4, ti32, ti39, ti41, ti31, ti96, ti87, ti29, ti22, ti26, ti23, ti202, ti143, ti238, ti271, Int.natCast_zero, hF], ?_⟩
        rw [es, em, ex]
        exact by (try simp only [St.nx_put, St.nx_adv]); (repeat refine OA.advB ?_); refine OA.ofS (M1 := []) ?_; repeat (first | exact ⟨_, OA.mono ho (by omega)⟩ | refine OAs.adv ?_ | refine OAs.put ?_ | refine OAs.putB ?_ (by omega))
      · have hil : i = l.length := by have := of_decide_eq_false hc; omega
        rw [hil, List.take_length] at ho
        exact Wc.exit ⟨rfl, by simp only [Fs, Int.natCast_zero, go_sem, ti3, ti4, ti32, ti39, ti41, ti31, ti96, ti87, ti29, ti22, ti26, ti23, ti202, ti143, ti238, ti271, Int.natCast_zero, hF], by (try simp only [St.nx_put, St.nx_adv]); repeat (first | exact OA.mono ho (by omega) | refine OA.newB ?_ (by omega) rfl | refine OA.advB ?_)⟩
    · refine ⟨0, rfl, by omega, rfl, by simp only [Fs, Int.natCast_zero, go_sem, ti3, ti4, ti32, ti39, ti41, ti31, ti96, ti87, ti29, ti22, ti26, ti23, ti202, ti143, ti238, ti271, Int.natCast_zero], ?_⟩
      simp only [St.nx_put, St.nx_adv]
      refine OA.advB (OA.newB (k := 30) (OA.advB (OA.putF (k := 11) (OA.putF (k := 10) (OA.putB (k := 11) (OA.putB (k := 10) (OA.advB (OA.newB (k := 0) (OA.mono (s00_oa.adv (n := 1)) (by omega)) (by omega) rfl)) (by omega)) (by omega)) (by omega) (by simp)) (by omega) (by simp))) (by omega) rfl)
  rintro ⟨e, ds, s1⟩ ⟨rfl, hF, ho⟩
  simp only [Fs] at hF ho
  have g := ho.at_ (30, _) (List.mem_cons_self ..)
  have g0 := ho.at_ (0, .cells ((List.replicate 10 (pI 0)).map .p) false) (by simp)
  simp only [List.map_cons, List.map_nil] at g g0
  refine Wc.seqR (fun y => y.ds = [] ∧ Fs y.e 68 [(6, .v (.c (.ref 0 0))), (9, .v (.c (.ref 30 0)))] ∧ y.s.get 30 = some (.cells ([pI st, pI l.length, pI (sumV l), pI (l.foldl (fun m y => minI m y.2) x.2), pI (l.foldl (fun m y => maxI m y.2) x.2), pI x.2, pI z.2, pI x.1, pI z.1, pI (if k = 2 then incV l else 0)].map .p) false) ∧ y.s.get 0 = some (.cells ((List.replicate 10 (pI 0)).map .p) false)) ?_ ?_
  · refine Wc.seq ?_
    rcases hk with hk1 | hk2
    · subst hk1
      refine Wc.reg fun K hK => ?_; simp only [go_sem, ti3, ti4, ti32, ti39, ti41, ti31, ti96, ti87, ti29, ti22, ti26, ti23, ti202, ti143, ti238, ti271, Int.natCast_zero, hF]; refine hK _ _ ?_; clear hK K
      refine Wc.cond (t := false) (by simp only [go_sem, ti3, ti4, ti32, ti39, ti41, ti31, ti96, ti87, ti29, ti22, ti26, ti23, ti202, ti143, ti238, ti271, Int.natCast_zero, hF, Int.reduceBEq]) (fun hc => by cases hc) (fun _ => ?_)
      refine Wc.skip ⟨rfl, by simp only [Fs, Int.natCast_zero, go_sem, ti3, ti4, ti32, ti39, ti41, ti31, ti96, ti87, ti29, ti22, ti26, ti23, ti202, ti143, ti238, ti271, Int.natCast_zero, hF], ?_, ?_⟩
      · simp only [go_sem, ti3, ti4, ti32, ti39, ti41, ti31, ti96, ti87, ti29, ti22, ti26, ti23, ti202, ti143, ti238, ti271, Int.natCast_zero, g]
      · simp only [go_sem, ti3, ti4, ti32, ti39, ti41, ti31, ti96, ti87, ti29, ti22, ti26, ti23, ti202, ti143, ti238, ti271, Int.natCast_zero, g0]
    · subst hk2
      have p := hinc rfl
      refine Wc.reg fun K hK => ?_; simp only [go_sem, ti3, ti4, ti32, ti39, ti41, ti31, ti96, ti87, ti29, ti22, ti26, ti23, ti202, ti143, ti238, ti271, Int.natCast_zero, hF]; refine hK _ _ ?_; clear hK K
      refine Wc.cond (t := true) (by simp only [go_sem, ti3, ti4, ti32, ti39, ti41, ti31, ti96, ti87, ti29, ti22, ti26, ti23, ti202, ti143, ti238, ti271, Int.natCast_zero, hF]) (fun _ => ?_) (fun hc => by cases hc)
      refine Wc.reg fun K hK => ?_; simp only [go_sem, ti3, ti4, ti32, ti39, ti41, ti31, ti96, ti87, ti29, ti22, ti26, ti23, ti202, ti143, ti238, ti271, Int.natCast_zero, hF]
      refine wpCall.pf (p) (by kernel_rfl) (by kernel_rfl) rfl rfl ?_
      simp only [go_sem, ti3, ti4, ti32, ti39, ti41, ti31, ti96, ti87, ti29, ti22, ti26, ti23, ti202, ti143, ti238, ti271, Int.natCast_zero, hF, g]; refine hK _ _ ?_; clear hK K
      refine ⟨rfl, by simp only [Fs, Int.natCast_zero, go_sem, ti3, ti4, ti32, ti39, ti41, ti31, ti96, ti87, ti29, ti22, ti26, ti23, ti202, ti143, ti238, ti271, Int.natCast_zero, hF], ?_, ?_⟩
      · simp only [go_sem, ti3, ti4, ti32, ti39, ti41, ti31, ti96, ti87, ti29, ti22, ti26, ti23, ti202, ti143, ti238, ti271, Int.natCast_zero]
      · simp only [go_sem, ti3, ti4, ti32, ti39, ti41, ti31, ti96, ti87, ti29, ti22, ti26, ti23, ti202, ti143, ti238, ti271, Int.natCast_zero, g0]
  rintro ⟨e, ds, s1⟩ ⟨rfl, hF, g, g0⟩
  simp only [Fs] at hF
  simp only [List.map_cons, List.map_nil] at g g0
  refine Wc.seq ?_
  refine Wc.reg fun K hK => ?_; simp only [go_sem, ti3, ti4, ti32, ti39, ti41, ti31, ti96, ti87, ti29, ti22, ti26, ti23, ti202, ti143, ti238, ti271, Int.natCast_zero, hF, g, g0]; refine hK _ _ ?_; clear hK K
  exact Wc.ret (Pf.ret [.cell 6 41] [.agg ([pI st, pI l.length, pI (sumV l), pI (l.foldl (fun m y => minI m y.2) x.2), pI (l.foldl (fun m y => maxI m y.2) x.2), pI x.2, pI z.2, pI x.1, pI z.1, pI (if k = 2 then incV l else 0)].map .p)] rfl rfl (by simp only [resultsD, go_sem, ti3, ti4, ti32, ti39, ti41, ti31, ti96, ti87, ti29, ti22, ti26, ti23, ti202, ti143, ti238, ti271, Int.natCast_zero, hF]) rfl)
end Go.Proofs.YtedcnhbblgmdnaaGreat.Ab
namespace Go.Proofs.YtedcnhbblgmdnaaGreat.Ab
set_option maxHeartbeats 8000000
set_option maxRecDepth 10000
set_option linter.unusedSimpArgs false
set_option linter.unusedVariables false
/-- The same as trOK, paths looked up first. -/
def trOK3 (ops : Array Oper) : List Tr → Bool
  | [] => true
  | x :: r => (r.all fun y => dirEdge ops y.i x.i || (reach ops 9 y.i x.i || freeOK x y)) && trOK3 ops r
theorem trOK_eq3 (ops : Array Oper) : ∀ l, trOK ops l = trOK3 ops l
  | [] => rfl
  | x :: r => by
    rw [trOK, trOK3, trOK_eq3 ops r]
    congr 2
    funext y
    unfold pairOK hasEdge
    cases dirEdge ops y.i x.i <;> cases freeOK x y <;> cases reach ops 9 y.i x.i <;> rfl
theorem GB.app {b key : Nat} {s : St} {L : List (Nat × D × Nat × List Pd)} {M G : List (Nat × Ob)} {x : C} {l m : List Bkt} {y : D} {K : D → St → Prop} (ho : OA b s L (G ++ M)) (hx : GB x l G) (hkey : b ≤ key) (hn : l.length + m.length < 2^30) (hy : srcD E0 29 s y = some (m.length, m.flatMap Bkt.pd)) (hm : m ≠ [])
    (hk : ∀ x' G' s', OA (key + 1) s' L (G' ++ M) → s'.nx = s.nx → GB x' (l ++ m) G' → K (.v (.c x')) s') : stepK (appendD E0 key [29, 29] (.v (.c x)) y s) K := by
  have hfl : (m.flatMap Bkt.pd).length = m.length * 10 := flat_len (k := 10) (fun _ => rfl) m
  have hm0 : 0 < m.length := List.length_pos_iff.2 hm
  rcases hx with ⟨rfl, rfl, rfl⟩ | ⟨id, rfl, rfl⟩
  · refine OA.appN (by_ := 80) (m := m.length) (ys := m.flatMap Bkt.pd) (L := L) (M := M) ho hkey rfl ⟨_, ti29, rfl⟩ ti41 rfl rfl rfl (by decide) (by decide) hy hfl hm0 (by simp only [List.length_nil] at hn; omega) fun s' hs hnx => ?_
    exact hk _ [(key, .grow 10 m.length (cB m) false)] s' hs hnx (.inr ⟨key, by simp, by simp⟩)
  · refine OA.appG (M1 := []) (M2 := M) (by_ := 80) (n := l.length) (m := m.length) (ys := m.flatMap Bkt.pd) (cs := cB l) (L := L) ho rfl ⟨_, ti29, rfl⟩ ti41 rfl rfl rfl (by decide) (by decide) hy hfl (by omega) fun s' hs hnx => ?_
    refine hk _ [(id, .grow 10 (l.length + m.length) (cB l ++ (m.flatMap Bkt.pd).map .p) false)] s' (hs.mono (by omega)) hnx (.inr ⟨id, by rw [List.length_append], by rw [List.length_append, cB_app]; rfl⟩)
theorem Pf.retG1 {fn : Func} {x : Fr} {xc : C} {l : List Bkt} {G M : List (Nat × Ob)} {L : List (Nat × D × Nat × List Pd)} {b kd : Nat} {lb : List Lb} {k w : Int} (rs : List ResultVar) (hd : x.ds = [kd]) (hm : (kd, Ob.defr) ∈ M) (hrs : fn.results.toList = rs)
    (hr : resultsD E0 x.e (x.s.put kd .dead) rs = some [.agg [.p (.lst lb.length (lb.flatMap lbP)), .p (pI k), .p (pI w), xc]]) (ho : OA b x.s L (G ++ M)) (h : GB xc l G) :
    bodyQ E0 fn (fun d0 s2 => ∃ s3, purD s2 d0 = some (.v (.agg ((Rlp.mk lb k w l).pd.map .p)), s3)) .ret x := by
  obtain ⟨s3, h3⟩ := h.pur (ho.keepG hm (o' := .dead) rfl)
  have hp : ∀ (s : St) (x : Pd), purC s (.p x) = some (x, s) := fun _ _ => rfl
  refine Pf.ret1 rs _ hd (ho.at_ (kd, .defr) (by simp [hm])) hrs hr (s3 := s3) ?_
  simp only [packD, purD, purVs, purV, purCs, hp, h3, List.map_cons, List.map_nil]
theorem OA.rot' {b : Nat} {s : St} {L : List (Nat × D × Nat × List Pd)} {A B M : List (Nat × Ob)} (h : OA b s L (A ++ (B ++ M))) : OA b s L (B ++ (A ++ M)) := by
  rw [← List.append_assoc] at h ⊢
  exact h.rot
theorem OA.setAt {b k : Nat} {s : St} {o o' : Ob} {L : List (Nat × D × Nat × List Pd)} {A B R : List (Nat × Ob)} (h : OA b s L (A ++ (B ++ (k, o) :: R))) (hf : o'.isFront = false) : OA b (s.put k o') L (A ++ (B ++ (k, o') :: R)) := by
  rw [← List.append_assoc] at h ⊢
  exact h.set hf
theorem o91 : E0.opn 91 = false := by kernel_rfl
theorem x91 : E0.xt 91 = none := by kernel_rfl
/-- 43: rollup -/
theorem pf43 (x : Ser) (v : Sv x) (w : Int) (hw : 1 ≤ w ∧ w ≤ 1099511627776) : Pf E0 43 [.agg (x.pd.map .p), .c (.p (pI w))] (.v (.agg ((Rlp.mk x.lb x.k w (ofB x.k w x.sm)).pd.map .p))) := by
  have hvl := v.len
  have hroll : rollB x.k w x.sm = ofB x.k w x.sm := rollB_eq hw.1 v.srt (fun y hy => (v.ok y hy).1.1)
  have hrl : (rollB x.k w x.sm).length ≤ 2000 := by have := ofB_len x.k w x.sm; rw [hroll]; omega
  rw [← hroll]
  generalize hRB : rollB x.k w x.sm = RB at *
  refine Pf.body (fn := Tryz.f43) (by kernel_rfl) rfl ?_; simp only [List.map_cons, List.map_nil, List.cons_append, List.nil_append, List.length_cons, List.length_nil, Tryz.ntmps43, List.replicate, Nat.reduceSub, Nat.reduceAdd]
  refine Wc.seq ?_
  refine Wc.reg fun K hK => ?_; simp only [go_sem, ti3, ti4, ti32, ti39, ti41, ti31, ti96, ti87, ti29, ti22, ti26, ti23, ti202, ti143, ti238, ti271, Int.natCast_zero]; refine hK _ _ ?_; clear hK K
  refine Wc.seq ?_
  refine Wc.reg fun K hK => ?_; simp only [go_sem, ti3, ti4, ti32, ti39, ti41, ti31, ti96, ti87, ti29, ti22, ti26, ti23, ti202, ti143, ti238, ti271, Int.natCast_zero]; refine hK _ _ ?_; clear hK K
  refine Wc.seqR (fun y => ∃ xc G k9, y.ds = [k9] ∧ Fs y.e 31 [(4, .v (.c (.ref 1 0))), (5, .v (.c (.ref 8 0)))] ∧ OA y.s.nx y.s [] (G ++ [(k9, .defr), (8, .cells [.p (.lst x.lb.length (x.lb.flatMap lbP)), .p (pI x.k), .p (pI w), xc] false), (1, .cells [.nils, .p (pI 0), .p (pI 0), .nils] false)]) ∧ GB xc RB G) ?_ ?_
  · refine Wc.seq ?_
    refine Wc.reg fun K hK => ?_; simp only [go_sem, ti3, ti4, ti32, ti39, ti41, ti31, ti96, ti87, ti29, ti22, ti26, ti23, ti202, ti143, ti238, ti271, Int.natCast_zero]
    refine call90 (M := [(8, .cells [.p (.lst x.lb.length (x.lb.flatMap lbP)), .p (pI x.k), .p (pI w), .nils] false), (1, .cells [.nils, .p (pI 0), .p (pI 0), .nils] false), (0, .cells (x.pd.map .p) false)]) (L := []) (by (try simp only [St.nx_put, St.nx_adv]); repeat (first | exact OA.mono s00_oa (by omega) | refine OA.newB ?_ (by omega) rfl | refine OA.putB ?_ (by omega) | refine OA.advB ?_)) fun s2 ho hnx => ?_
    simp only [go_sem, ti3, ti4, ti32, ti39, ti41, ti31, ti96, ti87, ti29, ti22, ti26, ti23, ti202, ti143, ti238, ti271, Int.natCast_zero]; refine hK _ _ ?_; clear hK K
    refine Wc.block ?_
    refine Wc.iter (iter147 (l := x.sm) (w := w) (r := 14) (q := 15) (fr := false) (fq := false) hw (by omega) (fun y hy => (v.ok y hy).1)) (fun i L M => ∃ xc G acc, L = [] ∧ M = G ++ [(15, .cells [.p (pI w)] false), (14, .cells [.p (.lst x.sm.length (x.sm.flatMap p2))] false), (8, .cells [.p (.lst x.lb.length (x.lb.flatMap lbP)), .p (pI x.k), .p (pI w), xc] false), (1, .cells [.nils, .p (pI 0), .p (pI 0), .nils] false), (0, .cells (x.pd.map .p) false)] ∧ GB xc acc G ∧ acc ++ (pieces w (x.sm.drop i)).flatMap (sumP x.k) = RB) (by simp only [go_sem, ti3, ti4, ti32, ti39, ti41, ti31, ti96, ti87, ti29, ti22, ti26, ti23, ti202, ti143, ti238, ti271, Int.natCast_zero]) ho ⟨.nils, [], [], rfl, rfl, .inl ⟨rfl, rfl, rfl⟩, by rw [← hRB]; rfl⟩ ?_ ?_ ?_ ?_
    · rintro i L M s ⟨xc, G, acc, rfl, rfl, hG, hacc⟩ hM
      exact ⟨hM (14, _) (by simp), hM (15, _) (by simp)⟩
    · rintro i k a ⟨st, p, rfl, _⟩; rfl
    · rintro i k aa lp s L M ⟨st, p, rfl, hpne, hpm, hpl, hpc, hps⟩ ⟨xc, G, acc, rfl, rfl, hG, hacc⟩ hos
      obtain ⟨x0, r0, rfl⟩ : ∃ x0 r0, p = x0 :: r0 := by
        cases p with
        | nil => exact absurd rfl hpne
        | cons a b => exact ⟨a, b, rfl⟩
      have p91 := pf91 st x.k x0 r0 v.k (by omega) (v.srt.sublist hps) (fun y hy => v.ok y (hpm y hy))
      rw [hpc, List.flatMap_cons] at hacc
      have hsp : sumP x.k (st, x0 :: r0) = [sumB x.k st x0 r0] := rfl
      rw [hsp, ← List.append_assoc] at hacc
      have hal : acc.length + [sumB x.k st x0 r0].length < 2^30 := by
        have := congrArg List.length hacc
        simp only [List.length_append] at this ⊢
        omega
      generalize sumB x.k st x0 r0 = bk at *
      simp only [setAll, List.zip_cons_cons, List.zip_nil_right]
      refine Wc.seq ?_
      refine Wc.reg fun K hK => ?_; simp only [go_sem, ti3, ti4, ti32, ti39, ti41, ti31, ti96, ti87, ti29, ti22, ti26, ti23, ti202, ti143, ti238, ti271, Int.natCast_zero]; refine hK _ _ ?_; clear hK K
      refine Wc.reg fun K hK => ?_; simp only [go_sem, ti3, ti4, ti32, ti39, ti41, ti31, ti96, ti87, ti29, ti22, ti26, ti23, ti202, ti143, ti238, ti271, Int.natCast_zero]; refine hK _ _ ?_; clear hK K
      refine ⟨rfl, [], G ++ [(15, .cells [.p (pI w)] false), (14, .cells [.p (.lst x.sm.length (x.sm.flatMap p2))] false), (8, .cells [.p (.lst x.lb.length (x.lb.flatMap lbP)), .p (pI x.k), .p (pI w), xc] false), (1, .cells [.nils, .p (pI 0), .p (pI 0), .nils] false), (0, .cells (x.pd.map .p) false)], ?_, fun lq s' hos' => ?_⟩
      · exact by (try simp only [St.nx_put, St.nx_adv]); repeat (first | exact OA.mono hos (by omega) | refine OA.newB ?_ (by omega) rfl | refine OA.putB ?_ (by omega) | refine OA.advB ?_)
      have hos2 : OA s'.nx s' [] (G ++ ((s2.nx, .loop lq) :: (s2.nx + 1, .defr) :: [(15, .cells [.p (pI w)] false), (14, .cells [.p (.lst x.sm.length (x.sm.flatMap p2))] false), (8, .cells [.p (.lst x.lb.length (x.lb.flatMap lbP)), .p (pI x.k), .p (pI w), xc] false), (1, .cells [.nils, .p (pI 0), .p (pI 0), .nils] false), (0, .cells (x.pd.map .p) false)])) := OA.rot (A := [_, _]) (B := G) hos' |> fun h => by simpa using h
      have g8 := hos2.at_ (8, .cells [.p (.lst x.lb.length (x.lb.flatMap lbP)), .p (pI x.k), .p (pI w), xc] false) (by simp)
      have g0 := hos2.at_ (0, .cells (x.pd.map .p) false) (by simp)
      simp only [List.map_cons, List.map_nil] at g0
      refine Wc.block ?_
      refine Wc.regT fun K hK => ?_
      simp only [go_sem, ti3, ti4, ti32, ti39, ti41, ti31, ti96, ti87, ti29, ti22, ti26, ti23, ti202, ti143, ti238, ti271, Int.natCast_zero, g8, g0]
      refine wpCall.pf (p91) (by kernel_rfl) (by kernel_rfl) rfl rfl ?_
      simp only [go_sem, ti3, ti4, ti32, ti39, ti41, ti31, ti96, ti87, ti29, ti22, ti26, ti23, ti202, ti143, ti238, ti271, Int.natCast_zero, g8, g0, o91, x91]
      refine GB.app (m := [bk]) (M := ((s2.nx, .loop lq) :: (s2.nx + 1, .defr) :: [(15, .cells [.p (pI w)] false), (14, .cells [.p (.lst x.sm.length (x.sm.flatMap p2))] false), (8, .cells [.p (.lst x.lb.length (x.lb.flatMap lbP)), .p (pI x.k), .p (pI w), xc] false), (1, .cells [.nils, .p (pI 0), .p (pI 0), .nils] false), (0, .cells (x.pd.map .p) false)])) (G := G) (L := []) ?_ hG (Nat.le_refl _) hal (by simp only [go_sem, ti3, ti4, ti32, ti39, ti41, ti31, ti96, ti87, ti29, ti22, ti26, ti23, ti202, ti143, ti238, ti271, Int.natCast_zero]; rfl) (by simp) fun x' G' s3 hs hnx hG' => ?_
      · exact by (try simp only [St.nx_put, St.nx_adv]); repeat (first | exact OA.mono hos2 (by omega) | refine OA.newB ?_ (by omega) rfl | refine OA.putB ?_ (by omega) | refine OA.advB ?_)
      have g8' := hs.at_ (8, .cells [.p (.lst x.lb.length (x.lb.flatMap lbP)), .p (pI x.k), .p (pI w), xc] false) (by simp)
      simp only [go_sem, ti3, ti4, ti32, ti39, ti41, ti31, ti96, ti87, ti29, ti22, ti26, ti23, ti202, ti143, ti238, ti271, Int.natCast_zero, g8', g0]
      refine ⟨by rw [trOK_eq3]; rfl, hK _ _ ?_⟩
      have hs3 := OA.setAt (A := G') (B := [_, _, _, _]) (R := [_, _]) (o' := .cells [.p (.lst x.lb.length (x.lb.flatMap lbP)), .p (pI x.k), .p (pI w), x'] false) hs rfl
      refine ⟨rfl, [], G' ++ [(15, .cells [.p (pI w)] false), (14, .cells [.p (.lst x.sm.length (x.sm.flatMap p2))] false), (8, .cells [.p (.lst x.lb.length (x.lb.flatMap lbP)), .p (pI x.k), .p (pI w), x'] false), (1, .cells [.nils, .p (pI 0), .p (pI 0), .nils] false), (0, .cells (x.pd.map .p) false)], ?_, x', G', acc ++ [bk], rfl, rfl, hG', hacc⟩
      have hs4 := OA.rot' (A := G') (B := [(s2.nx, .loop lq), (s2.nx + 1, .defr)]) (M := [(15, .cells [.p (pI w)] false), (14, .cells [.p (.lst x.sm.length (x.sm.flatMap p2))] false), (8, .cells [.p (.lst x.lb.length (x.lb.flatMap lbP)), .p (pI x.k), .p (pI w), x'] false), (1, .cells [.nils, .p (pI 0), .p (pI 0), .nils] false), (0, .cells (x.pd.map .p) false)]) hs3
      refine OA.mono hs4 ?_
      simp only [St.nx_put, St.nx_adv] at hnx ⊢
      omega
    · rintro L M s3 hos ⟨xc, G, acc, rfl, rfl, hG, hacc⟩
      rw [List.drop_length] at hacc
      have ha : acc = RB := by rw [← hacc, pieces]; simp
      rw [ha] at hG
      refine ⟨xc, G, s2.nx + 1, rfl, by simp only [Fs, Int.natCast_zero, go_sem, ti3, ti4, ti32, ti39, ti41, ti31, ti96, ti87, ti29, ti22, ti26, ti23, ti202, ti143, ti238, ti271, Int.natCast_zero], ?_, hG⟩
      have h1 := OA.rot (A := [_]) (B := G) (M := [(15, .cells [.p (pI w)] false), (14, .cells [.p (.lst x.sm.length (x.sm.flatMap p2))] false), (8, .cells [.p (.lst x.lb.length (x.lb.flatMap lbP)), .p (pI x.k), .p (pI w), xc] false), (1, .cells [.nils, .p (pI 0), .p (pI 0), .nils] false), (0, .cells (x.pd.map .p) false)]) hos
      refine OA.sub h1 (List.Sublist.refl _) ?_
      rw [List.append_assoc]
      refine List.Sublist.append (List.Sublist.refl _) ?_
      exact (((((List.nil_sublist _).cons_cons _).cons_cons _).cons _).cons _).cons_cons _
  · rintro ⟨e, ds, s1⟩ ⟨xc, G, k9, rfl, hF, ho, hG⟩
    simp only [Fs] at hF ho
    have g8 := ho.at_ (8, .cells [.p (.lst x.lb.length (x.lb.flatMap lbP)), .p (pI x.k), .p (pI w), xc] false) (by simp)
    have g1 := ho.at_ (1, .cells [.nils, .p (pI 0), .p (pI 0), .nils] false) (by simp)
    have g9 := ho.at_ (k9, .defr) (by simp)
    have hd := ho.dism
    rw [List.pairwise_append] at hd
    have hd2 := hd.2.1
    simp only [List.pairwise_cons, List.mem_cons, List.not_mem_nil, or_false] at hd2
    have n1 : (k9 = 1) = False := by have := hd2.1 _ (.inr rfl); simpa using this
    have n1' : (1 = k9) = False := by have := hd2.1 _ (.inr rfl); simp at this ⊢; omega
    refine Wc.seq ?_
    refine Wc.reg fun K hK => ?_; simp only [go_sem, ti3, ti4, ti32, ti39, ti41, ti31, ti96, ti87, ti29, ti22, ti26, ti23, ti202, ti143, ti238, ti271, Int.natCast_zero, hF, g8, g1]; refine hK _ _ ?_; clear hK K
    have h3 : OA s1.nx (s1.put 1 (.cells [.p (.lst x.lb.length (x.lb.flatMap lbP)), .p (pI x.k), .p (pI w), xc] false)) [] (G ++ [(k9, .defr)]) := by
      have h4 : OA s1.nx s1 [] ((G ++ [(k9, .defr), (8, .cells [.p (.lst x.lb.length (x.lb.flatMap lbP)), .p (pI x.k), .p (pI w), xc] false)]) ++ (1, .cells [.nils, .p (pI 0), .p (pI 0), .nils] false) :: []) := by simpa using ho
      refine OA.sub (h4.set (o' := .cells [.p (.lst x.lb.length (x.lb.flatMap lbP)), .p (pI x.k), .p (pI w), xc] false) rfl) (List.Sublist.refl _) ?_
      rw [List.append_assoc]
      exact List.Sublist.append (List.Sublist.refl _) ((List.nil_sublist _).cons_cons _)
    exact Wc.ret (Pf.retG1 [.cell 4 31] rfl (List.mem_singleton.2 rfl) rfl (by simp only [resultsD, go_sem, ti3, ti4, ti32, ti39, ti41, ti31, ti96, ti87, ti29, ti22, ti26, ti23, ti202, ti143, ti238, ti271, Int.natCast_zero, hF, n1, n1']) h3.adv hG)
end Go.Proofs.YtedcnhbblgmdnaaGreat.Ab
namespace Go.Proofs.YtedcnhbblgmdnaaGreat.Ab
set_option maxHeartbeats 8000000
set_option maxRecDepth 10000
set_option linter.unusedSimpArgs false
set_option linter.unusedVariables false
/-- 72: head.validSeries -/
theorem pf72 (x : Ser) (z : x.Sz) : Pf E0 72 [.agg (x.pd.map .p)] (P' (.bool (serOK x))) := by
  have hfl : (x.hs.flatMap HSm.pd).length = x.hs.length * 7 := flat_len (k := 7) (fun _ => rfl) x.hs
  refine Pf.body (fn := Tryz.f72) (by kernel_rfl) rfl ?_; simp only [List.map_cons, List.map_nil, List.cons_append, List.nil_append, List.length_cons, List.length_nil, Tryz.ntmps72, List.replicate, Nat.reduceSub, Nat.reduceAdd]
  refine Wc.seq ?_
  refine Wc.reg fun K hK => ?_; simp only [go_sem, ti3, ti4, ti32, ti39, ti41, ti31, ti29, ti22, ti26, ti23, ti24, ti152, ti150, ti52, Int.natCast_zero]; refine hK _ _ ?_; clear hK K
  refine Wc.seq (Wc.seq ?_)
  refine Wc.reg fun K hK => ?_; simp only [go_sem, ti3, ti4, ti32, ti39, ti41, ti31, ti29, ti22, ti26, ti23, ti24, ti152, ti150, ti52, Int.natCast_zero]
  refine wpCall.pf (pf134 x.lb z.lb z.ls) (by kernel_rfl) (by kernel_rfl) rfl rfl ?_
  simp only [go_sem, ti3, ti4, ti32, ti39, ti41, ti31, ti29, ti22, ti26, ti23, ti24, ti152, ti150, ti52, Int.natCast_zero]; refine hK _ _ ?_; clear hK K
  refine Wc.cond (t := lckA x.lb != 0) (by simp only [go_sem, ti3, ti4, ti32, ti39, ti41, ti31, ti29, ti22, ti26, ti23, ti24, ti152, ti150, ti52, Int.natCast_zero]) (fun hc => ?_) (fun hc => ?_)
  · have h0 : lckA x.lb ≠ 0 := by simpa using hc
    have e : serOK x = false := by unfold serOK; rw [if_pos h0]
    rw [e]
    refine Wc.seq ?_
    refine Wc.reg fun K hK => ?_; simp only [go_sem, ti3, ti4, ti32, ti39, ti41, ti31, ti29, ti22, ti26, ti23, ti24, ti152, ti150, ti52, Int.natCast_zero]; refine hK _ _ ?_; clear hK K
    exact Wc.ret (Pf.ret [.tmp 2] [.c (.p (.bool false))] rfl rfl (by simp only [resultsD, go_sem, ti3, ti4, ti32, ti39, ti41, ti31, ti29, ti22, ti26, ti23, ti24, ti152, ti150, ti52, Int.natCast_zero]) rfl)
  have h0 : ¬ lckA x.lb ≠ 0 := by simpa using hc
  have e0 : serOK x = if x.k = 3 then (x.sm.length == 0) && validH x.hs else (x.hs.length == 0) && (!(x.sm.length == 0) && (sckA x.k x.sm == 0)) := by unfold serOK; rw [if_neg h0]
  rw [e0]
  refine Wc.skip (Wc.seq (Wc.seq ?_))
  refine Wc.reg fun K hK => ?_; simp only [go_sem, ti3, ti4, ti32, ti39, ti41, ti31, ti29, ti22, ti26, ti23, ti24, ti152, ti150, ti52, Int.natCast_zero]; refine hK _ _ ?_; clear hK K
  refine Wc.cond (t := x.k != 3) (by simp only [go_sem, ti3, ti4, ti32, ti39, ti41, ti31, ti29, ti22, ti26, ti23, ti24, ti152, ti150, ti52, Int.natCast_zero]) (fun hc => ?_) (fun hc => ?_)
  · have h3 : ¬ x.k = 3 := by simpa using hc
    rw [if_neg h3]
    refine Wc.seq ?_
    cases hs : (x.hs.length == 0) with
    | false =>
      refine Wc.reg fun K hK => ?_; simp only [go_sem, ti3, ti4, ti32, ti39, ti41, ti31, ti29, ti22, ti26, ti23, ti24, ti152, ti150, ti52, Int.natCast_zero, len_beq, hs]; refine hK _ _ ?_; clear hK K
      exact Wc.ret (Pf.ret [.tmp 2] [.c (.p (.bool false))] rfl rfl (by simp only [resultsD, go_sem, ti3, ti4, ti32, ti39, ti41, ti31, ti29, ti22, ti26, ti23, ti24, ti152, ti150, ti52, Int.natCast_zero]) rfl)
    | true =>
      cases hm : (x.sm.length == 0) with
      | true =>
        refine Wc.reg fun K hK => ?_; simp only [go_sem, ti3, ti4, ti32, ti39, ti41, ti31, ti29, ti22, ti26, ti23, ti24, ti152, ti150, ti52, Int.natCast_zero, len_beq, len_pos, hs, hm]; refine hK _ _ ?_; clear hK K
        exact Wc.ret (Pf.ret [.tmp 2] [.c (.p (.bool false))] rfl rfl (by simp only [resultsD, go_sem, ti3, ti4, ti32, ti39, ti41, ti31, ti29, ti22, ti26, ti23, ti24, ti152, ti150, ti52, Int.natCast_zero]) rfl)
      | false =>
        refine Wc.reg fun K hK => ?_; simp only [go_sem, ti3, ti4, ti32, ti39, ti41, ti31, ti29, ti22, ti26, ti23, ti24, ti152, ti150, ti52, Int.natCast_zero, len_beq, len_pos, hs, hm]
        refine wpCall.pf (pf135 x.k x.sm z.sm) (by kernel_rfl) (by kernel_rfl) rfl rfl ?_
        simp only [go_sem, ti3, ti4, ti32, ti39, ti41, ti31, ti29, ti22, ti26, ti23, ti24, ti152, ti150, ti52, Int.natCast_zero, len_beq, len_pos, hs, hm]; refine hK _ _ ?_; clear hK K
        exact Wc.ret (Pf.ret [.tmp 2] [.c (.p (.bool (sckA x.k x.sm == 0)))] rfl rfl (by simp only [resultsD, go_sem, ti3, ti4, ti32, ti39, ti41, ti31, ti29, ti22, ti26, ti23, ti24, ti152, ti150, ti52, Int.natCast_zero]) rfl)
  have h3 : x.k = 3 := by simpa using hc
  rw [if_pos h3]
  refine Wc.skip (Wc.seqR (fun y => (x.sm.length = 0 ∧ x.hs.length ≠ 0 ∧ x.hs.length ≤ 2000) ∧ y.ds = [] ∧ Fs y.e 72 [(1, .v (.c (.ref 0 0)))] ∧ OA y.s.nx y.s [] [(0, .cells (x.pd.map .p) false)]) ?_ ?_)
  · refine Wc.seq ?_
    cases hm : (x.sm.length == 0) with
    | false =>
      rw [Bool.false_and]
      refine Wc.reg fun K hK => ?_; simp only [go_sem, ti3, ti4, ti32, ti39, ti41, ti31, ti29, ti22, ti26, ti23, ti24, ti152, ti150, ti52, Int.natCast_zero, len_beq, len_pos, hm]; refine hK _ _ ?_; clear hK K
      refine Wc.cond (t := true) (by simp only [go_sem, ti3, ti4, ti32, ti39, ti41, ti31, ti29, ti22, ti26, ti23, ti24, ti152, ti150, ti52, Int.natCast_zero]) (fun _ => ?_) (fun hc => by cases hc)
      refine Wc.seq ?_
      refine Wc.reg fun K hK => ?_; simp only [go_sem, ti3, ti4, ti32, ti39, ti41, ti31, ti29, ti22, ti26, ti23, ti24, ti152, ti150, ti52, Int.natCast_zero]; refine hK _ _ ?_; clear hK K
      exact Wc.ret (Pf.ret [.tmp 2] [.c (.p (.bool false))] rfl rfl (by simp only [resultsD, go_sem, ti3, ti4, ti32, ti39, ti41, ti31, ti29, ti22, ti26, ti23, ti24, ti152, ti150, ti52, Int.natCast_zero]) rfl)
    | true =>
      have y1 : x.sm.length = 0 := by simpa using hm
      cases hs : (x.hs.length == 0) with
      | true =>
        have y2 : x.hs.length = 0 := by simpa using hs
        rw [validH_bad (by omega), Bool.and_false]
        refine Wc.reg fun K hK => ?_; simp only [go_sem, ti3, ti4, ti32, ti39, ti41, ti31, ti29, ti22, ti26, ti23, ti24, ti152, ti150, ti52, Int.natCast_zero, len_beq, len_pos, hm, hs]; refine hK _ _ ?_; clear hK K
        refine Wc.cond (t := true) (by simp only [go_sem, ti3, ti4, ti32, ti39, ti41, ti31, ti29, ti22, ti26, ti23, ti24, ti152, ti150, ti52, Int.natCast_zero]) (fun _ => ?_) (fun hc => by cases hc)
        refine Wc.seq ?_
        refine Wc.reg fun K hK => ?_; simp only [go_sem, ti3, ti4, ti32, ti39, ti41, ti31, ti29, ti22, ti26, ti23, ti24, ti152, ti150, ti52, Int.natCast_zero]; refine hK _ _ ?_; clear hK K
        exact Wc.ret (Pf.ret [.tmp 2] [.c (.p (.bool false))] rfl rfl (by simp only [resultsD, go_sem, ti3, ti4, ti32, ti39, ti41, ti31, ti29, ti22, ti26, ti23, ti24, ti152, ti150, ti52, Int.natCast_zero]) rfl)
      | false =>
        have y2 : x.hs.length ≠ 0 := by rw [beq_eq_false_iff_ne] at hs; exact hs
        refine Wc.reg fun K hK => ?_; simp only [go_sem, ti3, ti4, ti32, ti39, ti41, ti31, ti29, ti22, ti26, ti23, ti24, ti152, ti150, ti52, Int.natCast_zero, len_beq, len_pos, hm, hs]; refine hK _ _ ?_; clear hK K
        refine Wc.cond (t := decide ((2000 : Int) < x.hs.length)) (by simp only [go_sem, ti3, ti4, ti32, ti39, ti41, ti31, ti29, ti22, ti26, ti23, ti24, ti152, ti150, ti52, Int.natCast_zero]) (fun hc => ?_) (fun hc => ?_)
        · have y3 : (2000 : Int) < x.hs.length := of_decide_eq_true hc
          rw [validH_bad (by omega), Bool.and_false]
          refine Wc.seq ?_
          refine Wc.reg fun K hK => ?_; simp only [go_sem, ti3, ti4, ti32, ti39, ti41, ti31, ti29, ti22, ti26, ti23, ti24, ti152, ti150, ti52, Int.natCast_zero]; refine hK _ _ ?_; clear hK K
          exact Wc.ret (Pf.ret [.tmp 2] [.c (.p (.bool false))] rfl rfl (by simp only [resultsD, go_sem, ti3, ti4, ti32, ti39, ti41, ti31, ti29, ti22, ti26, ti23, ti24, ti152, ti150, ti52, Int.natCast_zero]) rfl)
        · have y3 : ¬ (2000 : Int) < x.hs.length := of_decide_eq_false hc
          exact Wc.skip ⟨by omega, rfl, by simp only [Fs, Int.natCast_zero, go_sem, ti3, ti4, ti32, ti39, ti41, ti31, ti29, ti22, ti26, ti23, ti24, ti152, ti150, ti52, Int.natCast_zero], by (try simp only [St.nx_put, St.nx_adv]); repeat (first | exact OA.mono s00_oa (by omega) | refine OA.newB ?_ (by omega) rfl | refine OA.advB ?_)⟩
  rintro ⟨e, ds, s1⟩ ⟨⟨z1, z2, z3⟩, rfl, hF, ho⟩
  simp only [Fs] at hF ho
  have g0 := ho.at_ (0, .cells (x.pd.map .p) false) (by simp)
  simp only [List.map_cons, List.map_nil] at g0
  have e1 : ((x.sm.length == 0) && validH x.hs) = vh (prevH x.hs 0) (x.hs.drop 0) := by
    unfold validH
    have b1 : (x.hs.length == 0) = false := by rw [beq_eq_false_iff_ne]; exact z2
    have b2 : (x.sm.length == 0) = true := by simpa using z1
    rw [b1, b2, decide_eq_true z3]; rfl
  rw [e1]
  have eP : vh (prevH x.hs 0) (x.hs.drop 0) = vh (prevH x.hs 0) (x.hs.drop 0) := rfl
  generalize hV : vh (prevH x.hs 0) (x.hs.drop 0) = VV at eP ⊢
  refine Wc.seq ?_
  refine Wc.reg fun K hK => ?_; simp only [go_sem, ti3, ti4, ti32, ti39, ti41, ti31, ti29, ti22, ti26, ti23, ti24, ti152, ti150, ti52, Int.natCast_zero, hF]; refine hK _ _ ?_; clear hK K
  refine Wc.seqR (fun y => VV = true ∧ y.ds = [] ∧ Fs y.e 72 []) ?_ ?_
  · refine Wc.seq ?_
    refine Wc.reg fun K hK => ?_; simp only [go_sem, ti3, ti4, ti32, ti39, ti41, ti31, ti29, ti22, ti26, ti23, ti24, ti152, ti150, ti52, Int.natCast_zero, hF, g0]; refine hK _ _ ?_; clear hK K
    refine Wc.block (Wc.loop (fun k y => ∃ i : Nat, k = x.hs.length - i ∧ i ≤ x.hs.length ∧ y.ds = [] ∧ Fs y.e 72 [(3, P' (pI (prevH x.hs i))), (48, P' (.lst x.hs.length (x.hs.flatMap HSm.pd))), (49, P' (pI x.hs.length)), (50, P' (pI i))] ∧ VV = vh (prevH x.hs i) (x.hs.drop i)) ?_ (k := x.hs.length) ?_)
    · clear hF ho g0 e s1
      rintro k ⟨e, ds, s1⟩ ⟨i, rfl, hi, rfl, hF, hch⟩
      simp only [Fs] at hF
      refine Wc.seq ?_
      refine Wc.reg fun K hK => ?_; simp only [go_sem, ti3, ti4, ti32, ti39, ti41, ti31, ti29, ti22, ti26, ti23, ti24, ti152, ti150, ti52, Int.natCast_zero, hF]; refine hK _ _ ?_; clear hK K
      refine Wc.seq ?_
      refine Wc.cond (t := decide ((i : Int) < x.hs.length)) (by simp only [go_sem, ti3, ti4, ti32, ti39, ti41, ti31, ti29, ti22, ti26, ti23, ti24, ti152, ti150, ti52, Int.natCast_zero, hF]) (fun hc => ?_) (fun hc => ?_)
      · have hil : i < x.hs.length := by have := of_decide_eq_true hc; omega
        obtain ⟨u, hu⟩ : ∃ u, x.hs[i]? = some u := ⟨x.hs[i], List.getElem?_eq_getElem hil⟩
        have hix := ixA ti24 rfl ti152 (j := i) (m := x.hs.length) (cs := x.hs.flatMap HSm.pd) hil hfl (by decide)
        have hca := rpA (off := i * 7) (drop_flat (f := HSm.pd) (k := 7) (fun _ => rfl) hu) (by rw [hfl]; omega)
        rw [vh_step hu] at hch
        have bad : (u.t ≤ prevH x.hs i ∨ 1099511627776 < u.t ∨ hck u.h ≠ 0) → VV = false := fun h => by rw [hch, if_pos h]
        refine Wc.skip (Wc.seq (Wc.block (Wc.seq ?_)))
        refine Wc.reg fun K hK => ?_; simp only [go_sem, ti3, ti4, ti32, ti39, ti41, ti31, ti29, ti22, ti26, ti23, ti24, ti152, ti150, ti52, Int.natCast_zero, hF, hix, hca]; refine hK _ _ ?_; clear hK K
        refine Wc.seqR (fun y => ¬ (u.t ≤ prevH x.hs i ∨ 1099511627776 < u.t ∨ hck u.h ≠ 0) ∧ y.ds = [] ∧ Fs y.e 72 [(5, .v (.c (.ref (s1.nx + 3) 0))), (48, P' (.lst x.hs.length (x.hs.flatMap HSm.pd))), (49, P' (pI x.hs.length)), (50, P' (pI i))] ∧ y.s.get (s1.nx + 3) = some (.cells (u.pd.map .p) false)) ?_ ?_
        · refine Wc.seq ?_
          by_cases y1 : u.t ≤ prevH x.hs i
          · refine Wc.reg fun K hK => ?_; simp only [go_sem, ti3, ti4, ti32, ti39, ti41, ti31, ti29, ti22, ti26, ti23, ti24, ti152, ti150, ti52, Int.natCast_zero, hF, y1]; refine hK _ _ ?_; clear hK K
            refine Wc.cond (t := true) (by simp only [go_sem, ti3, ti4, ti32, ti39, ti41, ti31, ti29, ti22, ti26, ti23, ti24, ti152, ti150, ti52, Int.natCast_zero, hF]) (fun _ => ?_) (fun hc => by cases hc)
            refine Wc.seq ?_
            refine Wc.reg fun K hK => ?_; simp only [go_sem, ti3, ti4, ti32, ti39, ti41, ti31, ti29, ti22, ti26, ti23, ti24, ti152, ti150, ti52, Int.natCast_zero, hF]; refine hK _ _ ?_; clear hK K
            rw [bad (.inl y1)]
            exact Wc.ret (Pf.ret [.tmp 2] [.c (.p (.bool false))] rfl rfl (by simp only [resultsD, go_sem, ti3, ti4, ti32, ti39, ti41, ti31, ti29, ti22, ti26, ti23, ti24, ti152, ti150, ti52, Int.natCast_zero, hF]) rfl)
          by_cases y2 : 1099511627776 < u.t
          · refine Wc.reg fun K hK => ?_; simp only [go_sem, ti3, ti4, ti32, ti39, ti41, ti31, ti29, ti22, ti26, ti23, ti24, ti152, ti150, ti52, Int.natCast_zero, hF, y1, y2]; refine hK _ _ ?_; clear hK K
            refine Wc.cond (t := true) (by simp only [go_sem, ti3, ti4, ti32, ti39, ti41, ti31, ti29, ti22, ti26, ti23, ti24, ti152, ti150, ti52, Int.natCast_zero, hF]) (fun _ => ?_) (fun hc => by cases hc)
            refine Wc.seq ?_
            refine Wc.reg fun K hK => ?_; simp only [go_sem, ti3, ti4, ti32, ti39, ti41, ti31, ti29, ti22, ti26, ti23, ti24, ti152, ti150, ti52, Int.natCast_zero, hF]; refine hK _ _ ?_; clear hK K
            rw [bad (.inr (.inl y2))]
            exact Wc.ret (Pf.ret [.tmp 2] [.c (.p (.bool false))] rfl rfl (by simp only [resultsD, go_sem, ti3, ti4, ti32, ti39, ti41, ti31, ti29, ti22, ti26, ti23, ti24, ti152, ti150, ti52, Int.natCast_zero, hF]) rfl)
          refine Wc.reg fun K hK => ?_; simp only [go_sem, ti3, ti4, ti32, ti39, ti41, ti31, ti29, ti22, ti26, ti23, ti24, ti152, ti150, ti52, Int.natCast_zero, hF, y1, y2]
          refine wpCall.pf (pf136 u.h (z.hb u (List.mem_of_getElem? hu))) (by kernel_rfl) (by kernel_rfl) rfl rfl ?_
          simp only [go_sem, ti3, ti4, ti32, ti39, ti41, ti31, ti29, ti22, ti26, ti23, ti24, ti152, ti150, ti52, Int.natCast_zero, hF, y1, y2]; refine hK _ _ ?_; clear hK K
          refine Wc.cond (t := hck u.h != 0) (by simp only [go_sem, ti3, ti4, ti32, ti39, ti41, ti31, ti29, ti22, ti26, ti23, ti24, ti152, ti150, ti52, Int.natCast_zero, hF]) (fun hc => ?_) (fun hc => ?_)
          · refine Wc.seq ?_
            refine Wc.reg fun K hK => ?_; simp only [go_sem, ti3, ti4, ti32, ti39, ti41, ti31, ti29, ti22, ti26, ti23, ti24, ti152, ti150, ti52, Int.natCast_zero, hF]; refine hK _ _ ?_; clear hK K
            rw [bad (.inr (.inr (by simpa using hc)))]
            exact Wc.ret (Pf.ret [.tmp 2] [.c (.p (.bool false))] rfl rfl (by simp only [resultsD, go_sem, ti3, ti4, ti32, ti39, ti41, ti31, ti29, ti22, ti26, ti23, ti24, ti152, ti150, ti52, Int.natCast_zero, hF]) rfl)
          · have y3 : hck u.h = 0 := by simpa using hc
            exact Wc.skip ⟨by omega, rfl, by simp only [Fs, Int.natCast_zero, go_sem, ti3, ti4, ti32, ti39, ti41, ti31, ti29, ti22, ti26, ti23, ti24, ti152, ti150, ti52, Int.natCast_zero, hF], by simp only [go_sem, ti3, ti4, ti32, ti39, ti41, ti31, ti29, ti22, ti26, ti23, ti24, ti152, ti150, ti52, Int.natCast_zero]⟩
        clear hF hc
        rintro ⟨e, ds, s2⟩ ⟨hz, rfl, hF, g5⟩
        simp only [Fs] at hF
        simp only [List.map_cons, List.map_nil] at g5
        rw [if_neg hz] at hch
        have hpb : prevH x.hs (i + 1) = u.t := by simp [prevH, hu]
        refine Wc.reg fun K hK => ?_; simp only [go_sem, ti3, ti4, ti32, ti39, ti41, ti31, ti29, ti22, ti26, ti23, ti24, ti152, ti150, ti52, Int.natCast_zero, hF, g5]; refine hK _ _ ?_; clear hK K
        refine Wc.reg fun K hK => ?_; simp only [go_sem, ti3, ti4, ti32, ti39, ti41, ti31, ti29, ti22, ti26, ti23, ti24, ti152, ti150, ti52, Int.natCast_zero, hF, i64n i (by omega)]; refine hK _ _ ?_; clear hK K
        exact ⟨x.hs.length - (i + 1), by omega, i + 1, rfl, by omega, rfl, by simp only [Fs, Int.natCast_zero, go_sem, ti3, ti4, ti32, ti39, ti41, ti31, ti29, ti22, ti26, ti23, ti24, ti152, ti150, ti52, Int.natCast_zero, hF, hpb], hch⟩
      · have hil : i = x.hs.length := by have := of_decide_eq_false hc; omega
        rw [hil, List.drop_length] at hch
        exact Wc.exit ⟨hch, rfl, by simp only [Fs, Int.natCast_zero, go_sem, ti3, ti4, ti32, ti39, ti41, ti31, ti29, ti22, ti26, ti23, ti24, ti152, ti150, ti52, Int.natCast_zero, hF]⟩
    · exact ⟨0, rfl, by omega, rfl, by simp only [Fs, Int.natCast_zero, go_sem, ti3, ti4, ti32, ti39, ti41, ti31, ti29, ti22, ti26, ti23, ti24, ti152, ti150, ti52, Int.natCast_zero, hF, show prevH x.hs 0 = 0 from rfl], hV.symm⟩
  · rintro ⟨e, ds, s1⟩ ⟨hch, rfl, hF⟩
    simp only [Fs] at hF
    rw [hch]
    refine Wc.seq ?_
    refine Wc.reg fun K hK => ?_; simp only [go_sem, ti3, ti4, ti32, ti39, ti41, ti31, ti29, ti22, ti26, ti23, ti24, ti152, ti150, ti52, Int.natCast_zero, hF]; refine hK _ _ ?_; clear hK K
    exact Wc.ret (Pf.ret [.tmp 2] [.c (.p (.bool true))] rfl rfl (by simp only [resultsD, go_sem, ti3, ti4, ti32, ti39, ti41, ti31, ti29, ti22, ti26, ti23, ti24, ti152, ti150, ti52, Int.natCast_zero, hF]) rfl)
end Go.Proofs.YtedcnhbblgmdnaaGreat.Ab
