/- A part of the proof: an evaluator of the code, its contracts, the law. No condition. -/
import Derived.Test.YtedcnhbblgmdnaaGreatT28
namespace Go.Proofs.YtedcnhbblgmdnaaGreat.Ab
set_option maxHeartbeats 8000000
set_option maxRecDepth 10000
set_option linter.unusedSimpArgs false
set_option linter.unusedVariables false
theorem fB (l : List Bkt) : (l.flatMap Bkt.pd).length = l.length * 10 := flat_len (k := 10) (fun _ => rfl) _
theorem dfB (l : List Bkt) (j : Nat) : ((l.flatMap Bkt.pd).drop (j * 10)).take ((l.length - j) * 10) = (l.drop j).flatMap Bkt.pd := by
  rw [drop_flats (k := 10) (fun _ => rfl), List.take_of_length_le (by rw [fB, List.length_drop]; exact Nat.le_refl _)]
theorem rpB0 {l : List Bkt} {i : Nat} {c : Bkt} (h : l[i]? = some c) (s : St) : cellsAt s (.v (.c (.rp (l.flatMap Bkt.pd) (i * 10)))) = some ((c.pd ++ (l.drop (i + 1)).flatMap Bkt.pd).map .p) := by
  have hf := fB l
  have hi := (List.getElem?_eq_some_iff.1 h).1
  exact rpA (off := i * 10) (drop_flat (f := Bkt.pd) (k := 10) (fun _ => rfl) h) (by omega) s
/-- Appended to a slice that is an object of the state. -/
theorem GB.appG {b key id : Nat} {s : St} {L : List (Nat × D × Nat × List Pd)} {M : List (Nat × Ob)} {l m : List Bkt} {y : D} {K : D → St → Prop} (ho : OA b s L ((id, .grow 10 l.length (cB l) false) :: M)) (hn : l.length + m.length < 2^30) (hy : srcD E0 29 s y = some (m.length, m.flatMap Bkt.pd))
    (hk : ∀ s', OA b s' L ((id, .grow 10 (l ++ m).length (cB (l ++ m)) false) :: M) → s'.nx = s.nx → K (.v (.c (.gs (l ++ m).length id 0 (l ++ m).length 10))) s') : stepK (appendD E0 key [29, 29] (.v (.c (.gs l.length id 0 l.length 10))) y s) K := by
  have hfl : (m.flatMap Bkt.pd).length = m.length * 10 := flat_len (k := 10) (fun _ => rfl) m
  refine OA.appG (M1 := []) (M2 := M) (by_ := 80) (n := l.length) (m := m.length) (ys := m.flatMap Bkt.pd) (cs := cB l) (L := L) ho rfl ⟨_, ti29, rfl⟩ ti41 rfl rfl rfl (by decide) (by decide) hy hfl (by omega) fun s' hs hnx => ?_
  simp only [List.length_append, cB_app] at hk
  exact hk s' hs hnx
/-- What put answers. -/
def resP (R : Option (List Bkt)) (l : List Bkt) : D := match R with
  | some z => .tup [.c (.p (.lst z.length (z.flatMap Bkt.pd))), .c (.p (.bool true))]
  | none => .tup [.c (.p (.lst l.length (l.flatMap Bkt.pd))), .c (.p (.bool false))]
end Go.Proofs.YtedcnhbblgmdnaaGreat.Ab
namespace Go.Proofs.YtedcnhbblgmdnaaGreat.Ab
set_option maxHeartbeats 8000000
set_option maxRecDepth 10000
set_option linter.unusedSimpArgs false
set_option linter.unusedVariables false
def meP (x u : Rlp) (z : List Bkt) : Rlp := ⟨x.lb, x.k, x.w, z⟩
def meO (x u : Rlp) : Option (List Bkt) → Int
  | none => 16
  | some z => if limB (meP x u z) then 4 else 0
/-- Merged rollups: the answer's number, the rollup. -/
def meC (x u : Rlp) : Int := if rlpOK x = false ∨ rlpOK u = false then 1 else if cmpL x.lb u.lb ≠ 0 ∨ x.k ≠ u.k ∨ x.w ≠ u.w then 10 else meO x u (putsB x.k x.bs u.bs)
def meR (x u : Rlp) : Rlp := if meC x u = 0 then (match putsB x.k x.bs u.bs with
  | none => zR
  | some z => meP x u z) else zR
theorem b00 : ((0 : Int) != 0) = false := rfl
end Go.Proofs.YtedcnhbblgmdnaaGreat.Ab
namespace Go.Proofs.YtedcnhbblgmdnaaGreat.Ab
set_option maxHeartbeats 8000000
set_option maxRecDepth 10000
set_option linter.unusedSimpArgs false
set_option linter.unusedVariables false
theorem GB.appA {b key : Nat} {s : St} {L : List (Nat × D × Nat × List Pd)} {M G : List (Nat × Ob)} {x : C} {l m : List Bkt} {y : D} {K : D → St → Prop} (ho : OA b s L (G ++ M)) (hx : GB x l G) (hkey : b ≤ key) (hn : l.length + m.length < 2^30) (hy : srcD E0 29 s y = some (m.length, m.flatMap Bkt.pd))
    (hk : ∀ x' G' s', OA (key + 1) s' L (G' ++ M) → s'.nx = s.nx → GB x' (l ++ m) G' → K (.v (.c x')) s') : stepK (appendD E0 key [29, 29] (.v (.c x)) y s) K := by
  by_cases hm : m = []
  · subst hm
    have e : appendD E0 key [29, 29] (.v (.c x)) y s = some (.v (.c x), s) := by
      rcases hx with ⟨rfl, rfl, rfl⟩ | ⟨id, rfl, rfl⟩
      · unfold appendD; simp only [ti29, ti41, hy, List.length_nil, List.flatMap_nil, Nat.zero_mul, if_true]
      · have hg : E0.gt 29 = true := rfl
        unfold appendD; simp only [ti29, ti41, hy, hg, List.length_nil, List.flatMap_nil, Nat.zero_mul, if_true]
    rw [e]
    have := hk x G s (ho.mono (by omega)) rfl (by rw [List.append_nil]; exact hx)
    exact this
  · exact GB.app ho hx hkey hn hy hm hk
theorem map_app {a : Bkt} {acc : List Bkt} (M : Option (List Bkt)) : (M.map (a :: ·)).map (acc ++ ·) = M.map ((acc ++ [a]) ++ ·) := by
  cases M with
  | none => rfl
  | some z => simp
theorem mergeB_lt {k : Int} {a b : Bkt} {P Q : List Bkt} {acc : List Bkt} (h : a.st < b.st) : (mergeB k (a :: P) (b :: Q)).map (acc ++ ·) = (mergeB k P (b :: Q)).map ((acc ++ [a]) ++ ·) := by
  rw [mergeB, if_pos h, map_app]
theorem mergeB_gt {k : Int} {a b : Bkt} {P Q : List Bkt} {acc : List Bkt} (h : ¬ a.st < b.st) (h2 : b.st < a.st) : (mergeB k (a :: P) (b :: Q)).map (acc ++ ·) = (mergeB k (a :: P) Q).map ((acc ++ [b]) ++ ·) := by
  rw [mergeB, if_neg h, if_pos h2, map_app]
theorem mergeB_eq {k : Int} {a b : Bkt} {P Q : List Bkt} {acc : List Bkt} (h : ¬ a.st < b.st) (h2 : ¬ b.st < a.st) : (mergeB k (a :: P) (b :: Q)).map (acc ++ ·) = match meetB k a b with
    | none => none
    | some c => (mergeB k P Q).map ((acc ++ [c]) ++ ·) := by
  rw [mergeB, if_neg h, if_neg h2]
  cases meetB k a b with
  | none => rfl
  | some c => rw [map_app]
theorem take1 (a : Bkt) (P : List Bkt) {N : Nat} {CS : List Pd} (hN : (a :: P).length = N) (hCS : (a :: P).flatMap Bkt.pd = CS) : N - 1 = P.length ∧ (CS.drop 10).take (P.length * 10) = P.flatMap Bkt.pd := by
  have h1 : N - 1 = P.length := by rw [← hN]; rfl
  refine ⟨h1, ?_⟩
  rw [← hCS]
  exact dfB (a :: P) 1
/-- 21: Merge -/
theorem pf21 (x u : Rlp) (zx : Rz x) (zu : Rz u) : Pf E0 21 [.agg (x.pd.map .p), .agg (u.pd.map .p)] (resR (meR x u) (meC x u)) := by
  have hfx : (x.bs.flatMap Bkt.pd).length = x.bs.length * 10 := fB _
  have hfu : (u.bs.flatMap Bkt.pd).length = u.bs.length * 10 := fB _
  have hxl := zx.lb
  have hul := zu.lb
  have px := pf19 x zx.lb zx.ls
  have pu := pf19 u zu.lb zu.ls
  have pl := pf52 x.lb u.lb (by omega) (by omega)
  unfold chkR at px pu
  refine Pf.body (fn := Tryz.f21) (by kernel_rfl) rfl ?_; simp only [List.map_cons, List.map_nil, List.cons_append, List.nil_append, List.length_cons, List.length_nil, Tryz.ntmps21, List.replicate, Nat.reduceSub, Nat.reduceAdd]
  refine Wc.seq ?_
  refine Wc.reg fun K hK => ?_; simp only [go_sem, ti3, ti4, ti5, ti32, ti39, ti41, ti31, ti96, ti87, ti29, ti22, ti26, ti23, Int.natCast_zero]; refine hK _ _ ?_; clear hK K
  refine Wc.seq (Wc.seq ?_)
  cases hok : rlpOK x with
  | false =>
    have e : meC x u = 1 := by unfold meC; rw [if_pos (.inl hok)]
    rw [hok] at px
    rw [meR, e]
    refine Wc.reg fun K hK => ?_; simp only [go_sem, ti3, ti4, ti5, ti32, ti39, ti41, ti31, ti96, ti87, ti29, ti22, ti26, ti23, Int.natCast_zero]
    refine wpCall.pf (px) (by kernel_rfl) (by kernel_rfl) rfl rfl ?_
    simp only [go_sem, ti3, ti4, ti5, ti32, ti39, ti41, ti31, ti96, ti87, ti29, ti22, ti26, ti23, Int.natCast_zero, b10]; refine hK _ _ ?_; clear hK K
    refine Wc.cond (t := true) (by simp only [go_sem, ti3, ti4, ti5, ti32, ti39, ti41, ti31, ti96, ti87, ti29, ti22, ti26, ti23, Int.natCast_zero, b10]) (fun _ => ?_) (fun hc => by cases hc)
    refine Wc.seq ?_
    refine Wc.reg fun K hK => ?_; simp only [go_sem, ti3, ti4, ti5, ti32, ti39, ti41, ti31, ti96, ti87, ti29, ti22, ti26, ti23, Int.natCast_zero]; refine hK _ _ ?_; clear hK K
    exact Wc.ret (Pf.ret [.cell 4 31, .tmp 5] [.agg [.nils, .p (pI 0), .p (pI 0), .nils], .c (.p (pI 1))] rfl rfl (by simp only [resultsD, go_sem, ti3, ti4, ti5, ti32, ti39, ti41, ti31, ti96, ti87, ti29, ti22, ti26, ti23, Int.natCast_zero]) rfl)
  | true =>
  rw [hok] at px
  cases hoku : rlpOK u with
  | false =>
    have e : meC x u = 1 := by unfold meC; rw [if_pos (.inr hoku)]
    rw [hoku] at pu
    rw [meR, e]
    refine Wc.reg fun K hK => ?_; simp only [go_sem, ti3, ti4, ti5, ti32, ti39, ti41, ti31, ti96, ti87, ti29, ti22, ti26, ti23, Int.natCast_zero]
    refine wpCall.pf (px) (by kernel_rfl) (by kernel_rfl) rfl rfl ?_
    simp only [go_sem, ti3, ti4, ti5, ti32, ti39, ti41, ti31, ti96, ti87, ti29, ti22, ti26, ti23, Int.natCast_zero, if_true, b00]
    refine wpCall.pf (pu) (by kernel_rfl) (by kernel_rfl) rfl rfl ?_
    simp only [go_sem, ti3, ti4, ti5, ti32, ti39, ti41, ti31, ti96, ti87, ti29, ti22, ti26, ti23, Int.natCast_zero, b10]; refine hK _ _ ?_; clear hK K
    refine Wc.cond (t := true) (by simp only [go_sem, ti3, ti4, ti5, ti32, ti39, ti41, ti31, ti96, ti87, ti29, ti22, ti26, ti23, Int.natCast_zero, b10]) (fun _ => ?_) (fun hc => by cases hc)
    refine Wc.seq ?_
    refine Wc.reg fun K hK => ?_; simp only [go_sem, ti3, ti4, ti5, ti32, ti39, ti41, ti31, ti96, ti87, ti29, ti22, ti26, ti23, Int.natCast_zero]; refine hK _ _ ?_; clear hK K
    exact Wc.ret (Pf.ret [.cell 4 31, .tmp 5] [.agg [.nils, .p (pI 0), .p (pI 0), .nils], .c (.p (pI 1))] rfl rfl (by simp only [resultsD, go_sem, ti3, ti4, ti5, ti32, ti39, ti41, ti31, ti96, ti87, ti29, ti22, ti26, ti23, Int.natCast_zero]) rfl)
  | true =>
  rw [hoku] at pu
  have hx := rlpOK_v hok
  have hu := rlpOK_v hoku
  have hmp := mergeB_puts x.k _ x.bs u.bs (Nat.le_refl _) hx.asc hu.asc (fun b hb => (hx.vb b hb).t3) (fun b hb => (hu.vb b hb).t3)
  have e9 : meC x u = if cmpL x.lb u.lb ≠ 0 ∨ x.k ≠ u.k ∨ x.w ≠ u.w then 10 else meO x u (putsB x.k x.bs u.bs) := by unfold meC; rw [if_neg (by simp [hok, hoku])]
  refine Wc.reg fun K hK => ?_; simp only [go_sem, ti3, ti4, ti5, ti32, ti39, ti41, ti31, ti96, ti87, ti29, ti22, ti26, ti23, Int.natCast_zero]
  refine wpCall.pf (px) (by kernel_rfl) (by kernel_rfl) rfl rfl ?_
  simp only [go_sem, ti3, ti4, ti5, ti32, ti39, ti41, ti31, ti96, ti87, ti29, ti22, ti26, ti23, Int.natCast_zero, if_true, b00]
  refine wpCall.pf (pu) (by kernel_rfl) (by kernel_rfl) rfl rfl ?_
  simp only [go_sem, ti3, ti4, ti5, ti32, ti39, ti41, ti31, ti96, ti87, ti29, ti22, ti26, ti23, Int.natCast_zero, if_true, b00]; refine hK _ _ ?_; clear hK K
  refine Wc.cond (t := false) (by simp only [go_sem, ti3, ti4, ti5, ti32, ti39, ti41, ti31, ti96, ti87, ti29, ti22, ti26, ti23, Int.natCast_zero, b00]) (fun hc => by cases hc) (fun _ => Wc.skip ?_)
  refine Wc.seq (Wc.seq ?_)
  by_cases m1 : cmpL x.lb u.lb = 0
  case neg =>
    have e : meC x u = 10 := by rw [e9, if_pos (.inl m1)]
    have h1 : (cmpL x.lb u.lb != 0) = true := by simpa using m1
    rw [meR, e]
    refine Wc.reg fun K hK => ?_; simp only [go_sem, ti3, ti4, ti5, ti32, ti39, ti41, ti31, ti96, ti87, ti29, ti22, ti26, ti23, Int.natCast_zero]
    refine wpCall.pf (pl) (by kernel_rfl) (by kernel_rfl) rfl rfl ?_
    simp only [go_sem, ti3, ti4, ti5, ti32, ti39, ti41, ti31, ti96, ti87, ti29, ti22, ti26, ti23, Int.natCast_zero, h1]; refine hK _ _ ?_; clear hK K
    refine Wc.cond (t := true) (by simp only [go_sem, ti3, ti4, ti5, ti32, ti39, ti41, ti31, ti96, ti87, ti29, ti22, ti26, ti23, Int.natCast_zero, h1]) (fun _ => ?_) (fun hc => by cases hc)
    refine Wc.seq ?_
    refine Wc.reg fun K hK => ?_; simp only [go_sem, ti3, ti4, ti5, ti32, ti39, ti41, ti31, ti96, ti87, ti29, ti22, ti26, ti23, Int.natCast_zero]; refine hK _ _ ?_; clear hK K
    exact Wc.ret (Pf.ret [.cell 4 31, .tmp 5] [.agg [.nils, .p (pI 0), .p (pI 0), .nils], .c (.p (pI 10))] rfl rfl (by simp only [resultsD, go_sem, ti3, ti4, ti5, ti32, ti39, ti41, ti31, ti96, ti87, ti29, ti22, ti26, ti23, Int.natCast_zero]) rfl)
  rw [m1] at pl
  by_cases m2 : x.k = u.k
  case neg =>
    have e : meC x u = 10 := by rw [e9, if_pos (.inr (.inl m2))]
    have h2 : (x.k != u.k) = true := by simpa using m2
    rw [meR, e]
    refine Wc.reg fun K hK => ?_; simp only [go_sem, ti3, ti4, ti5, ti32, ti39, ti41, ti31, ti96, ti87, ti29, ti22, ti26, ti23, Int.natCast_zero]
    refine wpCall.pf (pl) (by kernel_rfl) (by kernel_rfl) rfl rfl ?_
    simp only [go_sem, ti3, ti4, ti5, ti32, ti39, ti41, ti31, ti96, ti87, ti29, ti22, ti26, ti23, Int.natCast_zero, b00, h2]; refine hK _ _ ?_; clear hK K
    refine Wc.cond (t := true) (by simp only [go_sem, ti3, ti4, ti5, ti32, ti39, ti41, ti31, ti96, ti87, ti29, ti22, ti26, ti23, Int.natCast_zero, b00, h2]) (fun _ => ?_) (fun hc => by cases hc)
    refine Wc.seq ?_
    refine Wc.reg fun K hK => ?_; simp only [go_sem, ti3, ti4, ti5, ti32, ti39, ti41, ti31, ti96, ti87, ti29, ti22, ti26, ti23, Int.natCast_zero]; refine hK _ _ ?_; clear hK K
    exact Wc.ret (Pf.ret [.cell 4 31, .tmp 5] [.agg [.nils, .p (pI 0), .p (pI 0), .nils], .c (.p (pI 10))] rfl rfl (by simp only [resultsD, go_sem, ti3, ti4, ti5, ti32, ti39, ti41, ti31, ti96, ti87, ti29, ti22, ti26, ti23, Int.natCast_zero]) rfl)
  have h2 : (x.k != u.k) = false := by simpa using m2
  by_cases m3 : x.w = u.w
  case neg =>
    have e : meC x u = 10 := by rw [e9, if_pos (.inr (.inr m3))]
    have h3 : (x.w != u.w) = true := by simpa using m3
    rw [meR, e]
    refine Wc.reg fun K hK => ?_; simp only [go_sem, ti3, ti4, ti5, ti32, ti39, ti41, ti31, ti96, ti87, ti29, ti22, ti26, ti23, Int.natCast_zero]
    refine wpCall.pf (pl) (by kernel_rfl) (by kernel_rfl) rfl rfl ?_
    simp only [go_sem, ti3, ti4, ti5, ti32, ti39, ti41, ti31, ti96, ti87, ti29, ti22, ti26, ti23, Int.natCast_zero, b00, h2, h3]; refine hK _ _ ?_; clear hK K
    refine Wc.cond (t := true) (by simp only [go_sem, ti3, ti4, ti5, ti32, ti39, ti41, ti31, ti96, ti87, ti29, ti22, ti26, ti23, Int.natCast_zero, b00, h2, h3]) (fun _ => ?_) (fun hc => by cases hc)
    refine Wc.seq ?_
    refine Wc.reg fun K hK => ?_; simp only [go_sem, ti3, ti4, ti5, ti32, ti39, ti41, ti31, ti96, ti87, ti29, ti22, ti26, ti23, Int.natCast_zero]; refine hK _ _ ?_; clear hK K
    exact Wc.ret (Pf.ret [.cell 4 31, .tmp 5] [.agg [.nils, .p (pI 0), .p (pI 0), .nils], .c (.p (pI 10))] rfl rfl (by simp only [resultsD, go_sem, ti3, ti4, ti5, ti32, ti39, ti41, ti31, ti96, ti87, ti29, ti22, ti26, ti23, Int.natCast_zero]) rfl)
  have h3 : (x.w != u.w) = false := by simpa using m3
  have e : meC x u = meO x u (putsB x.k x.bs u.bs) := by rw [e9, if_neg (by simp [m1, m2, m3])]
  have hR0 : (mergeB x.k x.bs u.bs).map ([] ++ ·) = putsB x.k x.bs u.bs := by rw [hmp]; simp
  clear hmp
  rw [meR, e]
  generalize putsB x.k x.bs u.bs = R at *
  refine Wc.reg fun K hK => ?_; simp only [go_sem, ti3, ti4, ti5, ti32, ti39, ti41, ti31, ti96, ti87, ti29, ti22, ti26, ti23, Int.natCast_zero]
  refine wpCall.pf (pl) (by kernel_rfl) (by kernel_rfl) rfl rfl ?_
  simp only [go_sem, ti3, ti4, ti5, ti32, ti39, ti41, ti31, ti96, ti87, ti29, ti22, ti26, ti23, Int.natCast_zero, b00, h2, h3]; refine hK _ _ ?_; clear hK K
  refine Wc.cond (t := false) (by simp only [go_sem, ti3, ti4, ti5, ti32, ti39, ti41, ti31, ti96, ti87, ti29, ti22, ti26, ti23, Int.natCast_zero, b00, h2, h3]) (fun hc => by cases hc) (fun _ => Wc.skip ?_)
  refine Wc.seq ?_
  refine Wc.reg fun K hK => ?_; simp only [go_sem, ti3, ti4, ti5, ti32, ti39, ti41, ti31, ti96, ti87, ti29, ti22, ti26, ti23, Int.natCast_zero]; refine hK _ _ ?_; clear hK K
  refine Wc.seq ?_
  refine Wc.regD fun K hK => ?_; simp only [go_sem, ti3, ti4, ti5, ti32, ti39, ti41, ti31, ti96, ti87, ti29, ti22, ti26, ti23, Int.natCast_zero]; refine hK _ _ ?_; clear hK K
  refine Wc.seqR (fun y => ∃ (k6 : Nat) (xc : C) (acc P Q : List Bkt) (G : List (Nat × Ob)), (R = some (acc ++ (P ++ Q)) ∧ acc.length + P.length + Q.length ≤ 4000) ∧ y.ds = [] ∧ Fs y.e 170 [(2, .v (.c (.ref 0 0))), (4, .v (.c (.ref 2 0))), (6, .v (.c (.ref k6 0))), (7, P' (.lst P.length (P.flatMap Bkt.pd))), (8, P' (.lst Q.length (Q.flatMap Bkt.pd)))] ∧ OA y.s.nx y.s [] (G ++ [(k6, .cells [.p (.lst x.lb.length (x.lb.flatMap lbP)), .p (pI x.k), .p (pI x.w), xc] false), (2, .cells [.nils, .p (pI 0), .p (pI 0), .nils] false), (1, .cells (u.pd.map .p) false), (0, .cells (x.pd.map .p) false)]) ∧ GB xc acc G) ?_ ?_
  · refine Wc.block (Wc.loop (fun c y => ∃ (k6 : Nat) (xc : C) (acc P Q : List Bkt) (G : List (Nat × Ob)), c = P.length + Q.length ∧ ((mergeB x.k P Q).map (acc ++ ·) = R ∧ (∀ p ∈ P, VB x.w p) ∧ (∀ q ∈ Q, VB u.w q) ∧ acc.length + P.length + Q.length ≤ 4000) ∧ y.ds = [] ∧ Fs y.e 170 [(2, .v (.c (.ref 0 0))), (4, .v (.c (.ref 2 0))), (6, .v (.c (.ref k6 0))), (7, P' (.lst P.length (P.flatMap Bkt.pd))), (8, P' (.lst Q.length (Q.flatMap Bkt.pd)))] ∧ OA y.s.nx y.s [] (G ++ [(k6, .cells [.p (.lst x.lb.length (x.lb.flatMap lbP)), .p (pI x.k), .p (pI x.w), xc] false), (2, .cells [.nils, .p (pI 0), .p (pI 0), .nils] false), (1, .cells (u.pd.map .p) false), (0, .cells (x.pd.map .p) false)]) ∧ GB xc acc G) ?_ (k := x.bs.length + u.bs.length) ?_)
    · rintro c ⟨e, ds, s1⟩ ⟨k6, xc, acc, P, Q, G, rfl, ⟨hR, hP, hQ, hlen⟩, rfl, hF, ho, hG⟩
      simp only [Fs] at hF ho
      refine Wc.seq (Wc.seq ?_)
      cases P with
      | nil =>
        refine Wc.reg fun K hK => ?_; simp only [go_sem, ti3, ti4, ti5, ti32, ti39, ti41, ti31, ti96, ti87, ti29, ti22, ti26, ti23, Int.natCast_zero, hF, List.length_nil, Int.lt_irrefl]; refine hK _ _ ?_; clear hK K
        refine Wc.cond (t := false) (by simp only [go_sem, ti3, ti4, ti5, ti32, ti39, ti41, ti31, ti96, ti87, ti29, ti22, ti26, ti23, Int.natCast_zero, hF]) (fun hc => by cases hc) (fun _ => ?_)
        refine Wc.exit ⟨k6, xc, acc, [], Q, G, ⟨?_, hlen⟩, rfl, by simp only [Fs, Int.natCast_zero, go_sem, ti3, ti4, ti5, ti32, ti39, ti41, ti31, ti96, ti87, ti29, ti22, ti26, ti23, Int.natCast_zero, hF], by (try simp only [St.nx_put, St.nx_adv]); repeat (first | exact OA.mono ho (by omega) | refine OA.newB ?_ (by omega) rfl | refine OA.advB ?_), hG⟩
        rw [← hR, mergeB]; rfl
      | cons a P =>
      cases Q with
      | nil =>
        have h0N : ((0 : Int) < ((P.length + 1 : Nat) : Int)) = True := by simp only [eq_iff_iff, iff_true]; omega
        refine Wc.reg fun K hK => ?_; simp only [go_sem, ti3, ti4, ti5, ti32, ti39, ti41, ti31, ti96, ti87, ti29, ti22, ti26, ti23, Int.natCast_zero, hF, h0N, List.length_nil, Int.lt_irrefl]; refine hK _ _ ?_; clear hK K
        refine Wc.cond (t := false) (by simp only [go_sem, ti3, ti4, ti5, ti32, ti39, ti41, ti31, ti96, ti87, ti29, ti22, ti26, ti23, Int.natCast_zero, hF]) (fun hc => by cases hc) (fun _ => ?_)
        refine Wc.exit ⟨k6, xc, acc, a :: P, [], G, ⟨?_, hlen⟩, rfl, by simp only [Fs, Int.natCast_zero, go_sem, ti3, ti4, ti5, ti32, ti39, ti41, ti31, ti96, ti87, ti29, ti22, ti26, ti23, Int.natCast_zero, hF], by (try simp only [St.nx_put, St.nx_adv]); repeat (first | exact OA.mono ho (by omega) | refine OA.newB ?_ (by omega) rfl | refine OA.advB ?_), hG⟩
        rw [← hR, mergeB]; simp
      | cons b Q =>
      obtain ⟨N, hN⟩ : ∃ N, (a :: P).length = N := ⟨_, rfl⟩
      obtain ⟨M, hM⟩ : ∃ N, (b :: Q).length = N := ⟨_, rfl⟩
      obtain ⟨CS, hCS⟩ : ∃ N, (a :: P).flatMap Bkt.pd = N := ⟨_, rfl⟩
      obtain ⟨DS, hDS⟩ : ∃ N, (b :: Q).flatMap Bkt.pd = N := ⟨_, rfl⟩
      have h0N : ((0 : Int) < (N : Int)) = True := by simp at hN ⊢; omega
      have h0M : ((0 : Int) < (M : Int)) = True := by simp at hM ⊢; omega
      have h1N : ((1 : Int) ≤ (N : Int)) = True := by simp at hN ⊢; omega
      have h1M : ((1 : Int) ≤ (M : Int)) = True := by simp at hM ⊢; omega
      have hfN : CS.length = N * 10 := by rw [← hCS, ← hN]; exact fB _
      have hfM : DS.length = M * 10 := by rw [← hDS, ← hM]; exact fB _
      have hix := ixA ti29 rfl ti41 (j := 0) (m := N) (cs := CS) (by simp at hN; omega) hfN (by decide)
      have hiy := ixA ti29 rfl ti41 (j := 0) (m := M) (cs := DS) (by simp at hM; omega) hfM (by decide)
      have hca := rpB0 (l := a :: P) (i := 0) rfl
      have hda := rpB0 (l := b :: Q) (i := 0) rfl
      simp only [Int.natCast_zero, Nat.zero_mul] at hix hiy hca hda
      rw [hCS] at hca
      rw [hDS] at hda
      rw [hN, hM, hCS, hDS] at hF
      obtain ⟨n1, n2⟩ := take1 a P hN hCS
      obtain ⟨k1, k2⟩ := take1 b Q hM hDS
      have g6 := ho.at_ (k6, .cells [.p (.lst x.lb.length (x.lb.flatMap lbP)), .p (pI x.k), .p (pI x.w), xc] false) (by simp)
      have g0 := ho.at_ (0, .cells (x.pd.map .p) false) (by simp)
      simp only [List.map_cons, List.map_nil] at g0
      have hap := hP a (by simp)
      have hbp := hQ b (by simp)
      refine Wc.reg fun K hK => ?_; simp only [go_sem, ti3, ti4, ti5, ti32, ti39, ti41, ti31, ti96, ti87, ti29, ti22, ti26, ti23, Int.natCast_zero, hF, h0N, h0M]; refine hK _ _ ?_; clear hK K
      refine Wc.cond (t := true) (by simp only [go_sem, ti3, ti4, ti5, ti32, ti39, ti41, ti31, ti96, ti87, ti29, ti22, ti26, ti23, Int.natCast_zero, hF]) (fun _ => ?_) (fun hc => by cases hc)
      refine Wc.skip (Wc.block (Wc.seq (Wc.block (Wc.seq ?_))))
      refine Wc.regD fun K hK => ?_; simp only [go_sem, ti3, ti4, ti5, ti32, ti39, ti41, ti31, ti96, ti87, ti29, ti22, ti26, ti23, Int.natCast_zero, hF, hix, hiy, hca, hda]; refine hK _ _ ?_; clear hK K
      refine Wc.cond (t := decide (a.st < b.st)) (by simp only [go_sem, ti3, ti4, ti5, ti32, ti39, ti41, ti31, ti96, ti87, ti29, ti22, ti26, ti23, Int.natCast_zero, hF]) (fun hc => ?_) (fun hc => ?_)
      · have hlt := of_decide_eq_true hc
        rw [mergeB_lt hlt] at hR
        refine Wc.seq ?_
        refine Wc.regT fun K hK => ?_
        simp only [go_sem, ti3, ti4, ti5, ti32, ti39, ti41, ti31, ti96, ti87, ti29, ti22, ti26, ti23, Int.natCast_zero, hF, g6, hix, hca]
        refine GB.app (m := [a]) (M := [(k6, .cells [.p (.lst x.lb.length (x.lb.flatMap lbP)), .p (pI x.k), .p (pI x.w), xc] false), (2, .cells [.nils, .p (pI 0), .p (pI 0), .nils] false), (1, .cells (u.pd.map .p) false), (0, .cells (x.pd.map .p) false)]) (G := G) (L := []) ?_ hG (Nat.le_refl _) (by simp at hN hlen ⊢; omega) (by simp only [go_sem, ti3, ti4, ti5, ti32, ti39, ti41, ti31, ti96, ti87, ti29, ti22, ti26, ti23, Int.natCast_zero]; rfl) (by simp) fun x' G' s3 hs hnx hG' => ?_
        · exact by (try simp only [St.nx_put, St.nx_adv]); repeat (first | exact OA.mono ho (by omega) | refine OA.newB ?_ (by omega) rfl | refine OA.putB ?_ (by omega) | refine OA.advB ?_)
        have g6' := hs.at_ (k6, .cells [.p (.lst x.lb.length (x.lb.flatMap lbP)), .p (pI x.k), .p (pI x.w), xc] false) (by simp)
        simp only [go_sem, ti3, ti4, ti5, ti32, ti39, ti41, ti31, ti96, ti87, ti29, ti22, ti26, ti23, Int.natCast_zero, hF, g6']
        refine ⟨by rw [trOK_eq3]; rfl, hK _ _ ?_⟩
        clear hK K
        have h5 := OA.setAt (A := G') (B := []) (k := k6) (o' := .cells [.p (.lst x.lb.length (x.lb.flatMap lbP)), .p (pI x.k), .p (pI x.w), x'] false) (R := [(2, .cells [.nils, .p (pI 0), .p (pI 0), .nils] false), (1, .cells (u.pd.map .p) false), (0, .cells (x.pd.map .p) false)]) hs rfl
        refine Wc.seq ?_
        refine Wc.reg fun K hK => ?_; simp only [go_sem, ti3, ti4, ti5, ti32, ti39, ti41, ti31, ti96, ti87, ti29, ti22, ti26, ti23, Int.natCast_zero, hF, hfN, h1N, n1, n2, Int.le_refl]; refine hK _ _ ?_; clear hK K
        subst hN hM hCS hDS
        refine Wc.exit ⟨_, ?_, k6, x', acc ++ [a], P, b :: Q, G', rfl, ⟨hR, fun p hp => hP p (by simp [hp]), hQ, by simp at hlen ⊢; omega⟩, rfl, by simp only [Fs, Int.natCast_zero, go_sem, ti3, ti4, ti5, ti32, ti39, ti41, ti31, ti96, ti87, ti29, ti22, ti26, ti23, Int.natCast_zero, hF], ?_, hG'⟩
        · simp only [List.length_cons]; omega
        · refine OA.mono h5.adv ?_
          simp only [St.nx_put, St.nx_adv] at hnx ⊢
          omega
      · have hge := of_decide_eq_false hc
        refine Wc.seq ?_
        refine Wc.regD fun K hK => ?_; simp only [go_sem, ti3, ti4, ti5, ti32, ti39, ti41, ti31, ti96, ti87, ti29, ti22, ti26, ti23, Int.natCast_zero, hF, hix, hiy, hca, hda]; refine hK _ _ ?_; clear hK K
        refine Wc.cond (t := decide (b.st < a.st)) (by simp only [go_sem, ti3, ti4, ti5, ti32, ti39, ti41, ti31, ti96, ti87, ti29, ti22, ti26, ti23, Int.natCast_zero, hF]) (fun hc => ?_) (fun hc => ?_)
        · have hlt := of_decide_eq_true hc
          rw [mergeB_gt hge hlt] at hR
          refine Wc.seq ?_
          refine Wc.regT fun K hK => ?_
          simp only [go_sem, ti3, ti4, ti5, ti32, ti39, ti41, ti31, ti96, ti87, ti29, ti22, ti26, ti23, Int.natCast_zero, hF, g6, hiy, hda]
          refine GB.app (m := [b]) (M := [(k6, .cells [.p (.lst x.lb.length (x.lb.flatMap lbP)), .p (pI x.k), .p (pI x.w), xc] false), (2, .cells [.nils, .p (pI 0), .p (pI 0), .nils] false), (1, .cells (u.pd.map .p) false), (0, .cells (x.pd.map .p) false)]) (G := G) (L := []) ?_ hG (Nat.le_refl _) (by simp at hN hlen ⊢; omega) (by simp only [go_sem, ti3, ti4, ti5, ti32, ti39, ti41, ti31, ti96, ti87, ti29, ti22, ti26, ti23, Int.natCast_zero]; rfl) (by simp) fun x' G' s3 hs hnx hG' => ?_
          · exact by (try simp only [St.nx_put, St.nx_adv]); repeat (first | exact OA.mono ho (by omega) | refine OA.newB ?_ (by omega) rfl | refine OA.putB ?_ (by omega) | refine OA.advB ?_)
          have g6' := hs.at_ (k6, .cells [.p (.lst x.lb.length (x.lb.flatMap lbP)), .p (pI x.k), .p (pI x.w), xc] false) (by simp)
          simp only [go_sem, ti3, ti4, ti5, ti32, ti39, ti41, ti31, ti96, ti87, ti29, ti22, ti26, ti23, Int.natCast_zero, hF, g6']
          refine ⟨by rw [trOK_eq3]; rfl, hK _ _ ?_⟩
          clear hK K
          have h5 := OA.setAt (A := G') (B := []) (k := k6) (o' := .cells [.p (.lst x.lb.length (x.lb.flatMap lbP)), .p (pI x.k), .p (pI x.w), x'] false) (R := [(2, .cells [.nils, .p (pI 0), .p (pI 0), .nils] false), (1, .cells (u.pd.map .p) false), (0, .cells (x.pd.map .p) false)]) hs rfl
          refine Wc.seq ?_
          refine Wc.reg fun K hK => ?_; simp only [go_sem, ti3, ti4, ti5, ti32, ti39, ti41, ti31, ti96, ti87, ti29, ti22, ti26, ti23, Int.natCast_zero, hF, hfM, h1M, k1, k2, Int.le_refl]; refine hK _ _ ?_; clear hK K
          subst hN hM hCS hDS
          refine Wc.exit ⟨_, ?_, k6, x', acc ++ [b], a :: P, Q, G', rfl, ⟨hR, hP, fun q hq => hQ q (by simp [hq]), by simp at hlen ⊢; omega⟩, rfl, by simp only [Fs, Int.natCast_zero, go_sem, ti3, ti4, ti5, ti32, ti39, ti41, ti31, ti96, ti87, ti29, ti22, ti26, ti23, Int.natCast_zero, hF], ?_, hG'⟩
          · simp only [List.length_cons]; omega
          · refine OA.mono h5.adv ?_
            simp only [St.nx_put, St.nx_adv] at hnx ⊢
            omega
        · have hge2 := of_decide_eq_false hc
          rw [mergeB_eq hge hge2] at hR
          have jab := (hap.wn (n := 1) (by omega)).jb hbp (by omega) (by omega)
          have jba := (hbp.wn (n := 1) (by omega)).jb hap (by omega) (by omega)
          refine Wc.skip ?_
          refine Wc.seqR (fun y => ∃ k9 k10, y.ds = [] ∧ Fs y.e 170 [(2, .v (.c (.ref 0 0))), (4, .v (.c (.ref 2 0))), (6, .v (.c (.ref k6 0))), (7, P' (.lst N CS)), (8, P' (.lst M DS)), (9, .v (.c (.ref k9 0))), (10, .v (.c (.ref k10 0)))] ∧ OA y.s.nx y.s [] ((k10, .cells (b.pd.map .p) false) :: (k9, .cells (a.pd.map .p) false) :: (G ++ [(k6, .cells [.p (.lst x.lb.length (x.lb.flatMap lbP)), .p (pI x.k), .p (pI x.w), xc] false), (2, .cells [.nils, .p (pI 0), .p (pI 0), .nils] false), (1, .cells (u.pd.map .p) false), (0, .cells (x.pd.map .p) false)]))) ?_ ?_
          · refine Wc.regT fun K hK => ?_
            have n01 : (s1.nx + 1 = s1.nx) = False := by simp
            have n10 : (s1.nx = s1.nx + 1) = False := by simp
            simp only [go_sem, ti3, ti4, ti5, ti32, ti39, ti41, ti31, ti96, ti87, ti29, ti22, ti26, ti23, Int.natCast_zero, hF, hix, hiy, hca, hda, n01, n10]
            refine ⟨by rw [trOK_eq3]; rfl, hK _ _ ?_⟩
            clear hK K
            have h3 : OA (s1.nx + 38) (((s1.adv 40).put (s1.nx + 36) (.cells [.p (pI 0), .p (pI 0), .p (pI 0), .p (pI 0), .p (pI 0), .p (pI 0), .p (pI 0), .p (pI 0), .p (pI 0), .p (pI 0)] false)).put (s1.nx + 37) (.cells [.p (pI 0), .p (pI 0), .p (pI 0), .p (pI 0), .p (pI 0), .p (pI 0), .p (pI 0), .p (pI 0), .p (pI 0), .p (pI 0)] false)) [] ((s1.nx + 37, (.cells [.p (pI 0), .p (pI 0), .p (pI 0), .p (pI 0), .p (pI 0), .p (pI 0), .p (pI 0), .p (pI 0), .p (pI 0), .p (pI 0)] false)) :: (s1.nx + 36, (.cells [.p (pI 0), .p (pI 0), .p (pI 0), .p (pI 0), .p (pI 0), .p (pI 0), .p (pI 0), .p (pI 0), .p (pI 0), .p (pI 0)] false)) :: (G ++ [(k6, .cells [.p (.lst x.lb.length (x.lb.flatMap lbP)), .p (pI x.k), .p (pI x.w), xc] false), (2, .cells [.nils, .p (pI 0), .p (pI 0), .nils] false), (1, .cells (u.pd.map .p) false), (0, .cells (x.pd.map .p) false)])) := by (try simp only [St.put_adv, St.adv_adv, St.put_put, St.nx_put, St.nx_adv]); repeat (first | exact OA.mono ho (by omega) | refine OA.newB ?_ (by omega) rfl | refine OA.putB ?_ (by omega) | refine OA.advB ?_)
            have h4 := OA.set (M1 := [(s1.nx + 37, (.cells [.p (pI 0), .p (pI 0), .p (pI 0), .p (pI 0), .p (pI 0), .p (pI 0), .p (pI 0), .p (pI 0), .p (pI 0), .p (pI 0)] false))]) (o' := .cells (a.pd.map .p) false) h3 rfl
            have h5 := OA.set (M1 := []) (o' := .cells (b.pd.map .p) false) h4 rfl
            refine ⟨s1.nx + 36, s1.nx + 37, rfl, by simp only [Fs, Int.natCast_zero, go_sem, ti3, ti4, ti5, ti32, ti39, ti41, ti31, ti96, ti87, ti29, ti22, ti26, ti23, Int.natCast_zero, hF], ?_⟩
            exact OA.mono h5 (by simp only [St.nx_put, St.nx_adv]; omega)
          clear hF ho g6 g0 e s1
          rintro ⟨e, ds, s1⟩ ⟨k9, k10, rfl, hF, ho⟩
          simp only [Fs] at hF ho
          have g9 := ho.at_ (k9, .cells (a.pd.map .p) false) (by simp)
          have g10 := ho.at_ (k10, .cells (b.pd.map .p) false) (by simp)
          simp only [List.map_cons, List.map_nil] at g9 g10
          refine Wc.seqR (fun y => ∃ p q, (meetB x.k a b = (if p.lt < q.ft then some (joinB x.k p q) else none) ∧ JB p q) ∧ y.ds = [] ∧ Fs y.e 170 [(2, .v (.c (.ref 0 0))), (4, .v (.c (.ref 2 0))), (6, .v (.c (.ref k6 0))), (7, P' (.lst N CS)), (8, P' (.lst M DS)), (9, .v (.c (.ref k9 0))), (10, .v (.c (.ref k10 0)))] ∧ OA y.s.nx y.s [] ((k10, .cells (q.pd.map .p) false) :: (k9, .cells (p.pd.map .p) false) :: (G ++ [(k6, .cells [.p (.lst x.lb.length (x.lb.flatMap lbP)), .p (pI x.k), .p (pI x.w), xc] false), (2, .cells [.nils, .p (pI 0), .p (pI 0), .nils] false), (1, .cells (u.pd.map .p) false), (0, .cells (x.pd.map .p) false)]))) ?_ ?_
          · refine Wc.seq ?_
            refine Wc.reg fun K hK => ?_; simp only [go_sem, ti3, ti4, ti5, ti32, ti39, ti41, ti31, ti96, ti87, ti29, ti22, ti26, ti23, Int.natCast_zero, hF, g9, g10]; refine hK _ _ ?_; clear hK K
            refine Wc.cond (t := decide (b.lt < a.ft)) (by simp only [go_sem, ti3, ti4, ti5, ti32, ti39, ti41, ti31, ti96, ti87, ti29, ti22, ti26, ti23, Int.natCast_zero, hF]) (fun hc => ?_) (fun hc => ?_)
            · have hlt := of_decide_eq_true hc
              have n910 : (k9 = k10) = False := by
                have := ho.dism
                rw [List.pairwise_cons] at this
                have := this.1 (k9, .cells (a.pd.map .p) false) (by simp)
                simp at this ⊢; omega
              refine Wc.reg fun K hK => ?_; simp only [go_sem, ti3, ti4, ti5, ti32, ti39, ti41, ti31, ti96, ti87, ti29, ti22, ti26, ti23, Int.natCast_zero, hF, g9, g10, n910]; refine hK _ _ ?_; clear hK K
              have h5 := OA.set (M1 := [(k10, .cells (b.pd.map .p) false)]) (o' := .cells (b.pd.map .p) false) ho rfl
              have h6 := OA.set (M1 := []) (o' := .cells (a.pd.map .p) false) h5 rfl
              refine ⟨b, a, ⟨by unfold meetB; rw [if_pos hlt, if_pos hlt], jba⟩, rfl, by simp only [Fs, Int.natCast_zero, go_sem, ti3, ti4, ti5, ti32, ti39, ti41, ti31, ti96, ti87, ti29, ti22, ti26, ti23, Int.natCast_zero, hF], ?_⟩
              exact OA.mono h6.adv.adv (by simp only [St.nx_put, St.nx_adv]; omega)
            · have hlt := of_decide_eq_false hc
              refine Wc.skip ⟨a, b, ⟨by unfold meetB; rw [if_neg hlt], jab⟩, rfl, by simp only [Fs, Int.natCast_zero, go_sem, ti3, ti4, ti5, ti32, ti39, ti41, ti31, ti96, ti87, ti29, ti22, ti26, ti23, Int.natCast_zero, hF], by (try simp only [St.nx_put, St.nx_adv]); repeat (first | exact OA.mono ho (by omega) | refine OA.newB ?_ (by omega) rfl | refine OA.advB ?_)⟩
          clear hF ho g9 g10 e s1
          rintro ⟨e, ds, s1⟩ ⟨p, q, ⟨hme, jpq⟩, rfl, hF, ho⟩
          simp only [Fs] at hF ho
          have g9 := ho.at_ (k9, .cells (p.pd.map .p) false) (by simp)
          have g10 := ho.at_ (k10, .cells (q.pd.map .p) false) (by simp)
          have g6 := ho.at_ (k6, .cells [.p (.lst x.lb.length (x.lb.flatMap lbP)), .p (pI x.k), .p (pI x.w), xc] false) (by simp)
          have g2 := ho.at_ (2, .cells [.nils, .p (pI 0), .p (pI 0), .nils] false) (by simp)
          have g0 := ho.at_ (0, .cells (x.pd.map .p) false) (by simp)
          simp only [List.map_cons, List.map_nil] at g9 g10 g0
          rw [hme] at hR
          refine Wc.seq (Wc.seq ?_)
          refine Wc.reg fun K hK => ?_; simp only [go_sem, ti3, ti4, ti5, ti32, ti39, ti41, ti31, ti96, ti87, ti29, ti22, ti26, ti23, Int.natCast_zero, hF, g9, g10]; refine hK _ _ ?_; clear hK K
          refine Wc.cond (t := decide (q.ft ≤ p.lt)) (by simp only [go_sem, ti3, ti4, ti5, ti32, ti39, ti41, ti31, ti96, ti87, ti29, ti22, ti26, ti23, Int.natCast_zero, hF]) (fun hc => ?_) (fun hc => ?_)
          · have hlt := of_decide_eq_true hc
            rw [if_neg (by omega)] at hR
            simp only at hR
            rw [← hR]
            refine Wc.seq ?_
            refine Wc.reg fun K hK => ?_; simp only [go_sem, ti3, ti4, ti5, ti32, ti39, ti41, ti31, ti96, ti87, ti29, ti22, ti26, ti23, Int.natCast_zero, hF, g2]; refine hK _ _ ?_; clear hK K
            exact Wc.ret (Pf.ret [.cell 4 31, .tmp 5] [.agg [.nils, .p (pI 0), .p (pI 0), .nils], .c (.p (pI 16))] rfl rfl (by simp only [resultsD, go_sem, ti3, ti4, ti5, ti32, ti39, ti41, ti31, ti96, ti87, ti29, ti22, ti26, ti23, Int.natCast_zero, hF]) rfl)
          have hlt := of_decide_eq_false hc
          rw [if_pos (by omega)] at hR
          simp only at hR
          have p48 := jpq.pf48 x.k
          refine Wc.skip (Wc.seq ?_)
          refine Wc.regT fun K hK => ?_
          simp only [go_sem, ti3, ti4, ti5, ti32, ti39, ti41, ti31, ti96, ti87, ti29, ti22, ti26, ti23, Int.natCast_zero, hF, g6, g9, g10, g0]
          refine wpCall.pf (p48) (by kernel_rfl) (by kernel_rfl) rfl rfl ?_
          simp only [go_sem, ti3, ti4, ti5, ti32, ti39, ti41, ti31, ti96, ti87, ti29, ti22, ti26, ti23, Int.natCast_zero, hF, g6, o48, x48]
          generalize joinB x.k p q = J at *
          have ho2 : OA s1.nx s1 [] (G ++ ((k10, .cells (q.pd.map .p) false) :: (k9, .cells (p.pd.map .p) false) :: [(k6, .cells [.p (.lst x.lb.length (x.lb.flatMap lbP)), .p (pI x.k), .p (pI x.w), xc] false), (2, .cells [.nils, .p (pI 0), .p (pI 0), .nils] false), (1, .cells (u.pd.map .p) false), (0, .cells (x.pd.map .p) false)])) := by
            have := OA.rot (A := [_, _]) (B := G) ho
            simpa using this
          refine GB.app (m := [J]) (M := (k10, .cells (q.pd.map .p) false) :: (k9, .cells (p.pd.map .p) false) :: [(k6, .cells [.p (.lst x.lb.length (x.lb.flatMap lbP)), .p (pI x.k), .p (pI x.w), xc] false), (2, .cells [.nils, .p (pI 0), .p (pI 0), .nils] false), (1, .cells (u.pd.map .p) false), (0, .cells (x.pd.map .p) false)]) (G := G) (L := []) ?_ hG (Nat.le_refl _) (by simp at hN hlen ⊢; omega) (by simp only [go_sem, ti3, ti4, ti5, ti32, ti39, ti41, ti31, ti96, ti87, ti29, ti22, ti26, ti23, Int.natCast_zero]; rfl) (by simp) fun x' G' s3 hs hnx hG' => ?_
          · exact by (try simp only [St.nx_put, St.nx_adv]); repeat (first | exact OA.mono ho2 (by omega) | refine OA.newB ?_ (by omega) rfl | refine OA.putB ?_ (by omega) | refine OA.advB ?_)
          have g6' := hs.at_ (k6, .cells [.p (.lst x.lb.length (x.lb.flatMap lbP)), .p (pI x.k), .p (pI x.w), xc] false) (by simp)
          simp only [go_sem, ti3, ti4, ti5, ti32, ti39, ti41, ti31, ti96, ti87, ti29, ti22, ti26, ti23, Int.natCast_zero, hF, g6']
          refine ⟨by rw [trOK_eq3]; rfl, hK _ _ ?_⟩
          clear hK K
          have h5 := OA.setAt (A := G') (B := [(k10, .cells (q.pd.map .p) false), (k9, .cells (p.pd.map .p) false)]) (k := k6) (o' := .cells [.p (.lst x.lb.length (x.lb.flatMap lbP)), .p (pI x.k), .p (pI x.w), x'] false) (R := [(2, .cells [.nils, .p (pI 0), .p (pI 0), .nils] false), (1, .cells (u.pd.map .p) false), (0, .cells (x.pd.map .p) false)]) hs rfl
          refine Wc.seq ?_
          refine Wc.reg fun K hK => ?_; simp only [go_sem, ti3, ti4, ti5, ti32, ti39, ti41, ti31, ti96, ti87, ti29, ti22, ti26, ti23, Int.natCast_zero, hF, hfN, h1N, n1, n2, Int.le_refl]; refine hK _ _ ?_; clear hK K
          refine Wc.reg fun K hK => ?_; simp only [go_sem, ti3, ti4, ti5, ti32, ti39, ti41, ti31, ti96, ti87, ti29, ti22, ti26, ti23, Int.natCast_zero, hF, hfM, h1M, k1, k2, Int.le_refl]; refine hK _ _ ?_; clear hK K
          refine ⟨_, ?_, k6, x', acc ++ [J], P, Q, G', rfl, ⟨hR, fun p hp => hP p (by simp [hp]), fun q hq => hQ q (by simp [hq]), by simp at hlen ⊢; omega⟩, rfl, by simp only [Fs, Int.natCast_zero, go_sem, ti3, ti4, ti5, ti32, ti39, ti41, ti31, ti96, ti87, ti29, ti22, ti26, ti23, Int.natCast_zero, hF], ?_, hG'⟩
          · simp only [List.length_cons]; omega
          · refine OA.sub (OA.mono h5.adv.adv ?_) (List.Sublist.refl _) (List.Sublist.append (List.Sublist.refl _) (List.Sublist.cons _ (List.Sublist.cons _ (List.Sublist.refl _))))
            simp only [St.nx_put, St.nx_adv] at hnx ⊢
            omega
    · refine ⟨39, .nils, [], x.bs, u.bs, [], rfl, ⟨hR0, hx.vb, hu.vb, by have := hx.len; have := hu.len; simp; omega⟩, rfl, by simp only [Fs, Int.natCast_zero, go_sem, ti3, ti4, ti5, ti32, ti39, ti41, ti31, ti96, ti87, ti29, ti22, ti26, ti23, Int.natCast_zero], by (try simp only [St.nx_put, St.nx_adv]); repeat (first | exact OA.mono s00_oa (by omega) | refine OA.newB ?_ (by omega) rfl | refine OA.advB ?_), .inl ⟨rfl, rfl, rfl⟩⟩
  rintro ⟨e, ds, s1⟩ ⟨k6, xc, acc, P, Q, G, ⟨rfl, hlen⟩, rfl, hF, ho, hG⟩
  simp only [Fs] at hF ho
  have g6 := ho.at_ (k6, .cells [.p (.lst x.lb.length (x.lb.flatMap lbP)), .p (pI x.k), .p (pI x.w), xc] false) (by simp)
  refine Wc.seq ?_
  refine Wc.reg fun K hK => ?_; simp only [go_sem, ti3, ti4, ti5, ti32, ti39, ti41, ti31, ti96, ti87, ti29, ti22, ti26, ti23, Int.natCast_zero, hF, g6]
  refine GB.appA (m := P) (M := [(k6, .cells [.p (.lst x.lb.length (x.lb.flatMap lbP)), .p (pI x.k), .p (pI x.w), xc] false), (2, .cells [.nils, .p (pI 0), .p (pI 0), .nils] false), (1, .cells (u.pd.map .p) false), (0, .cells (x.pd.map .p) false)]) (G := G) (L := []) ?_ hG (Nat.le_refl _) (by omega) (by simp only [go_sem, ti3, ti4, ti5, ti32, ti39, ti41, ti31, ti96, ti87, ti29, ti22, ti26, ti23, Int.natCast_zero]) fun x' G' s3 hs hnx hG' => ?_
  · exact by (try simp only [St.nx_put, St.nx_adv]); repeat (first | exact OA.mono ho (by omega) | refine OA.newB ?_ (by omega) rfl | refine OA.putB ?_ (by omega) | refine OA.advB ?_)
  have g6' := hs.at_ (k6, .cells [.p (.lst x.lb.length (x.lb.flatMap lbP)), .p (pI x.k), .p (pI x.w), xc] false) (by simp)
  simp only [go_sem, ti3, ti4, ti5, ti32, ti39, ti41, ti31, ti96, ti87, ti29, ti22, ti26, ti23, Int.natCast_zero, hF, g6']; refine hK _ _ ?_; clear hK K
  have h5 := OA.setAt (A := G') (B := []) (k := k6) (o' := .cells [.p (.lst x.lb.length (x.lb.flatMap lbP)), .p (pI x.k), .p (pI x.w), x'] false) (R := [(2, .cells [.nils, .p (pI 0), .p (pI 0), .nils] false), (1, .cells (u.pd.map .p) false), (0, .cells (x.pd.map .p) false)]) hs rfl
  simp only [St.nx_put, St.nx_adv] at hnx
  have hz : acc ++ (P ++ Q) = acc ++ P ++ Q := by simp
  rw [hz]
  refine Wc.seqR (fun y => ∃ xc G, y.ds = [] ∧ Fs y.e 170 [(4, .v (.c (.ref 2 0))), (6, .v (.c (.ref k6 0)))] ∧ OA y.s.nx y.s [] (G ++ [(k6, .cells [.p (.lst x.lb.length (x.lb.flatMap lbP)), .p (pI x.k), .p (pI x.w), xc] false), (2, .cells [.nils, .p (pI 0), .p (pI 0), .nils] false), (1, .cells (u.pd.map .p) false), (0, .cells (x.pd.map .p) false)]) ∧ GB xc (acc ++ P ++ Q) G) ?_ ?_
  · refine Wc.reg fun K hK => ?_; simp only [go_sem, ti3, ti4, ti5, ti32, ti39, ti41, ti31, ti96, ti87, ti29, ti22, ti26, ti23, Int.natCast_zero, hF]
    refine GB.appA (m := Q) (M := (k6, .cells [.p (.lst x.lb.length (x.lb.flatMap lbP)), .p (pI x.k), .p (pI x.w), x'] false) :: [(2, .cells [.nils, .p (pI 0), .p (pI 0), .nils] false), (1, .cells (u.pd.map .p) false), (0, .cells (x.pd.map .p) false)]) (G := G') (L := []) ?_ hG' (Nat.le_refl _) (by simp only [List.length_append]; omega) (by simp only [go_sem, ti3, ti4, ti5, ti32, ti39, ti41, ti31, ti96, ti87, ti29, ti22, ti26, ti23, Int.natCast_zero]) fun x2 G2 s4 hs4 hnx4 hG4 => ?_
    · exact by (try simp only [St.nx_put, St.nx_adv]); repeat (first | exact OA.mono h5 (by omega) | refine OA.newB ?_ (by omega) rfl | refine OA.putB ?_ (by omega) | refine OA.advB ?_)
    have g7 := hs4.at_ (k6, .cells [.p (.lst x.lb.length (x.lb.flatMap lbP)), .p (pI x.k), .p (pI x.w), x'] false) (by simp)
    simp only [go_sem, ti3, ti4, ti5, ti32, ti39, ti41, ti31, ti96, ti87, ti29, ti22, ti26, ti23, Int.natCast_zero, hF, g7]; refine hK _ _ ?_; clear hK K
    have h6 := OA.setAt (A := G2) (B := []) (k := k6) (o' := .cells [.p (.lst x.lb.length (x.lb.flatMap lbP)), .p (pI x.k), .p (pI x.w), x2] false) (R := [(2, .cells [.nils, .p (pI 0), .p (pI 0), .nils] false), (1, .cells (u.pd.map .p) false), (0, .cells (x.pd.map .p) false)]) hs4 rfl
    simp only [St.nx_put, St.nx_adv] at hnx4
    refine ⟨x2, G2, rfl, by simp only [Fs, Int.natCast_zero, go_sem, ti3, ti4, ti5, ti32, ti39, ti41, ti31, ti96, ti87, ti29, ti22, ti26, ti23, Int.natCast_zero, hF], OA.mono h6 ?_, hG4⟩
    simp only [St.nx_put, St.nx_adv]
    omega
  have hZl : (acc ++ P ++ Q).length ≤ 4000 := by simp only [List.length_append]; omega
  generalize acc ++ P ++ Q = Z at *
  clear hF ho hG hG' h5 g6 g6' hs hnx e s1 hz
  rintro ⟨e, ds, s1⟩ ⟨xc, G, rfl, hF, ho, hG⟩
  simp only [Fs] at hF ho
  have g6 := ho.at_ (k6, .cells [.p (.lst x.lb.length (x.lb.flatMap lbP)), .p (pI x.k), .p (pI x.w), xc] false) (by simp)
  have g2 := ho.at_ (2, .cells [.nils, .p (pI 0), .p (pI 0), .nils] false) (by simp)
  have n2 : ∀ j, (2 = s1.nx + j) = False := fun j => by have := ho.lt g2; simp; omega
  have n2' : ∀ j, (s1.nx + j = 2) = False := fun j => by have := ho.lt g2; simp; omega
  have glen := hG.len
  have n4 : ¬ ((4 : Int) = 0) := by decide
  have hO : meO x u (some Z) = if limB (meP x u Z) then 4 else 0 := rfl
  rw [hO]
  refine Wc.seq (Wc.seq ?_)
  refine Wc.reg fun K hK => ?_; simp only [go_sem, ti3, ti4, ti5, ti32, ti39, ti41, ti31, ti96, ti87, ti29, ti22, ti26, ti23, Int.natCast_zero, hF, g6, glen]; refine hK _ _ ?_; clear hK K
  refine Wc.cond (t := decide ((2000 : Int) < Z.length)) (by simp only [go_sem, ti3, ti4, ti5, ti32, ti39, ti41, ti31, ti96, ti87, ti29, ti22, ti26, ti23, Int.natCast_zero, hF]) (fun hc => ?_) (fun hc => ?_)
  · have hlt := of_decide_eq_true hc
    have hl : limB (meP x u Z) = true := by rw [limB, Bool.or_eq_true]; right; exact decide_eq_true (show 2000 < Z.length by omega)
    rw [hl, if_pos rfl, if_neg n4]
    refine Wc.seq ?_
    refine Wc.reg fun K hK => ?_; simp only [go_sem, ti3, ti4, ti5, ti32, ti39, ti41, ti31, ti96, ti87, ti29, ti22, ti26, ti23, Int.natCast_zero, hF, g2]; refine hK _ _ ?_; clear hK K
    exact Wc.ret (Pf.ret [.cell 4 31, .tmp 5] [.agg [.nils, .p (pI 0), .p (pI 0), .nils], .c (.p (pI 4))] rfl rfl (by simp only [resultsD, go_sem, ti3, ti4, ti5, ti32, ti39, ti41, ti31, ti96, ti87, ti29, ti22, ti26, ti23, Int.natCast_zero, hF]) rfl)
  have hlt := of_decide_eq_false hc
  have hl : limB (meP x u Z) = bigB Z := by
    rw [limB, decide_eq_false (show ¬ 2000 < (meP x u Z).bs.length from show ¬ 2000 < Z.length by omega), Bool.or_false]; rfl
  rw [hl]
  refine Wc.skip (Wc.seqR (fun y => bigB Z = false ∧ y.ds = [] ∧ Fs y.e 170 [(4, .v (.c (.ref 2 0))), (6, .v (.c (.ref k6 0)))] ∧ OA y.s.nx y.s [] (G ++ [(k6, .cells [.p (.lst x.lb.length (x.lb.flatMap lbP)), .p (pI x.k), .p (pI x.w), xc] false), (2, .cells [.nils, .p (pI 0), .p (pI 0), .nils] false), (1, .cells (u.pd.map .p) false), (0, .cells (x.pd.map .p) false)])) ?_ ?_)
  · refine Wc.seq ?_
    refine Wc.reg fun K hK => ?_; simp only [go_sem, ti3, ti4, ti5, ti32, ti39, ti41, ti31, ti96, ti87, ti29, ti22, ti26, ti23, Int.natCast_zero, hF, g6, glen]; refine hK _ _ ?_; clear hK K
    refine Wc.block (Wc.loop (fun c y => ∃ i : Nat, c = Z.length - i ∧ (i ≤ Z.length ∧ bigB (Z.drop i) = bigB Z) ∧ y.ds = [] ∧ Fs y.e 170 [(4, .v (.c (.ref 2 0))), (6, .v (.c (.ref k6 0))), (158, .v (.c xc)), (159, P' (pI Z.length)), (160, P' (pI i))] ∧ OA y.s.nx y.s [] (G ++ [(k6, .cells [.p (.lst x.lb.length (x.lb.flatMap lbP)), .p (pI x.k), .p (pI x.w), xc] false), (2, .cells [.nils, .p (pI 0), .p (pI 0), .nils] false), (1, .cells (u.pd.map .p) false), (0, .cells (x.pd.map .p) false)])) ?_ (k := Z.length) ⟨0, rfl, ⟨by omega, rfl⟩, rfl, by simp only [Fs, Int.natCast_zero, go_sem, ti3, ti4, ti5, ti32, ti39, ti41, ti31, ti96, ti87, ti29, ti22, ti26, ti23, Int.natCast_zero, hF], by (try simp only [St.nx_put, St.nx_adv]); repeat (first | exact OA.mono ho (by omega) | refine OA.newB ?_ (by omega) rfl | refine OA.advB ?_)⟩)
    clear hF ho g6 g2 n2 n2' e s1
    rintro c ⟨e, ds, s1⟩ ⟨i, rfl, ⟨hi, hb⟩, rfl, hF, ho⟩
    simp only [Fs] at hF ho
    have g2 := ho.at_ (2, .cells [.nils, .p (pI 0), .p (pI 0), .nils] false) (by simp)
    have n2 : ∀ j, (2 = s1.nx + j) = False := fun j => by have := ho.lt g2; simp; omega
    have n2' : ∀ j, (s1.nx + j = 2) = False := fun j => by have := ho.lt g2; simp; omega
    refine Wc.seq ?_
    refine Wc.reg fun K hK => ?_; simp only [go_sem, ti3, ti4, ti5, ti32, ti39, ti41, ti31, ti96, ti87, ti29, ti22, ti26, ti23, Int.natCast_zero, hF]; refine hK _ _ ?_; clear hK K
    refine Wc.seq ?_
    refine Wc.cond (t := decide ((i : Int) < Z.length)) (by simp only [go_sem, ti3, ti4, ti5, ti32, ti39, ti41, ti31, ti96, ti87, ti29, ti22, ti26, ti23, Int.natCast_zero, hF]) (fun hc => ?_) (fun hc => ?_)
    · have hil : i < Z.length := by have := of_decide_eq_true hc; omega
      obtain ⟨b, hbi⟩ : ∃ b, Z[i]? = some b := ⟨Z[i], List.getElem?_eq_getElem hil⟩
      rw [bigB_step hbi] at hb
      rcases hG with ⟨_, h0, _⟩ | ⟨id, rfl, rfl⟩
      · rw [h0] at hil; simp at hil
      have gi := ho.at_ (id, .grow 10 Z.length (cB Z) false) (by simp)
      have hix : indexAddrD E0 29 (.v (.c (.gs Z.length id 0 Z.length 10))) (.v (.c (.p (.int .i64 (i : Int))))) = _ := ixG ti29 rfl ti41 (j := i) (n := Z.length) hil rfl
      simp only [Nat.zero_add] at hix
      have hle : (i * 10 ≤ (cB Z).length) = True := by rw [cB_len]; simp; omega
      have hdr : (cB Z).drop (i * 10) = b.pd.map .p ++ cB (Z.drop (i + 1)) := by
        rw [cB, ← List.map_drop, drop_flat (f := Bkt.pd) (k := 10) (fun _ => rfl) hbi, List.map_append, cB]
      refine Wc.skip (Wc.seq (Wc.block (Wc.seq ?_)))
      refine Wc.reg fun K hK => ?_; simp only [go_sem, ti3, ti4, ti5, ti32, ti39, ti41, ti31, ti96, ti87, ti29, ti22, ti26, ti23, Int.natCast_zero, hF, hix, gi, hle, hdr]; refine hK _ _ ?_; clear hK K
      refine Wc.seq ?_
      refine Wc.reg fun K hK => ?_; simp only [go_sem, ti3, ti4, ti5, ti32, ti39, ti41, ti31, ti96, ti87, ti29, ti22, ti26, ti23, Int.natCast_zero, hF]; refine hK _ _ ?_; clear hK K
      refine Wc.cond (t := decide (2000 < b.c)) (by simp only [go_sem, ti3, ti4, ti5, ti32, ti39, ti41, ti31, ti96, ti87, ti29, ti22, ti26, ti23, Int.natCast_zero, hF]) (fun hc => ?_) (fun hc => ?_)
      · rw [hc, Bool.true_or] at hb
        rw [← hb, if_pos rfl, if_neg n4]
        refine Wc.seq ?_
        refine Wc.reg fun K hK => ?_; simp only [go_sem, ti3, ti4, ti5, ti32, ti39, ti41, ti31, ti96, ti87, ti29, ti22, ti26, ti23, Int.natCast_zero, hF, g2, n2, n2']; refine hK _ _ ?_; clear hK K
        exact Wc.ret (Pf.ret [.cell 4 31, .tmp 5] [.agg [.nils, .p (pI 0), .p (pI 0), .nils], .c (.p (pI 4))] rfl rfl (by simp only [resultsD, go_sem, ti3, ti4, ti5, ti32, ti39, ti41, ti31, ti96, ti87, ti29, ti22, ti26, ti23, Int.natCast_zero, hF]) rfl)
      · rw [hc, Bool.false_or] at hb
        refine Wc.skip ?_
        refine Wc.reg fun K hK => ?_; simp only [go_sem, ti3, ti4, ti5, ti32, ti39, ti41, ti31, ti96, ti87, ti29, ti22, ti26, ti23, Int.natCast_zero, hF, i64n i (by omega)]; refine hK _ _ ?_; clear hK K
        exact ⟨Z.length - (i + 1), by omega, i + 1, rfl, ⟨by omega, hb⟩, rfl, by simp only [Fs, Int.natCast_zero, go_sem, ti3, ti4, ti5, ti32, ti39, ti41, ti31, ti96, ti87, ti29, ti22, ti26, ti23, Int.natCast_zero, hF], by (try simp only [St.put_adv, St.adv_adv, St.put_put, St.nx_put, St.nx_adv]); repeat (first | exact OA.mono ho (by omega) | refine OA.newB ?_ (by omega) rfl | refine OA.putB ?_ (by omega) | refine OA.advB ?_)⟩
    · have hil : i = Z.length := by have := of_decide_eq_false hc; omega
      rw [hil, List.drop_length] at hb
      exact Wc.exit ⟨hb.symm, rfl, by simp only [Fs, Int.natCast_zero, go_sem, ti3, ti4, ti5, ti32, ti39, ti41, ti31, ti96, ti87, ti29, ti22, ti26, ti23, Int.natCast_zero, hF], by (try simp only [St.nx_put, St.nx_adv]); repeat (first | exact OA.mono ho (by omega) | refine OA.newB ?_ (by omega) rfl | refine OA.advB ?_)⟩
  clear hF ho g6 g2 n2 n2' e s1
  rintro ⟨e, ds, s1⟩ ⟨hb, rfl, hF, ho⟩
  simp only [Fs] at hF ho
  have g6 := ho.at_ (k6, .cells [.p (.lst x.lb.length (x.lb.flatMap lbP)), .p (pI x.k), .p (pI x.w), xc] false) (by simp)
  have g2 := ho.at_ (2, .cells [.nils, .p (pI 0), .p (pI 0), .nils] false) (by simp)
  rw [hb, if_neg Bool.false_ne_true, if_pos rfl]
  refine Wc.seq ?_
  refine Wc.reg fun K hK => ?_; simp only [go_sem, ti3, ti4, ti5, ti32, ti39, ti41, ti31, ti96, ti87, ti29, ti22, ti26, ti23, Int.natCast_zero, hF, g6, g2]; refine hK _ _ ?_; clear hK K
  have h7 := OA.setAt (A := G) (B := [(k6, .cells [.p (.lst x.lb.length (x.lb.flatMap lbP)), .p (pI x.k), .p (pI x.w), xc] false)]) (k := 2) (o' := .cells [.p (.lst x.lb.length (x.lb.flatMap lbP)), .p (pI x.k), .p (pI x.w), xc] false) (R := [(1, .cells (u.pd.map .p) false), (0, .cells (x.pd.map .p) false)]) ho rfl
  exact Wc.ret (Pf.retG [.cell 4 31, .tmp 5] rfl rfl (by simp only [resultsD, go_sem, ti3, ti4, ti5, ti32, ti39, ti41, ti31, ti96, ti87, ti29, ti22, ti26, ti23, Int.natCast_zero, hF]) h7.adv hG)
end Go.Proofs.YtedcnhbblgmdnaaGreat.Ab
namespace Go.Proofs.YtedcnhbblgmdnaaGreat.Ab
set_option maxHeartbeats 8000000
set_option maxRecDepth 10000
set_option linter.unusedSimpArgs false
set_option linter.unusedVariables false
theorem x12 : E0.xt 12 = none := by kernel_rfl
end Go.Proofs.YtedcnhbblgmdnaaGreat.Ab
namespace Go.Proofs.YtedcnhbblgmdnaaGreat.Ab
set_option maxHeartbeats 8000000
set_option maxRecDepth 10000
set_option linter.unusedSimpArgs false
set_option linter.unusedVariables false
/-! ### slices of samples that are objects of the state -/
def cS (l : List I2) : List C := (l.flatMap p2).map .p
theorem fS (l : List I2) : (l.flatMap p2).length = l.length * 2 := flat_len (k := 2) (fun _ => rfl) _
theorem cS_len (l : List I2) : (cS l).length = l.length * 2 := by rw [cS, List.length_map]; exact fS l
theorem cS_app (l m : List I2) : cS (l ++ m) = cS l ++ cS m := by simp [cS]
theorem cS_drop {l : List I2} {i : Nat} {x : I2} (h : l[i]? = some x) : (cS l).drop (i * 2) = (p2 x).map .p ++ cS (l.drop (i + 1)) := by
  rw [cS, ← List.map_drop, drop_flat (f := p2) (k := 2) (fun _ => rfl) h, List.map_append, cS]
def GS (x : C) (l : List I2) (G : List (Nat × Ob)) : Prop := (x = .nils ∧ l = [] ∧ G = []) ∨ ∃ id, x = .gs l.length id 0 l.length 2 ∧ G = [(id, .grow 2 l.length (cS l) false)]
theorem GS.app {b key : Nat} {s : St} {L : List (Nat × D × Nat × List Pd)} {M G : List (Nat × Ob)} {x : C} {l m : List I2} {y : D} {K : D → St → Prop} (ho : OA b s L (G ++ M)) (hx : GS x l G) (hkey : b ≤ key) (hn : l.length + m.length < 2^30) (hy : srcD E0 23 s y = some (m.length, m.flatMap p2)) (hm : m ≠ [])
    (hk : ∀ x' G' s', OA (key + 1) s' L (G' ++ M) → s'.nx = s.nx → GS x' (l ++ m) G' → K (.v (.c x')) s') : stepK (appendD E0 key [23, 23] (.v (.c x)) y s) K := by
  have hfl := fS m
  have hm0 : 0 < m.length := List.length_pos_iff.2 hm
  rcases hx with ⟨rfl, rfl, rfl⟩ | ⟨id, rfl, rfl⟩
  · refine OA.appN (by_ := 16) (m := m.length) (ys := m.flatMap p2) (L := L) (M := M) ho hkey rfl ⟨_, ti23, rfl⟩ ti39 rfl rfl rfl (by decide) (by decide) hy hfl hm0 (by simp only [List.length_nil] at hn; omega) fun s' hs hnx => ?_
    exact hk _ [(key, .grow 2 m.length (cS m) false)] s' hs hnx (.inr ⟨key, by simp, by simp⟩)
  · refine OA.appG (M1 := []) (M2 := M) (by_ := 16) (n := l.length) (m := m.length) (ys := m.flatMap p2) (cs := cS l) (L := L) ho rfl ⟨_, ti23, rfl⟩ ti39 rfl rfl rfl (by decide) (by decide) hy hfl (by omega) fun s' hs hnx => ?_
    refine hk _ [(id, .grow 2 (l.length + m.length) (cS l ++ (m.flatMap p2).map .p) false)] s' (hs.mono (by omega)) hnx (.inr ⟨id, by rw [List.length_append], by rw [List.length_append, cS_app]; rfl⟩)
theorem GS.len {x : C} {l : List I2} {G : List (Nat × Ob)} (h : GS x l G) : lenD E0 23 (.v (.c x)) = some (.v (.c (.p (.int .i64 l.length)))) := by
  rcases h with ⟨rfl, rfl, _⟩ | ⟨id, rfl, _⟩
  · rw [lenD_nils, ti23]; rfl
  · rw [lenD_gs, ti23]; rfl
theorem GS.pur2 {b : Nat} {s : St} {L : List (Nat × D × Nat × List Pd)} {M G : List (Nat × Ob)} {x : C} {l : List I2} (ho : OA b s L (G ++ M)) (h : GS x l G) : ∃ s' G', purC s x = some (.lst l.length (l.flatMap p2), s') ∧ OA b s' L (G' ++ M) ∧ s'.nx = s.nx := by
  rcases h with ⟨rfl, rfl, rfl⟩ | ⟨id, rfl, rfl⟩
  · exact ⟨s, [], rfl, ho, rfl⟩
  · have g : s.get id = some (.grow 2 l.length (cS l) false) := ho.at_ (id, .grow 2 l.length (cS l) false) (by simp)
    have hf := fS l
    have hall : allM purS (cS l) = some (l.flatMap p2) := allM_p _
    refine ⟨s.put id (.grow 2 l.length ((l.flatMap p2).map .p) true), [(id, .grow 2 l.length ((l.flatMap p2).map .p) true)], ?_, OA.set (M1 := []) ho rfl, rfl⟩
    simp only [purC, g, hall, true_and, Nat.zero_add, hf, Nat.le_refl, if_true, List.drop_zero]
    rw [List.take_of_length_le (by omega)]
theorem filt_take {p : I2 → Bool} {l : List I2} {j : Nat} {y : I2} (h : l[j]? = some y) : (l.take (j + 1)).filter p = (l.take j).filter p ++ (if p y then [y] else []) := by
  rw [take_succ h, List.filter_append]
  cases hp : p y <;> simp [hp]
end Go.Proofs.YtedcnhbblgmdnaaGreat.Ab
