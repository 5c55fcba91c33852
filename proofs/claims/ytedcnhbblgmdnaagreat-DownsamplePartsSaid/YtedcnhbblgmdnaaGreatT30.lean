/- A part of the proof: an evaluator of the code, its contracts, the law. No condition. -/
import Derived.Test.YtedcnhbblgmdnaaGreatT29
namespace Go.Proofs.YtedcnhbblgmdnaaGreat.Ab
set_option maxHeartbeats 8000000
set_option maxRecDepth 10000
set_option linter.unusedSimpArgs false
set_option linter.unusedVariables false
/-! ### slices.Clone, IndexFunc, DeleteFunc of samples -/
/-- 25: slices.Clone, in its caller's state -/
theorem call25 {s : St} {L : List (Nat × D × Nat × List Pd)} {M : List (Nat × Ob)} {l : List I2} {K : D → St → Prop} (ho : OA s.nx s L M) (hne : l ≠ []) (hl : l.length ≤ 2000)
    (hK : ∀ id s', OA s'.nx s' L ((id, .grow 2 l.length (cS l) false) :: M) → s.nx ≤ s'.nx → K (.v (.c (.gs l.length id 0 l.length 2))) s') : wpCall E0 (P' (.fnc 25)) [.v (.c (.p (.lst l.length (l.flatMap p2))))] s K := by
  have h0 : (0 < (l.flatMap p2).length) = True := by
    have := List.length_pos_iff.2 hne
    rw [fS]; simp; omega
  refine wpCall.opn (fn := Tryz.f25) (by kernel_rfl) (by kernel_rfl) rfl (by kernel_rfl) rfl ?_; simp only [List.map_cons, List.map_nil, List.cons_append, List.nil_append, List.length_cons, List.length_nil, Tryz.ntmps25, List.replicate, Nat.reduceSub, Nat.reduceAdd]
  refine Wc.seq ?_
  refine Wc.reg fun K hK => ?_; simp only [go_sem, ti3, ti4, ti5, ti32, ti39, ti41, ti31, ti96, ti87, ti29, ti22, ti26, ti23, Int.natCast_zero]; refine hK _ _ ?_; clear hK K
  refine Wc.seq (Wc.seq ?_)
  refine Wc.reg fun K hK => ?_; simp only [go_sem, ti3, ti4, ti5, ti32, ti39, ti41, ti31, ti96, ti87, ti29, ti22, ti26, ti23, Int.natCast_zero, h0]; refine hK _ _ ?_; clear hK K
  refine Wc.cond (t := false) (by simp only [go_sem, ti3, ti4, ti5, ti32, ti39, ti41, ti31, ti96, ti87, ti29, ti22, ti26, ti23, Int.natCast_zero]) (fun hc => by cases hc) (fun _ => Wc.skip ?_)
  refine Wc.seq ?_
  refine Wc.reg fun K hK => ?_; simp only [go_sem, ti3, ti4, ti5, ti32, ti39, ti41, ti31, ti96, ti87, ti29, ti22, ti26, ti23, Int.natCast_zero]
  refine GS.app (l := []) (m := l) (M := M) (G := [(s.nx + 3, .grow 2 0 (cS []) false)]) (L := L) ?_ (.inr ⟨s.nx + 3, rfl, rfl⟩) (Nat.le_refl _) (by simp only [List.length_nil]; omega) (by simp only [go_sem, ti3, ti4, ti5, ti32, ti39, ti41, ti31, ti96, ti87, ti29, ti22, ti26, ti23, Int.natCast_zero]) hne fun x' G' s3 hs hnx hG' => ?_
  · exact by (try simp only [St.nx_put, St.nx_adv]); repeat (first | exact OA.mono ho (by omega) | refine OA.newB ?_ (by omega) rfl | refine OA.putB ?_ (by omega) | refine OA.advB ?_)
  rcases hG' with ⟨_, h1, _⟩ | ⟨id, rfl, rfl⟩
  · exact absurd h1 hne
  simp only [St.nx_put, St.nx_adv] at hnx
  simp only [go_sem, ti3, ti4, ti5, ti32, ti39, ti41, ti31, ti96, ti87, ti29, ti22, ti26, ti23, Int.natCast_zero]; refine hK _ _ ?_; clear hK K
  refine Wc.ret (Op.ret [.tmp 2] [.c (.gs l.length id 0 l.length 2)] rfl rfl (by simp only [resultsD, go_sem, ti3, ti4, ti5, ti32, ti39, ti41, ti31, ti96, ti87, ti29, ti22, ti26, ti23, Int.natCast_zero]) (hK id _ ?_ ?_))
  · exact OA.mono hs (by simp only [St.nx_adv]; omega)
  · simp only [St.nx_adv]; omega
/-- A function value that tells a sample by a predicate, its captured cell being as told. -/
def PredC (fv : C) (p : I2 → Bool) (kt : Nat) (t : Int) : Prop := ∀ (y : I2) (s : St) (L : List (Nat × D × Nat × List Pd)) (M : List (Nat × Ob)) (K : D → St → Prop), OA s.nx s L M → (kt, .cells [.p (pI t)] false) ∈ M →
  (∀ s', OA s'.nx s' L M → s.nx ≤ s'.nx → K (P' (.bool (p y))) s') → wpCall E0 (.v (.c fv)) [.v (.agg ((p2 y).map .p))] s K
theorem pred26 (kt : Nat) (t : Int) : PredC (.fn (.func 26) [] [.ref kt 0]) (fun y => decide (t < y.1)) kt t := by
  intro y s L M K ho hm hK
  have gt := ho.at_ _ hm
  have hlt := ho.lt gt
  have n1 : ∀ j, (kt = s.nx + j) = False := fun j => by simp; omega
  have n2 : ∀ j, (s.nx + j = kt) = False := fun j => by simp; omega
  have n3 : (kt = s.nx) = False := by simp; omega
  have n4 : (s.nx = kt) = False := by simp; omega
  refine wpCall.val (fn := Tryz.f26) rfl (by kernel_rfl) rfl ?_; simp only [List.map_cons, List.map_nil, List.cons_append, List.nil_append, List.length_cons, List.length_nil, Tryz.ntmps26, List.replicate, Nat.reduceSub, Nat.reduceAdd]
  refine Wc.seq ?_
  refine Wc.reg fun K hK => ?_; simp only [go_sem, ti3, ti4, ti5, ti32, ti39, ti41, ti31, ti96, ti87, ti29, ti22, ti26, ti23, Int.natCast_zero]; refine hK _ _ ?_; clear hK K
  refine Wc.seq ?_
  refine Wc.reg fun K hK => ?_; simp only [go_sem, ti3, ti4, ti5, ti32, ti39, ti41, ti31, ti96, ti87, ti29, ti22, ti26, ti23, Int.natCast_zero, gt, n1, n2, n3, n4]; refine hK _ _ ?_; clear hK K
  refine Wc.ret (Op.ret [.tmp 3] [.c (.p (.bool (decide (t < y.1))))] rfl rfl (by simp only [resultsD, go_sem, ti3, ti4, ti5, ti32, ti39, ti41, ti31, ti96, ti87, ti29, ti22, ti26, ti23, Int.natCast_zero]) (hK _ ?_ ?_))
  · exact by (try simp only [St.nx_put, St.nx_adv]); repeat (first | exact OA.mono ho (by omega) | refine OA.newB ?_ (by omega) rfl | refine OA.putB ?_ (by omega) | refine OA.advB ?_)
  · simp only [St.nx_put, St.nx_adv]; omega
theorem pred27 (kt : Nat) (t : Int) : PredC (.fn (.func 27) [] [.ref kt 0]) (fun y => decide (y.1 ≤ t)) kt t := by
  intro y s L M K ho hm hK
  have gt := ho.at_ _ hm
  have hlt := ho.lt gt
  have n1 : ∀ j, (kt = s.nx + j) = False := fun j => by simp; omega
  have n2 : ∀ j, (s.nx + j = kt) = False := fun j => by simp; omega
  have n3 : (kt = s.nx) = False := by simp; omega
  have n4 : (s.nx = kt) = False := by simp; omega
  refine wpCall.val (fn := Tryz.f27) rfl (by kernel_rfl) rfl ?_; simp only [List.map_cons, List.map_nil, List.cons_append, List.nil_append, List.length_cons, List.length_nil, Tryz.ntmps27, List.replicate, Nat.reduceSub, Nat.reduceAdd]
  refine Wc.seq ?_
  refine Wc.reg fun K hK => ?_; simp only [go_sem, ti3, ti4, ti5, ti32, ti39, ti41, ti31, ti96, ti87, ti29, ti22, ti26, ti23, Int.natCast_zero]; refine hK _ _ ?_; clear hK K
  refine Wc.seq ?_
  refine Wc.reg fun K hK => ?_; simp only [go_sem, ti3, ti4, ti5, ti32, ti39, ti41, ti31, ti96, ti87, ti29, ti22, ti26, ti23, Int.natCast_zero, gt, n1, n2, n3, n4]; refine hK _ _ ?_; clear hK K
  refine Wc.ret (Op.ret [.tmp 3] [.c (.p (.bool (decide (y.1 ≤ t))))] rfl rfl (by simp only [resultsD, go_sem, ti3, ti4, ti5, ti32, ti39, ti41, ti31, ti96, ti87, ti29, ti22, ti26, ti23, Int.natCast_zero]) (hK _ ?_ ?_))
  · exact by (try simp only [St.nx_put, St.nx_adv]); repeat (first | exact OA.mono ho (by omega) | refine OA.newB ?_ (by omega) rfl | refine OA.putB ?_ (by omega) | refine OA.advB ?_)
  · simp only [St.nx_put, St.nx_adv]; omega
/-- 55: slices.IndexFunc, in its caller's state -/
theorem call55 {s : St} {L : List (Nat × D × Nat × List Pd)} {M : List (Nat × Ob)} {l : List I2} {id kt : Nat} {t : Int} {fv : C} {p : I2 → Bool} {K : D → St → Prop} (hp : PredC fv p kt t) (ho : OA s.nx s L ((id, .grow 2 l.length (cS l) false) :: M)) (hm : (kt, .cells [.p (pI t)] false) ∈ M) (hl : l.length ≤ 2000)
    (hK0 : (∀ y ∈ l, p y = false) → ∀ s', OA s'.nx s' L ((id, .grow 2 l.length (cS l) false) :: M) → s.nx ≤ s'.nx → K (P' (pI (-1))) s')
    (hK1 : ∀ (i : Nat) y, l[i]? = some y → p y = true → (∀ z ∈ l.take i, p z = false) → ∀ s', OA s'.nx s' L ((id, .grow 2 l.length (cS l) false) :: M) → s.nx ≤ s'.nx → K (P' (pI i)) s') : wpCall E0 (P' (.fnc 55)) [.v (.c (.gs l.length id 0 l.length 2)), .v (.c fv)] s K := by
  have glen : lenD E0 23 (.v (.c (.gs l.length id 0 l.length 2))) = _ := lenD_gs _ _ _ _ _ _ _
  rw [ti23] at glen
  refine wpCall.opn (fn := Tryz.f55) (by kernel_rfl) (by kernel_rfl) rfl (by kernel_rfl) rfl ?_; simp only [List.map_cons, List.map_nil, List.cons_append, List.nil_append, List.length_cons, List.length_nil, Tryz.ntmps55, List.replicate, Nat.reduceSub, Nat.reduceAdd]
  refine Wc.seq ?_
  refine Wc.reg fun K hK => ?_; simp only [go_sem, ti3, ti4, ti5, ti32, ti39, ti41, ti31, ti96, ti87, ti29, ti22, ti26, ti23, Int.natCast_zero]; refine hK _ _ ?_; clear hK K
  refine Wc.seqR (fun y => (∀ z ∈ l, p z = false) ∧ y.ds = [] ∧ Fs y.e 19 [(4, P' (pI 0))] ∧ OA y.s.nx y.s L ((id, .grow 2 l.length (cS l) false) :: M) ∧ s.nx ≤ y.s.nx) ?_ ?_
  · refine Wc.seq ?_
    refine Wc.reg fun K hK => ?_; simp only [go_sem, ti3, ti4, ti5, ti32, ti39, ti41, ti31, ti96, ti87, ti29, ti22, ti26, ti23, Int.natCast_zero]; refine hK _ _ ?_; clear hK K
    refine Wc.block (Wc.loop (fun c y => ∃ i : Nat, (c = l.length - i ∧ i ≤ l.length ∧ ∀ z ∈ l.take i, p z = false) ∧ y.ds = [] ∧ Fs y.e 19 [(0, .v (.c (.gs l.length id 0 l.length 2))), (1, .v (.c fv)), (4, P' (pI 0)), (7, P' (pI l.length)), (8, P' (pI i))] ∧ OA y.s.nx y.s L ((id, .grow 2 l.length (cS l) false) :: M) ∧ s.nx ≤ y.s.nx) ?_ (k := l.length) ⟨0, ⟨rfl, by omega, fun z hz => by simp at hz⟩, rfl, by simp only [Fs, Int.natCast_zero, go_sem, ti3, ti4, ti5, ti32, ti39, ti41, ti31, ti96, ti87, ti29, ti22, ti26, ti23, Int.natCast_zero], by (try simp only [St.nx_put, St.nx_adv]); repeat (first | exact OA.mono ho (by omega) | refine OA.newB ?_ (by omega) rfl | refine OA.advB ?_), by simp only [St.nx_adv]; omega⟩)
    rintro c ⟨e, ds, s1⟩ ⟨i, ⟨rfl, hi, hz⟩, rfl, hF, ho, hnx⟩
    simp only [Fs] at hF ho hnx
    have g := ho.at_ (id, .grow 2 l.length (cS l) false) (by simp)
    refine Wc.seq ?_
    refine Wc.reg fun K hK => ?_; simp only [go_sem, ti3, ti4, ti5, ti32, ti39, ti41, ti31, ti96, ti87, ti29, ti22, ti26, ti23, Int.natCast_zero, hF]; refine hK _ _ ?_; clear hK K
    refine Wc.seq ?_
    refine Wc.cond (t := decide ((i : Int) < l.length)) (by simp only [go_sem, ti3, ti4, ti5, ti32, ti39, ti41, ti31, ti96, ti87, ti29, ti22, ti26, ti23, Int.natCast_zero, hF]) (fun hc => ?_) (fun hc => ?_)
    · have hil : i < l.length := by have := of_decide_eq_true hc; omega
      obtain ⟨y, hy⟩ : ∃ y, l[i]? = some y := ⟨l[i], List.getElem?_eq_getElem hil⟩
      have hix : indexAddrD E0 23 (.v (.c (.gs l.length id 0 l.length 2))) (.v (.c (.p (.int .i64 (i : Int))))) = _ := ixG ti23 rfl ti39 (j := i) (n := l.length) hil rfl
      simp only [Nat.zero_add] at hix
      have hdr := cS_drop hy
      have hle : (i * 2 ≤ (cS l).length) = True := by rw [cS_len]; simp; omega
      refine Wc.skip (Wc.seq (Wc.block (Wc.seq ?_)))
      refine Wc.reg fun K hK => ?_; simp only [go_sem, ti3, ti4, ti5, ti32, ti39, ti41, ti31, ti96, ti87, ti29, ti22, ti26, ti23, Int.natCast_zero, hF]; refine hK _ _ ?_; clear hK K
      refine Wc.seq ?_
      refine Wc.reg fun K hK => ?_; simp only [go_sem, ti3, ti4, ti5, ti32, ti39, ti41, ti31, ti96, ti87, ti29, ti22, ti26, ti23, Int.natCast_zero, hF, hix, g, hle, hdr]
      refine hp y _ L ((id, .grow 2 l.length (cS l) false) :: M) _ ?_ (List.mem_cons_of_mem _ hm) fun s2 hs2 hnx2 => ?_
      · exact by (try simp only [St.nx_put, St.nx_adv]); repeat (first | exact OA.mono ho (by omega) | refine OA.newB ?_ (by omega) rfl | refine OA.putB ?_ (by omega) | refine OA.advB ?_)
      simp only [St.nx_adv] at hnx2
      simp only [go_sem, ti3, ti4, ti5, ti32, ti39, ti41, ti31, ti96, ti87, ti29, ti22, ti26, ti23, Int.natCast_zero, hF]; refine hK _ _ ?_; clear hK K
      cases hpy : p y with
      | true =>
        refine Wc.cond (t := true) (by simp only [go_sem, ti3, ti4, ti5, ti32, ti39, ti41, ti31, ti96, ti87, ti29, ti22, ti26, ti23, Int.natCast_zero, hF]) (fun _ => ?_) (fun hc => by cases hc)
        refine Wc.seq ?_
        refine Wc.reg fun K hK => ?_; simp only [go_sem, ti3, ti4, ti5, ti32, ti39, ti41, ti31, ti96, ti87, ti29, ti22, ti26, ti23, Int.natCast_zero, hF]; refine hK _ _ ?_; clear hK K
        refine Wc.ret (show bodyQ E0 Tryz.f55 K .ret _ from ?_)
        refine Op.ret [.tmp 4] [.c (.p (pI i))] rfl rfl (by simp only [resultsD, go_sem, ti3, ti4, ti5, ti32, ti39, ti41, ti31, ti96, ti87, ti29, ti22, ti26, ti23, Int.natCast_zero, hF]) (hK1 i y hy hpy hz _ ?_ ?_)
        · exact by (try simp only [St.nx_put, St.nx_adv]); repeat (first | exact OA.mono hs2 (by omega) | refine OA.newB ?_ (by omega) rfl | refine OA.putB ?_ (by omega) | refine OA.advB ?_)
        · simp only [St.nx_adv]; omega
      | false =>
        refine Wc.cond (t := false) (by simp only [go_sem, ti3, ti4, ti5, ti32, ti39, ti41, ti31, ti96, ti87, ti29, ti22, ti26, ti23, Int.natCast_zero, hF]) (fun hc => by cases hc) (fun _ => Wc.skip ?_)
        refine Wc.reg fun K hK => ?_; simp only [go_sem, ti3, ti4, ti5, ti32, ti39, ti41, ti31, ti96, ti87, ti29, ti22, ti26, ti23, Int.natCast_zero, hF, i64n i (by omega)]; refine hK _ _ ?_; clear hK K
        refine ⟨l.length - (i + 1), by omega, i + 1, ⟨rfl, by omega, fun z hzm => ?_⟩, rfl, by simp only [Fs, Int.natCast_zero, go_sem, ti3, ti4, ti5, ti32, ti39, ti41, ti31, ti96, ti87, ti29, ti22, ti26, ti23, Int.natCast_zero, hF], ?_, ?_⟩
        · rw [take_succ hy] at hzm
          rcases List.mem_append.1 hzm with hzm | hzm
          · exact hz z hzm
          · rw [List.mem_singleton.1 hzm]; exact hpy
        · exact by (try simp only [St.nx_put, St.nx_adv]); repeat (first | exact OA.mono hs2 (by omega) | refine OA.newB ?_ (by omega) rfl | refine OA.putB ?_ (by omega) | refine OA.advB ?_)
        · simp only [St.nx_adv]; omega
    · have hil : i = l.length := by have := of_decide_eq_false hc; omega
      rw [hil, List.take_length] at hz
      exact Wc.exit ⟨hz, rfl, by simp only [Fs, Int.natCast_zero, go_sem, ti3, ti4, ti5, ti32, ti39, ti41, ti31, ti96, ti87, ti29, ti22, ti26, ti23, Int.natCast_zero, hF], by (try simp only [St.nx_put, St.nx_adv]); repeat (first | exact OA.mono ho (by omega) | refine OA.newB ?_ (by omega) rfl | refine OA.advB ?_), by simp only [St.nx_adv]; omega⟩
  rintro ⟨e, ds, s1⟩ ⟨hz, rfl, hF, ho, hnx⟩
  simp only [Fs] at hF ho hnx
  refine Wc.seq ?_
  refine Wc.reg fun K hK => ?_; simp only [go_sem, ti3, ti4, ti5, ti32, ti39, ti41, ti31, ti96, ti87, ti29, ti22, ti26, ti23, Int.natCast_zero, hF]; refine hK _ _ ?_; clear hK K
  refine Wc.ret (Op.ret [.tmp 4] [.c (.p (pI (-1)))] rfl rfl (by simp only [resultsD, go_sem, ti3, ti4, ti5, ti32, ti39, ti41, ti31, ti96, ti87, ti29, ti22, ti26, ti23, Int.natCast_zero, hF]) (hK0 hz _ ?_ ?_))
  · exact by (try simp only [St.nx_put, St.nx_adv]); repeat (first | exact OA.mono ho (by omega) | refine OA.newB ?_ (by omega) rfl | refine OA.putB ?_ (by omega) | refine OA.advB ?_)
  · simp only [St.nx_adv]; omega
end Go.Proofs.YtedcnhbblgmdnaaGreat.Ab
namespace Go.Proofs.YtedcnhbblgmdnaaGreat.Ab
set_option maxHeartbeats 8000000
set_option maxRecDepth 10000
set_option linter.unusedSimpArgs false
set_option linter.unusedVariables false
/-- What DeleteFunc returns: the front of an object of the state, or nothing. -/
def GP (x : C) (A : List I2) (G : List (Nat × Ob)) : Prop := ∃ id B, G = [(id, .grow 2 B.length (cS B) false)] ∧ A.length ≤ B.length ∧ B.take A.length = A ∧ (x = .gs B.length id 0 A.length 2 ∨ (x = .p (.lst 0 []) ∧ A = []))
theorem GP.len {x : C} {A : List I2} {G : List (Nat × Ob)} (h : GP x A G) : lenD E0 23 (.v (.c x)) = some (.v (.c (.p (.int .i64 A.length)))) := by
  obtain ⟨id, B, _, _, _, rfl | ⟨rfl, rfl⟩⟩ := h
  · rw [lenD_gs, ti23]; rfl
  · unfold lenD; rw [ti23]; rfl
theorem GP.pur2 {b : Nat} {s : St} {L : List (Nat × D × Nat × List Pd)} {M G : List (Nat × Ob)} {x : C} {A : List I2} (ho : OA b s L (G ++ M)) (h : GP x A G) : ∃ s' G', purC s x = some (.lst A.length (A.flatMap p2), s') ∧ OA b s' L (G' ++ M) ∧ s'.nx = s.nx := by
  obtain ⟨id, B, rfl, h1, h2, rfl | ⟨rfl, rfl⟩⟩ := h
  · have g : s.get id = some (.grow 2 B.length (cS B) false) := ho.at_ (id, .grow 2 B.length (cS B) false) (by simp)
    have hf := fS B
    have hall : allM purS (cS B) = some (B.flatMap p2) := allM_p _
    refine ⟨s.put id (.grow 2 B.length ((B.flatMap p2).map .p) true), [(id, .grow 2 B.length ((B.flatMap p2).map .p) true)], ?_, OA.set (M1 := []) ho rfl, rfl⟩
    have hle : A.length * 2 ≤ B.length * 2 := Nat.mul_le_mul_right _ h1
    simp only [purC, g, hall, true_and, Nat.zero_add, hf, hle, if_true, List.drop_zero]
    rw [take_flat (k := 2) (fun _ => rfl), h2]
  · exact ⟨s, _, rfl, ho, rfl⟩
theorem cS_set {B : List I2} {i : Nat} {y : I2} (hi : i < B.length) : cS (B.set i y) = (cS B).take (i * 2) ++ (p2 y).map .p ++ (cS B).drop (i * 2 + 2) := by
  have e1 : (cS B).take (i * 2) = cS (B.take i) := by rw [cS, ← List.map_take, take_flat (k := 2) (fun _ => rfl), cS]
  have e2 : (cS B).drop (i * 2 + 2) = cS (B.drop (i + 1)) := by rw [cS, ← List.map_drop, show i * 2 + 2 = (i + 1) * 2 by omega, drop_flats (k := 2) (fun _ => rfl), cS]
  rw [e1, e2, List.set_eq_take_append_cons_drop, if_pos hi, cS_app, List.append_assoc]
  congr 1
theorem repl_cS (n : Nat) : repl n [.p (pI 0), .p (pI 0)] = cS (List.replicate n (0, 0)) := by
  induction n with
  | zero => rfl
  | succ n ih => rw [repl, ih, List.replicate_succ]; rfl
theorem cS_clear {B : List I2} {i : Nat} (hi : i ≤ B.length) : cS (B.take i ++ List.replicate (B.length - i) (0, 0)) = (cS B).take (i * 2) ++ repl (B.length - i) [.p (pI 0), .p (pI 0)] ++ (cS B).drop (i * 2 + (B.length - i) * 2) := by
  have e1 : (cS B).take (i * 2) = cS (B.take i) := by rw [cS, ← List.map_take, take_flat (k := 2) (fun _ => rfl), cS]
  have e2 : (cS B).drop (i * 2 + (B.length - i) * 2) = [] := List.drop_of_length_le (by rw [cS_len]; omega)
  rw [e1, e2, List.append_nil, repl_cS, cS_app]
/-- 24: slices.DeleteFunc, in its caller's state -/
theorem call24 {s : St} {L : List (Nat × D × Nat × List Pd)} {M : List (Nat × Ob)} {l : List I2} {id kt : Nat} {t : Int} {fv : C} {p : I2 → Bool} {K : D → St → Prop} (hp : PredC fv p kt t) (ho : OA s.nx s L ((id, .grow 2 l.length (cS l) false) :: M)) (hm : (kt, .cells [.p (pI t)] false) ∈ M) (hl : l.length ≤ 2000)
    (hK : ∀ xc G s', OA s'.nx s' L (G ++ M) → s.nx ≤ s'.nx → GP xc (l.filter (fun y => !p y)) G → K (.v (.c xc)) s') : wpCall E0 (P' (.fnc 24)) [.v (.c (.gs l.length id 0 l.length 2)), .v (.c fv)] s K := by
  have glen : lenD E0 23 (.v (.c (.gs l.length id 0 l.length 2))) = _ := lenD_gs _ _ _ _ _ _ _
  rw [ti23] at glen
  have em1 : ((-1 : Int) == -1) = true := rfl
  refine wpCall.opn (fn := Tryz.f24) (by kernel_rfl) (by kernel_rfl) rfl (by kernel_rfl) rfl ?_; simp only [List.map_cons, List.map_nil, List.cons_append, List.nil_append, List.length_cons, List.length_nil, Tryz.ntmps24, List.replicate, Nat.reduceSub, Nat.reduceAdd]
  refine Wc.seq ?_
  refine Wc.reg fun K hK => ?_; simp only [go_sem, ti3, ti4, ti5, ti32, ti39, ti41, ti31, ti96, ti87, ti29, ti22, ti26, ti23, Int.natCast_zero]; refine hK _ _ ?_; clear hK K
  refine Wc.seq ?_
  refine Wc.reg fun K hK => ?_; simp only [go_sem, ti3, ti4, ti5, ti32, ti39, ti41, ti31, ti96, ti87, ti29, ti22, ti26, ti23, Int.natCast_zero]
  refine call55 hp (l := l) (id := id) (L := L) (M := M) ?_ hm hl (fun hz s1 hs hnx => ?_) (fun i0 y0 hy0 hpy0 hz s1 hs hnx => ?_)
  · exact by (try simp only [St.nx_put, St.nx_adv]); repeat (first | exact OA.mono ho (by omega) | refine OA.newB ?_ (by omega) rfl | refine OA.putB ?_ (by omega) | refine OA.advB ?_)
  · simp only [St.nx_adv] at hnx
    simp only [go_sem, ti3, ti4, ti5, ti32, ti39, ti41, ti31, ti96, ti87, ti29, ti22, ti26, ti23, Int.natCast_zero]; refine hK _ _ ?_; clear hK K
    refine Wc.seq (Wc.seq ?_)
    refine Wc.reg fun K hK => ?_; simp only [go_sem, ti3, ti4, ti5, ti32, ti39, ti41, ti31, ti96, ti87, ti29, ti22, ti26, ti23, Int.natCast_zero, em1]; refine hK _ _ ?_; clear hK K
    refine Wc.cond (t := true) (by simp only [go_sem, ti3, ti4, ti5, ti32, ti39, ti41, ti31, ti96, ti87, ti29, ti22, ti26, ti23, Int.natCast_zero, em1]) (fun _ => ?_) (fun hc => by cases hc)
    refine Wc.seq ?_
    refine Wc.reg fun K hK => ?_; simp only [go_sem, ti3, ti4, ti5, ti32, ti39, ti41, ti31, ti96, ti87, ti29, ti22, ti26, ti23, Int.natCast_zero]; refine hK _ _ ?_; clear hK K
    have hf : l.filter (fun y => !p y) = l := List.filter_eq_self.2 fun y hy => by simp [hz y hy]
    refine Wc.ret (thenD_ret ?_)
    refine Op.ret [.tmp 4] [.c (.gs l.length id 0 l.length 2)] rfl rfl (by simp only [resultsD, go_sem, ti3, ti4, ti5, ti32, ti39, ti41, ti31, ti96, ti87, ti29, ti22, ti26, ti23, Int.natCast_zero]) (hK _ [(id, .grow 2 l.length (cS l) false)] _ ?_ ?_ ⟨id, l, rfl, by rw [hf]; exact Nat.le_refl _, by rw [hf, List.take_length], .inl (by rw [hf])⟩)
    · exact by (try simp only [St.nx_put, St.nx_adv]); repeat (first | exact OA.mono hs (by omega) | refine OA.newB ?_ (by omega) rfl | refine OA.putB ?_ (by omega) | refine OA.advB ?_)
    · simp only [St.nx_adv]; omega
  have hi0 := (List.getElem?_eq_some_iff.1 hy0).1
  have ei0 : ((i0 : Int) == -1) = false := by rw [beq_eq_false_iff_ne]; omega
  simp only [St.nx_adv] at hnx
  have hkeep0 : (l.take (i0 + 1)).filter (fun y => !p y) = l.take i0 := by
    rw [filt_take (p := fun y => !p y) hy0]
    simp only [hpy0, Bool.not_true, Bool.false_eq_true, if_false, List.append_nil]
    exact List.filter_eq_self.2 fun y hy => by simp [hz y hy]
  simp only [go_sem, ti3, ti4, ti5, ti32, ti39, ti41, ti31, ti96, ti87, ti29, ti22, ti26, ti23, Int.natCast_zero]; refine hK _ _ ?_; clear hK K
  refine Wc.seq (Wc.seq ?_)
  refine Wc.reg fun K hK => ?_; simp only [go_sem, ti3, ti4, ti5, ti32, ti39, ti41, ti31, ti96, ti87, ti29, ti22, ti26, ti23, Int.natCast_zero, ei0]; refine hK _ _ ?_; clear hK K
  refine Wc.cond (t := false) (by simp only [go_sem, ti3, ti4, ti5, ti32, ti39, ti41, ti31, ti96, ti87, ti29, ti22, ti26, ti23, Int.natCast_zero, ei0]) (fun hc => by cases hc) (fun _ => Wc.skip ?_)
  refine Wc.seqR (fun y => ∃ (B : List I2) (i : Nat), (B.length = l.length ∧ i ≤ l.length ∧ B.take i = l.filter (fun y => !p y) ∧ (l.filter (fun y => !p y)).length = i) ∧ y.ds = [] ∧ Fs y.e 42 [(0, .v (.c (.gs l.length id 0 l.length 2))), (5, P' (pI i))] ∧ OA y.s.nx y.s L ((id, .grow 2 l.length (cS B) false) :: M) ∧ s.nx ≤ y.s.nx) ?_ ?_
  · refine Wc.seq ?_
    refine Wc.reg fun K hK => ?_; simp only [go_sem, ti3, ti4, ti5, ti32, ti39, ti41, ti31, ti96, ti87, ti29, ti22, ti26, ti23, Int.natCast_zero, i64n i0 (by omega)]; refine hK _ _ ?_; clear hK K
    refine Wc.block (Wc.loop (fun c z => ∃ (j i : Nat) (B : List I2), (c = l.length - j ∧ j ≤ l.length ∧ i < j ∧ B.length = l.length ∧ B.take i = (l.take j).filter (fun y => !p y) ∧ B.drop j = l.drop j) ∧ z.ds = [] ∧ Fs z.e 42 [(0, .v (.c (.gs l.length id 0 l.length 2))), (1, .v (.c fv)), (5, P' (pI i)), (6, P' (pI j))] ∧ OA z.s.nx z.s L ((id, .grow 2 l.length (cS B) false) :: M) ∧ s.nx ≤ z.s.nx) ?_ (k := l.length - (i0 + 1)) ⟨i0 + 1, i0, l, ⟨rfl, by omega, by omega, rfl, hkeep0.symm, rfl⟩, rfl, by simp only [Fs, Int.natCast_zero, go_sem, ti3, ti4, ti5, ti32, ti39, ti41, ti31, ti96, ti87, ti29, ti22, ti26, ti23, Int.natCast_zero], by (try simp only [St.nx_put, St.nx_adv]); repeat (first | exact OA.mono hs (by omega) | refine OA.newB ?_ (by omega) rfl | refine OA.advB ?_), by simp only [St.nx_adv]; omega⟩)
    clear hs hnx hz hkeep0 s1
    rintro c ⟨e, ds, s1⟩ ⟨j, i, B, ⟨rfl, hj, hij, hBl, hBt, hBd⟩, rfl, hF, ho, hnx⟩
    simp only [Fs] at hF ho hnx
    have g := ho.at_ (id, .grow 2 l.length (cS B) false) (by simp)
    refine Wc.seq (Wc.seq ?_)
    refine Wc.reg fun K hK => ?_; simp only [go_sem, ti3, ti4, ti5, ti32, ti39, ti41, ti31, ti96, ti87, ti29, ti22, ti26, ti23, Int.natCast_zero, hF, glen]; refine hK _ _ ?_; clear hK K
    refine Wc.cond (t := decide ((j : Int) < l.length)) (by simp only [go_sem, ti3, ti4, ti5, ti32, ti39, ti41, ti31, ti96, ti87, ti29, ti22, ti26, ti23, Int.natCast_zero, hF]) (fun hc => ?_) (fun hc => ?_)
    · have hjl : j < l.length := by have := of_decide_eq_true hc; omega
      obtain ⟨y, hy⟩ : ∃ y, l[j]? = some y := ⟨l[j], List.getElem?_eq_getElem hjl⟩
      have hyB : B[j]? = some y := by
        have e1 : (B.drop j)[0]? = (l.drop j)[0]? := by rw [hBd]
        rw [List.getElem?_drop, List.getElem?_drop] at e1
        simpa [hy] using e1
      have hft := filt_take (p := fun y => !p y) hy
      have hBd1 : B.drop (j + 1) = l.drop (j + 1) := by rw [← List.drop_drop, ← List.drop_drop, hBd]
      have hix : indexAddrD E0 23 (.v (.c (.gs l.length id 0 l.length 2))) (.v (.c (.p (.int .i64 (j : Int))))) = _ := ixG ti23 rfl ti39 (j := j) (n := l.length) hjl rfl
      have hiw : indexAddrD E0 23 (.v (.c (.gs l.length id 0 l.length 2))) (.v (.c (.p (.int .i64 (i : Int))))) = _ := ixG ti23 rfl ti39 (j := i) (n := l.length) (by omega) rfl
      simp only [Nat.zero_add] at hix hiw
      have hdr := cS_drop hyB
      have hle : (j * 2 ≤ (cS B).length) = True := by rw [cS_len]; simp; omega
      have hst : (i * 2 + 2 ≤ (cS B).length) = True := by rw [cS_len]; simp; omega
      refine Wc.skip (Wc.seq (Wc.block ?_))
      refine Wc.seqR (fun z => ∃ ky, z.ds = [] ∧ Fs z.e 42 [(0, .v (.c (.gs l.length id 0 l.length 2))), (1, .v (.c fv)), (5, P' (pI i)), (6, P' (pI j)), (7, .v (.c (.ref ky 0)))] ∧ OA z.s.nx z.s L ((ky, .cells ((p2 y).map .p) false) :: (id, .grow 2 l.length (cS B) false) :: M) ∧ s.nx ≤ z.s.nx) ?_ ?_
      · refine Wc.reg fun K hK => ?_; simp only [go_sem, ti3, ti4, ti5, ti32, ti39, ti41, ti31, ti96, ti87, ti29, ti22, ti26, ti23, Int.natCast_zero, hF, hix, g, hle, hdr]; refine hK _ _ ?_; clear hK K
        exact ⟨s1.nx + 8, rfl, by simp only [Fs, Int.natCast_zero, go_sem, ti3, ti4, ti5, ti32, ti39, ti41, ti31, ti96, ti87, ti29, ti22, ti26, ti23, Int.natCast_zero, hF], by (try simp only [St.put_adv, St.adv_adv, St.put_put, St.nx_put, St.nx_adv]); repeat (first | exact OA.mono ho (by omega) | refine OA.newB ?_ (by omega) rfl | refine OA.putB ?_ (by omega) | refine OA.advB ?_), by simp only [St.nx_put, St.nx_adv]; omega⟩
      clear hF ho g hnx e s1
      rintro ⟨e, ds, s1⟩ ⟨ky, rfl, hF, ho, hnx⟩
      simp only [Fs] at hF ho hnx
      have gy := ho.at_ (ky, .cells ((p2 y).map .p) false) (by simp)
      simp only [List.map_cons, List.map_nil] at gy
      refine Wc.seq ?_
      refine Wc.reg fun K hK => ?_; simp only [go_sem, ti3, ti4, ti5, ti32, ti39, ti41, ti31, ti96, ti87, ti29, ti22, ti26, ti23, Int.natCast_zero, hF, gy]
      refine hp y _ L ((ky, .cells ((p2 y).map .p) false) :: (id, .grow 2 l.length (cS B) false) :: M) _ ?_ (List.mem_cons_of_mem _ (List.mem_cons_of_mem _ hm)) fun s2 hs2 hnx2 => ?_
      · exact by (try simp only [St.nx_put, St.nx_adv]); repeat (first | exact OA.mono ho (by omega) | refine OA.newB ?_ (by omega) rfl | refine OA.putB ?_ (by omega) | refine OA.advB ?_)
      simp only [St.nx_adv] at hnx2
      have gy2 := hs2.at_ (ky, .cells ((p2 y).map .p) false) (by simp)
      have gB2 := hs2.at_ (id, .grow 2 l.length (cS B) false) (by simp)
      simp only [List.map_cons, List.map_nil] at gy2
      simp only [go_sem, ti3, ti4, ti5, ti32, ti39, ti41, ti31, ti96, ti87, ti29, ti22, ti26, ti23, Int.natCast_zero, hF]; refine hK _ _ ?_; clear hK K
      cases hpy : p y with
      | true =>
        rw [hpy] at hft
        simp only [Bool.not_true, Bool.false_eq_true, if_false, List.append_nil] at hft
        refine Wc.cond (t := false) (by simp only [go_sem, ti3, ti4, ti5, ti32, ti39, ti41, ti31, ti96, ti87, ti29, ti22, ti26, ti23, Int.natCast_zero, hF, Bool.not_true]) (fun hc => by cases hc) (fun _ => Wc.skip ?_)
        refine Wc.reg fun K hK => ?_; simp only [go_sem, ti3, ti4, ti5, ti32, ti39, ti41, ti31, ti96, ti87, ti29, ti22, ti26, ti23, Int.natCast_zero, hF, i64n j (by omega)]; refine hK _ _ ?_; clear hK K
        refine ⟨l.length - (j + 1), by omega, j + 1, i, B, ⟨rfl, by omega, by omega, hBl, by rw [hft]; exact hBt, hBd1⟩, rfl, by simp only [Fs, Int.natCast_zero, go_sem, ti3, ti4, ti5, ti32, ti39, ti41, ti31, ti96, ti87, ti29, ti22, ti26, ti23, Int.natCast_zero, hF], ?_, ?_⟩
        · refine OA.sub (M := (ky, .cells ((p2 y).map .p) false) :: (id, .grow 2 l.length (cS B) false) :: M) ?_ (List.Sublist.refl _) (List.Sublist.cons _ (List.Sublist.refl _))
          exact by (try simp only [St.nx_put, St.nx_adv]); repeat (first | exact OA.mono hs2 (by omega) | refine OA.newB ?_ (by omega) rfl | refine OA.putB ?_ (by omega) | refine OA.advB ?_)
        · simp only [St.nx_adv]; omega
      | false =>
        rw [hpy] at hft
        simp only [Bool.not_false, if_true] at hft
        have hset := cS_set (B := B) (i := i) (y := y) (by omega)
        refine Wc.cond (t := true) (by simp only [go_sem, ti3, ti4, ti5, ti32, ti39, ti41, ti31, ti96, ti87, ti29, ti22, ti26, ti23, Int.natCast_zero, hF, Bool.not_false]) (fun _ => ?_) (fun hc => by cases hc)
        refine Wc.seq ?_
        refine Wc.reg fun K hK => ?_; simp only [go_sem, ti3, ti4, ti5, ti32, ti39, ti41, ti31, ti96, ti87, ti29, ti22, ti26, ti23, Int.natCast_zero, hF, gy2, gB2, hiw, hst]; refine hK _ _ ?_; clear hK K
        refine Wc.reg fun K hK => ?_; simp only [go_sem, ti3, ti4, ti5, ti32, ti39, ti41, ti31, ti96, ti87, ti29, ti22, ti26, ti23, Int.natCast_zero, hF, i64n i (by omega)]; refine hK _ _ ?_; clear hK K
        refine Wc.reg fun K hK => ?_; simp only [go_sem, ti3, ti4, ti5, ti32, ti39, ti41, ti31, ti96, ti87, ti29, ti22, ti26, ti23, Int.natCast_zero, hF, i64n j (by omega)]; refine hK _ _ ?_; clear hK K
        have h9 : (B.set i y)[i]? = some y := by rw [List.getElem?_set]; simp; omega
        refine ⟨l.length - (j + 1), by omega, j + 1, i + 1, B.set i y, ⟨rfl, by omega, by omega, by rw [List.length_set, hBl], by rw [hft, ← hBt, take_succ h9, List.take_set_of_le (Nat.le_refl i)], by rw [List.drop_set_of_lt (by omega), hBd1]⟩, rfl, by simp only [Fs, Int.natCast_zero, go_sem, ti3, ti4, ti5, ti32, ti39, ti41, ti31, ti96, ti87, ti29, ti22, ti26, ti23, Int.natCast_zero, hF], ?_, ?_⟩
        · have h5 := OA.set (M1 := [(ky, .cells ((p2 y).map .p) false)]) (o' := .grow 2 l.length (cS (B.set i y)) false) hs2 rfl
          refine OA.sub (M := (ky, .cells ((p2 y).map .p) false) :: (id, .grow 2 l.length (cS (B.set i y)) false) :: M) ?_ (List.Sublist.refl _) (List.Sublist.cons _ (List.Sublist.refl _))
          rw [hset] at h5 ⊢
          exact OA.mono h5.adv.adv.adv (by simp only [St.nx_put, St.nx_adv]; omega)
        · simp only [St.nx_put, St.nx_adv]; omega
    · have hil : j = l.length := by have := of_decide_eq_false hc; omega
      rw [hil, List.take_length] at hBt
      exact Wc.exit ⟨B, i, ⟨hBl, by omega, hBt, by rw [← hBt, List.length_take]; omega⟩, rfl, by simp only [Fs, Int.natCast_zero, go_sem, ti3, ti4, ti5, ti32, ti39, ti41, ti31, ti96, ti87, ti29, ti22, ti26, ti23, Int.natCast_zero, hF], by (try simp only [St.nx_put, St.nx_adv]); repeat (first | exact OA.mono ho (by omega) | refine OA.newB ?_ (by omega) rfl | refine OA.advB ?_), by simp only [St.nx_adv]; omega⟩
  clear hs hnx hz hkeep0 s1
  rintro ⟨e, ds, s1⟩ ⟨B, i, ⟨hBl, hi, hBt, hlen⟩, rfl, hF, ho, hnx⟩
  simp only [Fs] at hF ho hnx
  have g := ho.at_ (id, .grow 2 l.length (cS B) false) (by simp)
  have hile : ((i : Int) ≤ (l.length : Int)) = True := by simp; omega
  have hfit : i * 2 + (l.length - i) * 2 = l.length * 2 := by omega
  have hfit2 : (l.length * 2 ≤ (cS B).length) = True := by rw [cS_len, hBl]; simp
  by_cases hiN : i < l.length
  · have hN0 : (0 < l.length - i) = True := by simp; omega
    have hcl := cS_clear (B := B) (i := i) (by omega)
    rw [hBl, hfit] at hcl
    have hrl : (repl (l.length - i) [C.p (.int .i64 0), C.p (.int .i64 0)]).length = (l.length - i) * 2 := by rw [repl_length]; rfl
    have h5 := OA.set (M1 := []) (o' := .grow 2 l.length (cS (B.take i ++ List.replicate (l.length - i) (0, 0))) false) ho rfl
    have hBl' : (B.take i ++ List.replicate (l.length - i) (0, 0)).length = l.length := by simp; omega
    have hBt' : (B.take i ++ List.replicate (l.length - i) (0, 0)).take i = l.filter (fun y => !p y) := by rw [List.take_append_of_le_length (by simp; omega), List.take_take, Nat.min_self, hBt]
    refine Wc.seq ?_
    refine Wc.reg fun K hK => ?_; simp only [go_sem, ti3, ti4, ti5, ti32, ti39, ti41, ti31, ti96, ti87, ti29, ti22, ti26, ti23, Int.natCast_zero, hF, hile, hiN, Int.le_refl, g, hN0, hrl, hfit, hfit2, Option.isSome_none, Bool.false_eq_true]; refine hK _ _ ?_; clear hK K
    rcases Nat.eq_zero_or_pos i with h0 | h0
    · have h0i : (0 < i) = False := by simp; omega
      refine Wc.seq ?_
      refine Wc.reg fun K hK => ?_; simp only [go_sem, ti3, ti4, ti5, ti32, ti39, ti41, ti31, ti96, ti87, ti29, ti22, ti26, ti23, Int.natCast_zero, hF, hile, h0i, Option.isSome_none, Bool.false_eq_true, Nat.sub_zero]; refine hK _ _ ?_; clear hK K
      refine Wc.ret (Op.ret [.tmp 4] [.c (.p (.lst 0 []))] rfl rfl (by simp only [resultsD, go_sem, ti3, ti4, ti5, ti32, ti39, ti41, ti31, ti96, ti87, ti29, ti22, ti26, ti23, Int.natCast_zero, hF]) (hK _ [(id, .grow 2 l.length (cS (B.take i ++ List.replicate (l.length - i) (0, 0))) false)] _ ?_ ?_ ⟨id, (B.take i ++ List.replicate (l.length - i) (0, 0)), by rw [hBl'], by rw [hlen, hBl']; exact hi, by rw [hlen]; exact hBt', .inr ⟨rfl, List.length_eq_zero_iff.1 (by rw [hlen]; exact h0)⟩⟩))
      · rw [hcl] at h5 ⊢
        first | exact OA.mono h5 (by simp only [St.nx_put, St.nx_adv]; omega) | exact OA.mono h5.adv (by simp only [St.nx_put, St.nx_adv]; omega) | exact OA.mono h5.adv.adv (by simp only [St.nx_put, St.nx_adv]; omega)
      · simp only [St.nx_put, St.nx_adv]; omega
    · have h0i : (0 < i) = True := by simp; omega
      refine Wc.seq ?_
      refine Wc.reg fun K hK => ?_; simp only [go_sem, ti3, ti4, ti5, ti32, ti39, ti41, ti31, ti96, ti87, ti29, ti22, ti26, ti23, Int.natCast_zero, hF, hile, h0i, Option.isSome_none, Bool.false_eq_true, Nat.sub_zero]; refine hK _ _ ?_; clear hK K
      refine Wc.ret (Op.ret [.tmp 4] [.c (.gs l.length id 0 i 2)] rfl rfl (by simp only [resultsD, go_sem, ti3, ti4, ti5, ti32, ti39, ti41, ti31, ti96, ti87, ti29, ti22, ti26, ti23, Int.natCast_zero, hF]) (hK _ [(id, .grow 2 l.length (cS (B.take i ++ List.replicate (l.length - i) (0, 0))) false)] _ ?_ ?_ ⟨id, (B.take i ++ List.replicate (l.length - i) (0, 0)), by rw [hBl'], by rw [hlen, hBl']; exact hi, by rw [hlen]; exact hBt', .inl (by rw [hlen, hBl'])⟩))
      · rw [hcl] at h5 ⊢
        first | exact OA.mono h5 (by simp only [St.nx_put, St.nx_adv]; omega) | exact OA.mono h5.adv (by simp only [St.nx_put, St.nx_adv]; omega) | exact OA.mono h5.adv.adv (by simp only [St.nx_put, St.nx_adv]; omega)
      · simp only [St.nx_put, St.nx_adv]; omega
  · have hie : i = l.length := by omega
    have h5 := ho
    refine Wc.seq ?_
    refine Wc.reg fun K hK => ?_; simp only [go_sem, ti3, ti4, ti5, ti32, ti39, ti41, ti31, ti96, ti87, ti29, ti22, ti26, ti23, Int.natCast_zero, hF, hile, hiN, Int.le_refl, g, Option.isSome_none, Bool.false_eq_true]; refine hK _ _ ?_; clear hK K
    rcases Nat.eq_zero_or_pos i with h0 | h0
    · have h0i : (0 < i) = False := by simp; omega
      refine Wc.seq ?_
      refine Wc.reg fun K hK => ?_; simp only [go_sem, ti3, ti4, ti5, ti32, ti39, ti41, ti31, ti96, ti87, ti29, ti22, ti26, ti23, Int.natCast_zero, hF, hile, h0i, Option.isSome_none, Bool.false_eq_true, Nat.sub_zero]; refine hK _ _ ?_; clear hK K
      refine Wc.ret (Op.ret [.tmp 4] [.c (.p (.lst 0 []))] rfl rfl (by simp only [resultsD, go_sem, ti3, ti4, ti5, ti32, ti39, ti41, ti31, ti96, ti87, ti29, ti22, ti26, ti23, Int.natCast_zero, hF]) (hK _ [(id, .grow 2 l.length (cS B) false)] _ ?_ ?_ ⟨id, B, by rw [hBl], by rw [hlen, hBl]; exact hi, by rw [hlen]; exact hBt, .inr ⟨rfl, List.length_eq_zero_iff.1 (by rw [hlen]; exact h0)⟩⟩))
      · first | exact OA.mono h5 (by simp only [St.nx_put, St.nx_adv]; omega) | exact OA.mono h5.adv (by simp only [St.nx_put, St.nx_adv]; omega) | exact OA.mono h5.adv.adv (by simp only [St.nx_put, St.nx_adv]; omega)
      · simp only [St.nx_put, St.nx_adv]; omega
    · have h0i : (0 < i) = True := by simp; omega
      refine Wc.seq ?_
      refine Wc.reg fun K hK => ?_; simp only [go_sem, ti3, ti4, ti5, ti32, ti39, ti41, ti31, ti96, ti87, ti29, ti22, ti26, ti23, Int.natCast_zero, hF, hile, h0i, Option.isSome_none, Bool.false_eq_true, Nat.sub_zero]; refine hK _ _ ?_; clear hK K
      refine Wc.ret (Op.ret [.tmp 4] [.c (.gs l.length id 0 i 2)] rfl rfl (by simp only [resultsD, go_sem, ti3, ti4, ti5, ti32, ti39, ti41, ti31, ti96, ti87, ti29, ti22, ti26, ti23, Int.natCast_zero, hF]) (hK _ [(id, .grow 2 l.length (cS B) false)] _ ?_ ?_ ⟨id, B, by rw [hBl], by rw [hlen, hBl]; exact hi, by rw [hlen]; exact hBt, .inl (by rw [hlen, hBl])⟩))
      · first | exact OA.mono h5 (by simp only [St.nx_put, St.nx_adv]; omega) | exact OA.mono h5.adv (by simp only [St.nx_put, St.nx_adv]; omega) | exact OA.mono h5.adv.adv (by simp only [St.nx_put, St.nx_adv]; omega)
      · simp only [St.nx_put, St.nx_adv]; omega
end Go.Proofs.YtedcnhbblgmdnaaGreat.Ab
