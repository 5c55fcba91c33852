/- A part of the proof: an evaluator of the code, its contracts, the law. No condition. -/
import Derived.Test.YtedcnhbblgmdnaaGreatT26
namespace Go.Proofs.YtedcnhbblgmdnaaGreat.Ab
set_option maxHeartbeats 8000000
set_option maxRecDepth 10000
set_option linter.unusedSimpArgs false
set_option linter.unusedVariables false
theorem fB (l : List Bkt) : (l.flatMap Bkt.pd).length = l.length * 10 := flat_len (k := 10) (fun _ => rfl) _
theorem tfB (l : List Bkt) (h : Nat) : (l.flatMap Bkt.pd).take (h * 10) = (l.take h).flatMap Bkt.pd := take_flat (k := 10) (fun _ => rfl) l h
theorem dfB (l : List Bkt) (j : Nat) : ((l.flatMap Bkt.pd).drop (j * 10)).take ((l.length - j) * 10) = (l.drop j).flatMap Bkt.pd := by
  rw [drop_flats (k := 10) (fun _ => rfl), List.take_of_length_le (by rw [fB, List.length_drop]; exact Nat.le_refl _)]
theorem rpB0 {l : List Bkt} {i : Nat} {c : Bkt} (h : l[i]? = some c) (s : St) : cellsAt s (.v (.c (.rp (l.flatMap Bkt.pd) (i * 10)))) = some ((c.pd ++ (l.drop (i + 1)).flatMap Bkt.pd).map .p) := by
  have hf := fB l
  have hi := (List.getElem?_eq_some_iff.1 h).1
  exact rpA (off := i * 10) (drop_flat (f := Bkt.pd) (k := 10) (fun _ => rfl) h) (by omega) s
theorem rpB {l : List Bkt} {i : Nat} {c : Bkt} (h : l[i]? = some c) (q : Nat) (hq : q ≤ 10) (s : St) : cellsAt s (.v (.c (.rp (l.flatMap Bkt.pd) (i * 10 + q)))) = some ((c.pd.drop q ++ (l.drop (i + 1)).flatMap Bkt.pd).map .p) := by
  have hf : (l.flatMap Bkt.pd).length = l.length * 10 := flat_len (k := 10) (fun _ => rfl) _
  have hi := (List.getElem?_eq_some_iff.1 h).1
  exact rpA (off := i * 10 + q) (by rw [← List.drop_drop, drop_flat (f := Bkt.pd) (k := 10) (fun _ => rfl) h, List.drop_append, show q - c.pd.length = 0 from Nat.sub_eq_zero_of_le hq, List.drop_zero]) (by omega) s
/-- Appended to a slice that is an object of the state. -/
theorem GB.appG {b key id : Nat} {s : St} {L : List (Nat × D × Nat × List Pd)} {M : List (Nat × Ob)} {l m : List Bkt} {y : D} {K : D → St → Prop} (ho : OA b s L ((id, .grow 10 l.length (cB l) false) :: M)) (hn : l.length + m.length < 2^30) (hy : srcD E0 29 s y = some (m.length, m.flatMap Bkt.pd))
    (hk : ∀ s', OA b s' L ((id, .grow 10 (l ++ m).length (cB (l ++ m)) false) :: M) → s'.nx = s.nx → K (.v (.c (.gs (l ++ m).length id 0 (l ++ m).length 10))) s') : stepK (appendD E0 key [29, 29] (.v (.c (.gs l.length id 0 l.length 10))) y s) K := by
  have hfl : (m.flatMap Bkt.pd).length = m.length * 10 := flat_len (k := 10) (fun _ => rfl) m
  refine OA.appG (M1 := []) (M2 := M) (by_ := 80) (n := l.length) (m := m.length) (ys := m.flatMap Bkt.pd) (cs := cB l) (L := L) ho rfl ⟨_, ti29, rfl⟩ ti41 rfl rfl rfl (by decide) (by decide) hy hfl (by omega) fun s' hs hnx => ?_
  simp only [List.length_append, cB_app] at hk
  exact hk s' hs hnx
theorem Pf.retS {fn : Func} {x : Fr} {xc : C} {z : List Bkt} {G M : List (Nat × Ob)} {L : List (Nat × D × Nat × List Pd)} {b : Nat} (rs : List ResultVar) (hd : x.ds = []) (hrs : fn.results.toList = rs)
    (hr : resultsD E0 x.e x.s rs = some [.c xc, .c (.p (.bool true))]) (ho : OA b x.s L (G ++ M)) (h : GB xc z G) :
    bodyQ E0 fn (fun d0 s2 => ∃ s3, purD s2 d0 = some (.tup [.c (.p (.lst z.length (z.flatMap Bkt.pd))), .c (.p (.bool true))], s3)) .ret x := by
  obtain ⟨s3, h3⟩ := h.pur ho
  refine Pf.ret rs _ hd hrs hr (s3 := s3) ?_
  have hp : ∀ (s : St) (x : Pd), purC s (.p x) = some (x, s) := fun _ _ => rfl
  simp only [packD, purD, purVs, purV, purCs, hp, h3, List.map_cons, List.map_nil]
theorem drop_at {l : List Bkt} {i : Nat} {c : Bkt} (h : l[i]? = some c) : l.drop i = c :: l.drop (i + 1) := by
  obtain ⟨h1, h2⟩ := List.getElem?_eq_some_iff.1 h
  rw [List.drop_eq_getElem_cons h1, h2]
theorem putB_step {k : Int} {l : List Bkt} {b c : Bkt} {i : Nat} {R : Option (List Bkt)} (h : l[i]? = some c) (hlt : c.st < b.st) (hR : (putB k (l.drop i) b).map (l.take i ++ ·) = R) : (putB k (l.drop (i + 1)) b).map (l.take (i + 1) ++ ·) = R := by
  rw [← hR, drop_at h, putB, if_pos hlt, Option.map_map, take_succ h]
  congr 1
  funext z
  simp
/-- What put answers. -/
def resP (R : Option (List Bkt)) (l : List Bkt) : D := match R with
  | some z => .tup [.c (.p (.lst z.length (z.flatMap Bkt.pd))), .c (.p (.bool true))]
  | none => .tup [.c (.p (.lst l.length (l.flatMap Bkt.pd))), .c (.p (.bool false))]
/-- 53: put -/
theorem pf53 (l : List Bkt) (b : Bkt) (k : Int) (hl : l.length < 2^29) (hj : ∀ c ∈ l, c.st = b.st → JB c b ∧ JB b c) : Pf E0 53 [.c (.p (.lst l.length (l.flatMap Bkt.pd))), .agg (b.pd.map .p), .c (.p (pI k))] (resP (putB k l b) l) := by
  have hfl : (l.flatMap Bkt.pd).length = l.length * 10 := flat_len (k := 10) (fun _ => rfl) _
  have hR0 : (putB k (l.drop 0) b).map (l.take 0 ++ ·) = putB k l b := by simp
  generalize putB k l b = R at hR0 ⊢
  refine Pf.body (fn := Tryz.f53) (by kernel_rfl) rfl ?_; simp only [List.map_cons, List.map_nil, List.cons_append, List.nil_append, List.length_cons, List.length_nil, Tryz.ntmps53, List.replicate, Nat.reduceSub, Nat.reduceAdd]
  refine Wc.seq ?_
  refine Wc.reg fun K hK => ?_; simp only [go_sem, ti3, ti4, ti5, ti32, ti39, ti41, ti31, ti96, ti87, ti29, ti22, ti26, ti23, Int.natCast_zero]; refine hK _ _ ?_; clear hK K
  refine Wc.seq ?_
  refine Wc.reg fun K hK => ?_; simp only [go_sem, ti3, ti4, ti5, ti32, ti39, ti41, ti31, ti96, ti87, ti29, ti22, ti26, ti23, Int.natCast_zero]; refine hK _ _ ?_; clear hK K
  refine Wc.seqR (fun y => ∃ i : Nat, (i ≤ l.length ∧ (putB k (l.drop i) b).map (l.take i ++ ·) = R ∧ ∀ c, l[i]? = some c → ¬ c.st < b.st) ∧ y.ds = [] ∧ Fs y.e 100 [(0, P' (.lst l.length (l.flatMap Bkt.pd))), (2, P' (pI k)), (4, .v (.c (.ref 0 0))), (8, P' (pI i))] ∧ OA y.s.nx y.s [] [(0, .cells (b.pd.map .p) false)]) ?_ ?_
  · refine Wc.block (Wc.loop (fun c y => ∃ i : Nat, c = l.length - i ∧ (i ≤ l.length ∧ (putB k (l.drop i) b).map (l.take i ++ ·) = R) ∧ y.ds = [] ∧ Fs y.e 100 [(0, P' (.lst l.length (l.flatMap Bkt.pd))), (2, P' (pI k)), (4, .v (.c (.ref 0 0))), (8, P' (pI i))] ∧ OA y.s.nx y.s [] [(0, .cells (b.pd.map .p) false)]) ?_ (k := l.length) ⟨0, rfl, ⟨by omega, hR0⟩, rfl, by simp only [Fs, Int.natCast_zero, go_sem, ti3, ti4, ti5, ti32, ti39, ti41, ti31, ti96, ti87, ti29, ti22, ti26, ti23, Int.natCast_zero], by (try simp only [St.nx_put, St.nx_adv]); repeat (first | exact OA.mono s00_oa (by omega) | refine OA.newB ?_ (by omega) rfl | refine OA.advB ?_)⟩)
    rintro c ⟨e, ds, s1⟩ ⟨i, rfl, ⟨hi, hR⟩, rfl, hF, ho⟩
    simp only [Fs] at hF ho
    have g0 := ho.at_ (0, .cells (b.pd.map .p) false) (by simp)
    simp only [List.map_cons, List.map_nil] at g0
    refine Wc.seq (Wc.seq ?_)
    by_cases hil : i < l.length
    · obtain ⟨c, hc1⟩ : ∃ c, l[i]? = some c := ⟨l[i], List.getElem?_eq_getElem hil⟩
      have hix := ixA ti29 rfl ti41 (j := i) (m := l.length) (cs := l.flatMap Bkt.pd) hil hfl (by decide)
      have hca := rpB0 hc1
      have hilt : ((i : Int) < (l.length : Int)) = True := by simp; omega
      refine Wc.regD fun K hK => ?_; simp only [go_sem, ti3, ti4, ti5, ti32, ti39, ti41, ti31, ti96, ti87, ti29, ti22, ti26, ti23, Int.natCast_zero, hF, g0, hix, hca, hilt]; refine hK _ _ ?_; clear hK K
      refine Wc.cond (t := decide (c.st < b.st)) (by simp only [go_sem, ti3, ti4, ti5, ti32, ti39, ti41, ti31, ti96, ti87, ti29, ti22, ti26, ti23, Int.natCast_zero, hF]) (fun hc => ?_) (fun hc => ?_)
      · have hlt := of_decide_eq_true hc
        refine Wc.skip (Wc.block ?_)
        refine Wc.reg fun K hK => ?_; simp only [go_sem, ti3, ti4, ti5, ti32, ti39, ti41, ti31, ti96, ti87, ti29, ti22, ti26, ti23, Int.natCast_zero, hF, i64n i (by omega)]; refine hK _ _ ?_; clear hK K
        exact ⟨l.length - (i + 1), by omega, i + 1, rfl, ⟨by omega, putB_step hc1 hlt hR⟩, rfl, by simp only [Fs, Int.natCast_zero, go_sem, ti3, ti4, ti5, ti32, ti39, ti41, ti31, ti96, ti87, ti29, ti22, ti26, ti23, Int.natCast_zero, hF], by (try simp only [St.nx_put, St.nx_adv]); repeat (first | exact OA.mono ho (by omega) | refine OA.newB ?_ (by omega) rfl | refine OA.advB ?_)⟩
      · have hlt := of_decide_eq_false hc
        exact Wc.exit ⟨i, ⟨hi, hR, fun x hx => by rw [hc1] at hx; cases hx; exact hlt⟩, rfl, by simp only [Fs, Int.natCast_zero, go_sem, ti3, ti4, ti5, ti32, ti39, ti41, ti31, ti96, ti87, ti29, ti22, ti26, ti23, Int.natCast_zero, hF], by (try simp only [St.nx_put, St.nx_adv]); repeat (first | exact OA.mono ho (by omega) | refine OA.newB ?_ (by omega) rfl | refine OA.advB ?_)⟩
    · have hilt : ((i : Int) < (l.length : Int)) = False := by simp; omega
      refine Wc.regD fun K hK => ?_; simp only [go_sem, ti3, ti4, ti5, ti32, ti39, ti41, ti31, ti96, ti87, ti29, ti22, ti26, ti23, Int.natCast_zero, hF, hilt]; refine hK _ _ ?_; clear hK K
      refine Wc.cond (t := false) (by simp only [go_sem, ti3, ti4, ti5, ti32, ti39, ti41, ti31, ti96, ti87, ti29, ti22, ti26, ti23, Int.natCast_zero, hF]) (fun hc => by cases hc) (fun _ => ?_)
      exact Wc.exit ⟨i, ⟨hi, hR, fun x hx => by rw [List.getElem?_eq_none (by omega)] at hx; cases hx⟩, rfl, by simp only [Fs, Int.natCast_zero, go_sem, ti3, ti4, ti5, ti32, ti39, ti41, ti31, ti96, ti87, ti29, ti22, ti26, ti23, Int.natCast_zero, hF], by (try simp only [St.nx_put, St.nx_adv]); repeat (first | exact OA.mono ho (by omega) | refine OA.newB ?_ (by omega) rfl | refine OA.advB ?_)⟩
  rintro ⟨e, ds, s1⟩ ⟨i, ⟨hi, hR, hge⟩, rfl, hF, ho⟩
  simp only [Fs] at hF ho
  have hile : ((i : Int) ≤ (l.length : Int)) = True := by simp; omega
  have htk : (l.take i).length = i := by simp; omega
  have hdl : (l.drop i).length ≤ l.length := by simp
  refine Wc.seqR (fun y => ∃ id, y.ds = [] ∧ Fs y.e 100 [(0, P' (.lst l.length (l.flatMap Bkt.pd))), (2, P' (pI k)), (4, .v (.c (.ref 0 0))), (8, P' (pI i)), (9, .v (.c (.gs (l.take i).length id 0 (l.take i).length 10)))] ∧ OA y.s.nx y.s [] [(id, .grow 10 (l.take i).length (cB (l.take i)) false), (0, .cells (b.pd.map .p) false)]) ?_ ?_
  · refine Wc.reg fun K hK => ?_; simp only [go_sem, ti3, ti4, ti5, ti32, ti39, ti41, ti31, ti96, ti87, ti29, ti22, ti26, ti23, Int.natCast_zero, hF, hfl, hile, Nat.sub_zero, tfB]
    refine GB.appG (b := s1.nx + 6) (l := []) (m := l.take i) (M := [(0, .cells (b.pd.map .p) false)]) (L := []) ?_ (by simp only [List.length_nil]; omega) ?_ fun s' hs hnx => ?_
    · exact by (try simp only [St.nx_put, St.nx_adv]); repeat (first | exact OA.mono ho (by omega) | refine OA.newB ?_ (by omega) rfl | refine OA.putB ?_ (by omega) | refine OA.advB ?_)
    · simp only [go_sem, ti3, ti4, ti5, ti32, ti39, ti41, ti31, ti96, ti87, ti29, ti22, ti26, ti23, Int.natCast_zero, htk]
    simp only [go_sem, ti3, ti4, ti5, ti32, ti39, ti41, ti31, ti96, ti87, ti29, ti22, ti26, ti23, Int.natCast_zero, hF]; refine hK _ _ ?_; clear hK K
    refine ⟨s1.nx, rfl, by simp only [Fs, Int.natCast_zero, go_sem, ti3, ti4, ti5, ti32, ti39, ti41, ti31, ti96, ti87, ti29, ti22, ti26, ti23, Int.natCast_zero, hF], ?_⟩
    exact OA.mono hs (by simp only [St.nx_put, St.nx_adv] at hnx ⊢; omega)
  clear hF ho e s1
  rintro ⟨e, ds, s1⟩ ⟨id, rfl, hF, ho⟩
  simp only [Fs] at hF ho
  generalize l.take i = T at *
  refine Wc.seq (Wc.seqR (fun y => ∃ v : Bool, ((v = true → R = some (T ++ b :: l.drop i)) ∧ (v = false → ∃ c, l[i]? = some c ∧ c.st = b.st)) ∧ y.ds = [] ∧ Fs y.e 100 [(0, P' (.lst l.length (l.flatMap Bkt.pd))), (2, P' (pI k)), (4, .v (.c (.ref 0 0))), (8, P' (pI i)), (9, .v (.c (.gs T.length id 0 T.length 10))), (44, P' (.bool v))] ∧ OA y.s.nx y.s [] [(id, .grow 10 T.length (cB T) false), (0, .cells (b.pd.map .p) false)]) ?_ ?_)
  · have g0 := ho.at_ (0, .cells (b.pd.map .p) false) (by simp)
    simp only [List.map_cons, List.map_nil] at g0
    by_cases hil : i < l.length
    · obtain ⟨c, hc1⟩ : ∃ c, l[i]? = some c := ⟨l[i], List.getElem?_eq_getElem hil⟩
      have hix := ixA ti29 rfl ti41 (j := i) (m := l.length) (cs := l.flatMap Bkt.pd) hil hfl (by decide)
      have hca := rpB0 hc1
      have hne : ((i : Int) == (l.length : Int)) = false := by rw [beq_eq_false_iff_ne]; omega
      refine Wc.regD fun K hK => ?_; simp only [go_sem, ti3, ti4, ti5, ti32, ti39, ti41, ti31, ti96, ti87, ti29, ti22, ti26, ti23, Int.natCast_zero, hF, g0, hix, hca, hne]; refine hK _ _ ?_; clear hK K
      refine ⟨c.st != b.st, ⟨fun h => ?_, fun h => ⟨c, hc1, by simpa using h⟩⟩, rfl, by simp only [Fs, Int.natCast_zero, go_sem, ti3, ti4, ti5, ti32, ti39, ti41, ti31, ti96, ti87, ti29, ti22, ti26, ti23, Int.natCast_zero, hF], by (try simp only [St.nx_put, St.nx_adv]); repeat (first | exact OA.mono ho (by omega) | refine OA.newB ?_ (by omega) rfl | refine OA.advB ?_)⟩
      rw [← hR, drop_at hc1, putB, if_neg (hge c hc1), if_pos (by simpa using h)]
      rfl
    · have hieq : i = l.length := by omega
      have hne : ((i : Int) == (l.length : Int)) = true := by rw [beq_iff_eq]; omega
      refine Wc.regD fun K hK => ?_; simp only [go_sem, ti3, ti4, ti5, ti32, ti39, ti41, ti31, ti96, ti87, ti29, ti22, ti26, ti23, Int.natCast_zero, hF, g0, hne]; refine hK _ _ ?_; clear hK K
      refine ⟨true, ⟨fun _ => ?_, fun h => by cases h⟩, rfl, by simp only [Fs, Int.natCast_zero, go_sem, ti3, ti4, ti5, ti32, ti39, ti41, ti31, ti96, ti87, ti29, ti22, ti26, ti23, Int.natCast_zero, hF], by (try simp only [St.nx_put, St.nx_adv]); repeat (first | exact OA.mono ho (by omega) | refine OA.newB ?_ (by omega) rfl | refine OA.advB ?_)⟩
      rw [← hR, hieq, List.drop_length]
      rfl
  clear hF ho e s1
  rintro ⟨e, ds, s1⟩ ⟨v, ⟨hv1, hv2⟩, rfl, hF, ho⟩
  simp only [Fs] at hF ho
  have g0 := ho.at_ (0, .cells (b.pd.map .p) false) (by simp)
  simp only [List.map_cons, List.map_nil] at g0
  refine Wc.cond (t := v) (by simp only [go_sem, ti3, ti4, ti5, ti32, ti39, ti41, ti31, ti96, ti87, ti29, ti22, ti26, ti23, Int.natCast_zero, hF]) (fun hc => ?_) (fun hc => ?_)
  · have hz : T ++ b :: l.drop i = (T ++ [b]) ++ l.drop i := by simp
    rw [hv1 hc, hz]
    refine Wc.seq ?_
    refine Wc.regT fun K hK => ?_
    simp only [go_sem, ti3, ti4, ti5, ti32, ti39, ti41, ti31, ti96, ti87, ti29, ti22, ti26, ti23, Int.natCast_zero, hF, g0]
    refine GB.appG (b := s1.nx + 8) (l := T) (m := [b]) (M := [(0, .cells (b.pd.map .p) false)]) (L := []) ?_ (by simp only [List.length_cons, List.length_nil]; omega) ?_ fun s' hs hnx => ?_
    · exact by (try simp only [St.nx_put, St.nx_adv]); repeat (first | exact OA.mono ho (by omega) | refine OA.newB ?_ (by omega) rfl | refine OA.putB ?_ (by omega) | refine OA.advB ?_)
    · simp only [go_sem, ti3, ti4, ti5, ti32, ti39, ti41, ti31, ti96, ti87, ti29, ti22, ti26, ti23, Int.natCast_zero]; rfl
    have hzl : (T ++ [b]).length = i + 1 := by simp [htk]
    clear hz
    generalize T ++ [b] = Z at *
    simp only [go_sem, ti3, ti4, ti5, ti32, ti39, ti41, ti31, ti96, ti87, ti29, ti22, ti26, ti23, Int.natCast_zero, hF, hfl, hile, dfB, Int.le_refl]
    refine GB.appG (b := s1.nx + 8) (l := Z) (m := l.drop i) (M := [(0, .cells (b.pd.map .p) false)]) (L := []) ?_ (by omega) ?_ fun s2 hs2 hnx2 => ?_
    · exact by (try simp only [St.nx_put, St.nx_adv]); repeat (first | exact OA.mono hs (by omega) | refine OA.newB ?_ (by omega) rfl | refine OA.putB ?_ (by omega) | refine OA.advB ?_)
    · simp only [go_sem, ti3, ti4, ti5, ti32, ti39, ti41, ti31, ti96, ti87, ti29, ti22, ti26, ti23, Int.natCast_zero, List.length_drop]
    simp only [go_sem, ti3, ti4, ti5, ti32, ti39, ti41, ti31, ti96, ti87, ti29, ti22, ti26, ti23, Int.natCast_zero]
    refine ⟨by rw [trOK_eq3]; rfl, hK _ _ ?_⟩
    exact Wc.ret (Pf.retS [.tmp 6, .tmp 7] rfl rfl (by simp only [resultsD, go_sem, ti3, ti4, ti5, ti32, ti39, ti41, ti31, ti96, ti87, ti29, ti22, ti26, ti23, Int.natCast_zero, hF]) (G := [(id, .grow 10 (Z ++ l.drop i).length (cB (Z ++ l.drop i)) false)]) (M := [(0, .cells (b.pd.map .p) false)]) hs2 (.inr ⟨id, rfl, rfl⟩))
  obtain ⟨c, hc1, hst⟩ := hv2 hc
  obtain ⟨j1, j2⟩ := hj c (List.mem_of_getElem? hc1) hst
  have hil := (List.getElem?_eq_some_iff.1 hc1).1
  have hix := ixA ti29 rfl ti41 (j := i) (m := l.length) (cs := l.flatMap Bkt.pd) hil hfl (by decide)
  have hca := rpB0 hc1
  have hca7 := rpB hc1 7 (by omega)
  have hca8 := rpB hc1 8 (by omega)
  have hile1 : (((i + 1 : Nat) : Int) ≤ (l.length : Int)) = True := by simp; omega
  have hdl1 : (l.drop (i + 1)).length ≤ l.length := by simp
  rw [drop_at hc1, putB, if_neg (hge c hc1), if_neg (by simpa using hst)] at hR
  have p1 := j1.pf95 k
  have p2 := j2.pf95 k
  refine Wc.skip (Wc.seq (Wc.seq ?_))
  refine Wc.regD fun K hK => ?_; simp only [go_sem, ti3, ti4, ti5, ti32, ti39, ti41, ti31, ti96, ti87, ti29, ti22, ti26, ti23, Int.natCast_zero, hF, g0, hix, hca8]; refine hK _ _ ?_; clear hK K
  refine Wc.cond (t := decide (c.lt < b.ft)) (by simp only [go_sem, ti3, ti4, ti5, ti32, ti39, ti41, ti31, ti96, ti87, ti29, ti22, ti26, ti23, Int.natCast_zero, hF]) (fun hc => ?_) (fun hc => ?_)
  · have hlt := of_decide_eq_true hc
    rw [if_pos hlt] at hR
    have hz : T ++ joinB k c b :: l.drop (i + 1) = (T ++ [joinB k c b]) ++ l.drop (i + 1) := by simp
    rw [← hR, Option.map_some, hz]
    refine Wc.seq ?_
    refine Wc.regT fun K hK => ?_
    simp only [go_sem, ti3, ti4, ti5, ti32, ti39, ti41, ti31, ti96, ti87, ti29, ti22, ti26, ti23, Int.natCast_zero, hF, g0, hix, hca]
    refine wpCall.pf (p1) (by kernel_rfl) (by kernel_rfl) rfl rfl ?_
    simp only [go_sem, ti3, ti4, ti5, ti32, ti39, ti41, ti31, ti96, ti87, ti29, ti22, ti26, ti23, Int.natCast_zero, hF, o95, x95]
    refine GB.appG (b := s1.nx + 40) (l := T) (m := [joinB k c b]) (M := [(0, .cells (b.pd.map .p) false)]) (L := []) ?_ (by simp only [List.length_cons, List.length_nil]; omega) ?_ fun s' hs hnx => ?_
    · exact by (try simp only [St.nx_put, St.nx_adv]); repeat (first | exact OA.mono ho (by omega) | refine OA.newB ?_ (by omega) rfl | refine OA.putB ?_ (by omega) | refine OA.advB ?_)
    · simp only [go_sem, ti3, ti4, ti5, ti32, ti39, ti41, ti31, ti96, ti87, ti29, ti22, ti26, ti23, Int.natCast_zero]; rfl
    have hzl : (T ++ [joinB k c b]).length = i + 1 := by simp [htk]
    clear hz
    generalize T ++ [joinB k c b] = Z at *
    simp only [go_sem, ti3, ti4, ti5, ti32, ti39, ti41, ti31, ti96, ti87, ti29, ti22, ti26, ti23, Int.natCast_zero, hF, i64n i (by omega), hfl, hile1, dfB, Int.le_refl]
    refine GB.appG (b := s1.nx + 40) (l := Z) (m := l.drop (i + 1)) (M := [(0, .cells (b.pd.map .p) false)]) (L := []) ?_ (by omega) ?_ fun s2 hs2 hnx2 => ?_
    · exact by (try simp only [St.nx_put, St.nx_adv]); repeat (first | exact OA.mono hs (by omega) | refine OA.newB ?_ (by omega) rfl | refine OA.putB ?_ (by omega) | refine OA.advB ?_)
    · simp only [go_sem, ti3, ti4, ti5, ti32, ti39, ti41, ti31, ti96, ti87, ti29, ti22, ti26, ti23, Int.natCast_zero, List.length_drop]
    simp only [go_sem, ti3, ti4, ti5, ti32, ti39, ti41, ti31, ti96, ti87, ti29, ti22, ti26, ti23, Int.natCast_zero]
    refine ⟨by rw [trOK_eq3]; rfl, hK _ _ ?_⟩
    exact Wc.ret (Pf.retS [.tmp 6, .tmp 7] rfl rfl (by simp only [resultsD, go_sem, ti3, ti4, ti5, ti32, ti39, ti41, ti31, ti96, ti87, ti29, ti22, ti26, ti23, Int.natCast_zero, hF]) (G := [(id, .grow 10 (Z ++ l.drop (i + 1)).length (cB (Z ++ l.drop (i + 1))) false)]) (M := [(0, .cells (b.pd.map .p) false)]) hs2 (.inr ⟨id, rfl, rfl⟩))
  have hlt1 := of_decide_eq_false hc
  rw [if_neg hlt1] at hR
  refine Wc.skip (Wc.seq (Wc.seq ?_))
  refine Wc.regD fun K hK => ?_; simp only [go_sem, ti3, ti4, ti5, ti32, ti39, ti41, ti31, ti96, ti87, ti29, ti22, ti26, ti23, Int.natCast_zero, hF, g0, hix, hca7]; refine hK _ _ ?_; clear hK K
  refine Wc.cond (t := decide (b.lt < c.ft)) (by simp only [go_sem, ti3, ti4, ti5, ti32, ti39, ti41, ti31, ti96, ti87, ti29, ti22, ti26, ti23, Int.natCast_zero, hF]) (fun hc => ?_) (fun hc => ?_)
  · have hlt := of_decide_eq_true hc
    rw [if_pos hlt] at hR
    have hz : T ++ joinB k b c :: l.drop (i + 1) = (T ++ [joinB k b c]) ++ l.drop (i + 1) := by simp
    rw [← hR, Option.map_some, hz]
    refine Wc.seq ?_
    refine Wc.regT fun K hK => ?_
    simp only [go_sem, ti3, ti4, ti5, ti32, ti39, ti41, ti31, ti96, ti87, ti29, ti22, ti26, ti23, Int.natCast_zero, hF, g0, hix, hca]
    refine wpCall.pf (p2) (by kernel_rfl) (by kernel_rfl) rfl rfl ?_
    simp only [go_sem, ti3, ti4, ti5, ti32, ti39, ti41, ti31, ti96, ti87, ti29, ti22, ti26, ti23, Int.natCast_zero, hF, o95, x95]
    refine GB.appG (b := s1.nx + 40) (l := T) (m := [joinB k b c]) (M := [(0, .cells (b.pd.map .p) false)]) (L := []) ?_ (by simp only [List.length_cons, List.length_nil]; omega) ?_ fun s' hs hnx => ?_
    · exact by (try simp only [St.nx_put, St.nx_adv]); repeat (first | exact OA.mono ho (by omega) | refine OA.newB ?_ (by omega) rfl | refine OA.putB ?_ (by omega) | refine OA.advB ?_)
    · simp only [go_sem, ti3, ti4, ti5, ti32, ti39, ti41, ti31, ti96, ti87, ti29, ti22, ti26, ti23, Int.natCast_zero]; rfl
    have hzl : (T ++ [joinB k b c]).length = i + 1 := by simp [htk]
    clear hz
    generalize T ++ [joinB k b c] = Z at *
    simp only [go_sem, ti3, ti4, ti5, ti32, ti39, ti41, ti31, ti96, ti87, ti29, ti22, ti26, ti23, Int.natCast_zero, hF, i64n i (by omega), hfl, hile1, dfB, Int.le_refl]
    refine GB.appG (b := s1.nx + 40) (l := Z) (m := l.drop (i + 1)) (M := [(0, .cells (b.pd.map .p) false)]) (L := []) ?_ (by omega) ?_ fun s2 hs2 hnx2 => ?_
    · exact by (try simp only [St.nx_put, St.nx_adv]); repeat (first | exact OA.mono hs (by omega) | refine OA.newB ?_ (by omega) rfl | refine OA.putB ?_ (by omega) | refine OA.advB ?_)
    · simp only [go_sem, ti3, ti4, ti5, ti32, ti39, ti41, ti31, ti96, ti87, ti29, ti22, ti26, ti23, Int.natCast_zero, List.length_drop]
    simp only [go_sem, ti3, ti4, ti5, ti32, ti39, ti41, ti31, ti96, ti87, ti29, ti22, ti26, ti23, Int.natCast_zero]
    refine ⟨by rw [trOK_eq3]; rfl, hK _ _ ?_⟩
    exact Wc.ret (Pf.retS [.tmp 6, .tmp 7] rfl rfl (by simp only [resultsD, go_sem, ti3, ti4, ti5, ti32, ti39, ti41, ti31, ti96, ti87, ti29, ti22, ti26, ti23, Int.natCast_zero, hF]) (G := [(id, .grow 10 (Z ++ l.drop (i + 1)).length (cB (Z ++ l.drop (i + 1))) false)]) (M := [(0, .cells (b.pd.map .p) false)]) hs2 (.inr ⟨id, rfl, rfl⟩))
  have hlt2 := of_decide_eq_false hc
  rw [if_neg hlt2] at hR
  rw [← hR]
  refine Wc.skip (Wc.seq ?_)
  refine Wc.reg fun K hK => ?_; simp only [go_sem, ti3, ti4, ti5, ti32, ti39, ti41, ti31, ti96, ti87, ti29, ti22, ti26, ti23, Int.natCast_zero, hF]; refine hK _ _ ?_; clear hK K
  exact Wc.ret (Pf.ret [.tmp 6, .tmp 7] [.c (.p (.lst l.length (l.flatMap Bkt.pd))), .c (.p (.bool false))] rfl rfl (by simp only [resultsD, go_sem, ti3, ti4, ti5, ti32, ti39, ti41, ti31, ti96, ti87, ti29, ti22, ti26, ti23, Int.natCast_zero, hF]) rfl)
end Go.Proofs.YtedcnhbblgmdnaaGreat.Ab
namespace Go.Proofs.YtedcnhbblgmdnaaGreat.Ab
set_option maxHeartbeats 8000000
set_option maxRecDepth 10000
set_option linter.unusedSimpArgs false
set_option linter.unusedVariables false
theorem Wn.join2 {w n k : Int} {a b : Bkt} (ha : Wn n a) (hb : VB w b) (h0 : 0 ≤ n) : Wn (n + 1) (joinB k b a) := by
  obtain ⟨c1, c2, f1, f2, l1, l2, i1, i2, s1, s2⟩ := ha
  obtain ⟨d1, d2, g1, g2, m1, m2, j1, j2, t1, t2, _⟩ := hb
  have hst : -2199023255552 ≤ stepV b.l a.f ∧ stepV b.l a.f ≤ 2199023255552 := by unfold stepV; split <;> omega
  constructor <;> simp only [joinB] <;> first | omega | (split <;> omega)
theorem Wn.jb2 {w n : Int} {a b : Bkt} (ha : Wn n a) (hb : VB w b) (h0 : 0 ≤ n) (hn : n ≤ 2000) : JB b a := by
  obtain ⟨c1, c2, f1, f2, l1, l2, i1, i2, s1, s2⟩ := ha
  obtain ⟨d1, d2, g1, g2, m1, m2, j1, j2, t1, t2, _⟩ := hb
  constructor <;> omega
theorem putB_wn {k w n : Int} {b : Bkt} (hb : VB w b) (h0 : 1 ≤ n) : ∀ {l z : List Bkt}, (∀ c ∈ l, Wn n c) → putB k l b = some z → (∀ c ∈ z, Wn (n + 1) c) ∧ z.length ≤ l.length + 1
  | [], z, _, h => by
    simp only [putB, Option.some.injEq] at h; subst h
    exact ⟨fun c hc => by rw [List.mem_singleton.1 hc]; exact hb.wn (by omega), by simp⟩
  | c :: l, z, hl, h => by
    have hc := hl c (by simp)
    have ht : ∀ d ∈ l, Wn (n + 1) d := fun d hd => (hl d (by simp [hd])).more (by omega)
    rw [putB] at h
    split at h
    · cases hp : putB k l b with
      | none => rw [hp] at h; cases h
      | some q =>
        rw [hp] at h
        simp only [Option.map_some, Option.some.injEq] at h; subst h
        obtain ⟨i1, i2⟩ := putB_wn hb h0 (fun d hd => hl d (by simp [hd])) hp
        refine ⟨fun d hd => ?_, by simp only [List.length_cons]; omega⟩
        rcases List.mem_cons.1 hd with rfl | hd
        · exact hc.more (by omega)
        · exact i1 d hd
    split at h
    · simp only [Option.some.injEq] at h; subst h
      refine ⟨fun d hd => ?_, by simp⟩
      rcases List.mem_cons.1 hd with rfl | hd
      · exact hb.wn (by omega)
      · exact (hl d hd).more (by omega)
    split at h
    · simp only [Option.some.injEq] at h; subst h
      refine ⟨fun d hd => ?_, by simp⟩
      rcases List.mem_cons.1 hd with rfl | hd
      · exact hc.join hb (by omega)
      · exact ht d hd
    split at h
    · simp only [Option.some.injEq] at h; subst h
      refine ⟨fun d hd => ?_, by simp⟩
      rcases List.mem_cons.1 hd with rfl | hd
      · exact hc.join2 hb (by omega)
      · exact ht d hd
    · cases h
def meP (x u : Rlp) (z : List Bkt) : Rlp := ⟨x.lb, x.k, x.w, z⟩
def meO (x u : Rlp) : Option (List Bkt) → Int
  | none => 16
  | some z => if limB (meP x u z) then 4 else 0
/-- Merged rollups: the answer's number, the rollup. -/
def meC (x u : Rlp) : Int := if rlpOK x = false ∨ rlpOK u = false then 1 else if cmpL x.lb u.lb ≠ 0 ∨ x.k ≠ u.k ∨ x.w ≠ u.w then 10 else meO x u (putsB x.k x.bs u.bs)
def meR (x u : Rlp) : Rlp := if meC x u = 0 then (match putsB x.k x.bs u.bs with
  | none => zR
  | some z => meP x u z) else zR
theorem b00 : ((0 : Int) != 0) = false := rfl
theorem o53 : E0.opn 53 = false := by kernel_rfl
theorem x53 : E0.xt 53 = none := by kernel_rfl
/-- 22: the reference's Merge -/
theorem pf22 (x u : Rlp) (zx : Rz x) (zu : Rz u) : Pf E0 22 [.agg (x.pd.map .p), .agg (u.pd.map .p)] (resR (meR x u) (meC x u)) := by
  have hfu : (u.bs.flatMap Bkt.pd).length = u.bs.length * 10 := fB _
  have hxl := zx.lb
  have hul := zu.lb
  have px := pf23 x zx.lb zx.ls
  have pu := pf23 u zu.lb zu.ls
  have pl := pf50g x.lb u.lb (by omega) (by omega)
  unfold chkR at px pu
  refine Pf.body (fn := Tryz.f22) (by kernel_rfl) rfl ?_; simp only [List.map_cons, List.map_nil, List.cons_append, List.nil_append, List.length_cons, List.length_nil, Tryz.ntmps22, List.replicate, Nat.reduceSub, Nat.reduceAdd]
  refine Wc.seq ?_
  refine Wc.reg fun K hK => ?_; simp only [go_sem, ti3, ti4, ti5, ti32, ti39, ti41, ti31, ti96, ti87, ti29, ti22, ti26, ti23, Int.natCast_zero]; refine hK _ _ ?_; clear hK K
  refine Wc.seq (Wc.seq ?_)
  cases hok : rlpOK x with
  | false =>
    have e : meC x u = 1 := by unfold meC; rw [if_pos (.inl hok)]
    rw [hok] at px
    rw [meR, e]
    refine Wc.reg fun K hK => ?_; simp only [go_sem, ti3, ti4, ti5, ti32, ti39, ti41, ti31, ti96, ti87, ti29, ti22, ti26, ti23, Int.natCast_zero]
    refine wpCall.pf (px) (by kernel_rfl) (by kernel_rfl) rfl rfl ?_
    simp only [go_sem, ti3, ti4, ti5, ti32, ti39, ti41, ti31, ti96, ti87, ti29, ti22, ti26, ti23, Int.natCast_zero, b10]; refine hK _ _ ?_; clear hK K
    refine Wc.cond (t := true) (by simp only [go_sem, ti3, ti4, ti5, ti32, ti39, ti41, ti31, ti96, ti87, ti29, ti22, ti26, ti23, Int.natCast_zero, b10]) (fun _ => ?_) (fun hc => by cases hc)
    refine Wc.seq ?_
    refine Wc.reg fun K hK => ?_; simp only [go_sem, ti3, ti4, ti5, ti32, ti39, ti41, ti31, ti96, ti87, ti29, ti22, ti26, ti23, Int.natCast_zero]; refine hK _ _ ?_; clear hK K
    exact Wc.ret (Pf.ret [.cell 4 31, .tmp 5] [.agg [.nils, .p (pI 0), .p (pI 0), .nils], .c (.p (pI 1))] rfl rfl (by simp only [resultsD, go_sem, ti3, ti4, ti5, ti32, ti39, ti41, ti31, ti96, ti87, ti29, ti22, ti26, ti23, Int.natCast_zero]) rfl)
  | true =>
  rw [hok] at px
  cases hoku : rlpOK u with
  | false =>
    have e : meC x u = 1 := by unfold meC; rw [if_pos (.inr hoku)]
    rw [hoku] at pu
    rw [meR, e]
    refine Wc.reg fun K hK => ?_; simp only [go_sem, ti3, ti4, ti5, ti32, ti39, ti41, ti31, ti96, ti87, ti29, ti22, ti26, ti23, Int.natCast_zero]
    refine wpCall.pf (px) (by kernel_rfl) (by kernel_rfl) rfl rfl ?_
    simp only [go_sem, ti3, ti4, ti5, ti32, ti39, ti41, ti31, ti96, ti87, ti29, ti22, ti26, ti23, Int.natCast_zero, if_true, b00]
    refine wpCall.pf (pu) (by kernel_rfl) (by kernel_rfl) rfl rfl ?_
    simp only [go_sem, ti3, ti4, ti5, ti32, ti39, ti41, ti31, ti96, ti87, ti29, ti22, ti26, ti23, Int.natCast_zero, b10]; refine hK _ _ ?_; clear hK K
    refine Wc.cond (t := true) (by simp only [go_sem, ti3, ti4, ti5, ti32, ti39, ti41, ti31, ti96, ti87, ti29, ti22, ti26, ti23, Int.natCast_zero, b10]) (fun _ => ?_) (fun hc => by cases hc)
    refine Wc.seq ?_
    refine Wc.reg fun K hK => ?_; simp only [go_sem, ti3, ti4, ti5, ti32, ti39, ti41, ti31, ti96, ti87, ti29, ti22, ti26, ti23, Int.natCast_zero]; refine hK _ _ ?_; clear hK K
    exact Wc.ret (Pf.ret [.cell 4 31, .tmp 5] [.agg [.nils, .p (pI 0), .p (pI 0), .nils], .c (.p (pI 1))] rfl rfl (by simp only [resultsD, go_sem, ti3, ti4, ti5, ti32, ti39, ti41, ti31, ti96, ti87, ti29, ti22, ti26, ti23, Int.natCast_zero]) rfl)
  | true =>
  rw [hoku] at pu
  have hx := rlpOK_v hok
  have hu := rlpOK_v hoku
  have e9 : meC x u = if cmpL x.lb u.lb ≠ 0 ∨ x.k ≠ u.k ∨ x.w ≠ u.w then 10 else meO x u (putsB x.k x.bs u.bs) := by unfold meC; rw [if_neg (by simp [hok, hoku])]
  refine Wc.reg fun K hK => ?_; simp only [go_sem, ti3, ti4, ti5, ti32, ti39, ti41, ti31, ti96, ti87, ti29, ti22, ti26, ti23, Int.natCast_zero]
  refine wpCall.pf (px) (by kernel_rfl) (by kernel_rfl) rfl rfl ?_
  simp only [go_sem, ti3, ti4, ti5, ti32, ti39, ti41, ti31, ti96, ti87, ti29, ti22, ti26, ti23, Int.natCast_zero, if_true, b00]
  refine wpCall.pf (pu) (by kernel_rfl) (by kernel_rfl) rfl rfl ?_
  simp only [go_sem, ti3, ti4, ti5, ti32, ti39, ti41, ti31, ti96, ti87, ti29, ti22, ti26, ti23, Int.natCast_zero, if_true, b00]; refine hK _ _ ?_; clear hK K
  refine Wc.cond (t := false) (by simp only [go_sem, ti3, ti4, ti5, ti32, ti39, ti41, ti31, ti96, ti87, ti29, ti22, ti26, ti23, Int.natCast_zero, b00]) (fun hc => by cases hc) (fun _ => Wc.skip ?_)
  refine Wc.seq (Wc.seq ?_)
  by_cases m1 : cmpL x.lb u.lb = 0
  case neg =>
    have e : meC x u = 10 := by rw [e9, if_pos (.inl m1)]
    have h1 : (cmpL x.lb u.lb == 0) = false := by simpa using m1
    rw [meR, e]
    rw [h1] at pl
    refine Wc.reg fun K hK => ?_; simp only [go_sem, ti3, ti4, ti5, ti32, ti39, ti41, ti31, ti96, ti87, ti29, ti22, ti26, ti23, Int.natCast_zero]
    refine wpCall.pf (pl) (by kernel_rfl) (by kernel_rfl) rfl rfl ?_
    simp only [go_sem, ti3, ti4, ti5, ti32, ti39, ti41, ti31, ti96, ti87, ti29, ti22, ti26, ti23, Int.natCast_zero, Bool.not_false]; refine hK _ _ ?_; clear hK K
    refine Wc.cond (t := true) (by simp only [go_sem, ti3, ti4, ti5, ti32, ti39, ti41, ti31, ti96, ti87, ti29, ti22, ti26, ti23, Int.natCast_zero, Bool.not_false]) (fun _ => ?_) (fun hc => by cases hc)
    refine Wc.seq ?_
    refine Wc.reg fun K hK => ?_; simp only [go_sem, ti3, ti4, ti5, ti32, ti39, ti41, ti31, ti96, ti87, ti29, ti22, ti26, ti23, Int.natCast_zero]; refine hK _ _ ?_; clear hK K
    exact Wc.ret (Pf.ret [.cell 4 31, .tmp 5] [.agg [.nils, .p (pI 0), .p (pI 0), .nils], .c (.p (pI 10))] rfl rfl (by simp only [resultsD, go_sem, ti3, ti4, ti5, ti32, ti39, ti41, ti31, ti96, ti87, ti29, ti22, ti26, ti23, Int.natCast_zero]) rfl)
  have h1 : (cmpL x.lb u.lb == 0) = true := by simpa using m1
  rw [h1] at pl
  by_cases m2 : x.k = u.k
  case neg =>
    have e : meC x u = 10 := by rw [e9, if_pos (.inr (.inl m2))]
    have h2 : (x.k != u.k) = true := by simpa using m2
    rw [meR, e]
    refine Wc.reg fun K hK => ?_; simp only [go_sem, ti3, ti4, ti5, ti32, ti39, ti41, ti31, ti96, ti87, ti29, ti22, ti26, ti23, Int.natCast_zero]
    refine wpCall.pf (pl) (by kernel_rfl) (by kernel_rfl) rfl rfl ?_
    simp only [go_sem, ti3, ti4, ti5, ti32, ti39, ti41, ti31, ti96, ti87, ti29, ti22, ti26, ti23, Int.natCast_zero, Bool.not_true, h2]; refine hK _ _ ?_; clear hK K
    refine Wc.cond (t := true) (by simp only [go_sem, ti3, ti4, ti5, ti32, ti39, ti41, ti31, ti96, ti87, ti29, ti22, ti26, ti23, Int.natCast_zero, Bool.not_true, h2]) (fun _ => ?_) (fun hc => by cases hc)
    refine Wc.seq ?_
    refine Wc.reg fun K hK => ?_; simp only [go_sem, ti3, ti4, ti5, ti32, ti39, ti41, ti31, ti96, ti87, ti29, ti22, ti26, ti23, Int.natCast_zero]; refine hK _ _ ?_; clear hK K
    exact Wc.ret (Pf.ret [.cell 4 31, .tmp 5] [.agg [.nils, .p (pI 0), .p (pI 0), .nils], .c (.p (pI 10))] rfl rfl (by simp only [resultsD, go_sem, ti3, ti4, ti5, ti32, ti39, ti41, ti31, ti96, ti87, ti29, ti22, ti26, ti23, Int.natCast_zero]) rfl)
  have h2 : (x.k != u.k) = false := by simpa using m2
  by_cases m3 : x.w = u.w
  case neg =>
    have e : meC x u = 10 := by rw [e9, if_pos (.inr (.inr m3))]
    have h3 : (x.w != u.w) = true := by simpa using m3
    rw [meR, e]
    refine Wc.reg fun K hK => ?_; simp only [go_sem, ti3, ti4, ti5, ti32, ti39, ti41, ti31, ti96, ti87, ti29, ti22, ti26, ti23, Int.natCast_zero]
    refine wpCall.pf (pl) (by kernel_rfl) (by kernel_rfl) rfl rfl ?_
    simp only [go_sem, ti3, ti4, ti5, ti32, ti39, ti41, ti31, ti96, ti87, ti29, ti22, ti26, ti23, Int.natCast_zero, Bool.not_true, h2, h3]; refine hK _ _ ?_; clear hK K
    refine Wc.cond (t := true) (by simp only [go_sem, ti3, ti4, ti5, ti32, ti39, ti41, ti31, ti96, ti87, ti29, ti22, ti26, ti23, Int.natCast_zero, Bool.not_true, h2, h3]) (fun _ => ?_) (fun hc => by cases hc)
    refine Wc.seq ?_
    refine Wc.reg fun K hK => ?_; simp only [go_sem, ti3, ti4, ti5, ti32, ti39, ti41, ti31, ti96, ti87, ti29, ti22, ti26, ti23, Int.natCast_zero]; refine hK _ _ ?_; clear hK K
    exact Wc.ret (Pf.ret [.cell 4 31, .tmp 5] [.agg [.nils, .p (pI 0), .p (pI 0), .nils], .c (.p (pI 10))] rfl rfl (by simp only [resultsD, go_sem, ti3, ti4, ti5, ti32, ti39, ti41, ti31, ti96, ti87, ti29, ti22, ti26, ti23, Int.natCast_zero]) rfl)
  have h3 : (x.w != u.w) = false := by simpa using m3
  have e : meC x u = meO x u (putsB x.k x.bs u.bs) := by rw [e9, if_neg (by simp [m1, m2, m3])]
  have hR0 : putsB x.k x.bs (u.bs.drop 0) = putsB x.k x.bs u.bs := rfl
  rw [meR, e]
  generalize putsB x.k x.bs u.bs = R at *
  refine Wc.reg fun K hK => ?_; simp only [go_sem, ti3, ti4, ti5, ti32, ti39, ti41, ti31, ti96, ti87, ti29, ti22, ti26, ti23, Int.natCast_zero]
  refine wpCall.pf (pl) (by kernel_rfl) (by kernel_rfl) rfl rfl ?_
  simp only [go_sem, ti3, ti4, ti5, ti32, ti39, ti41, ti31, ti96, ti87, ti29, ti22, ti26, ti23, Int.natCast_zero, Bool.not_true, h2, h3]; refine hK _ _ ?_; clear hK K
  refine Wc.cond (t := false) (by simp only [go_sem, ti3, ti4, ti5, ti32, ti39, ti41, ti31, ti96, ti87, ti29, ti22, ti26, ti23, Int.natCast_zero, Bool.not_true, h2, h3]) (fun hc => by cases hc) (fun _ => Wc.skip ?_)
  refine Wc.seqR (fun y => ∃ A, (R = some A ∧ A.length < 2^30) ∧ y.ds = [] ∧ Fs y.e 68 [(2, .v (.c (.ref 0 0))), (4, .v (.c (.ref 2 0)))] ∧ OA y.s.nx y.s [] [(2, .cells [.nils, .p (pI 0), .p (pI 0), .nils] false), (1, .cells (u.pd.map .p) false), (0, .cells ((meP x u A).pd.map .p) false)]) ?_ ?_
  · refine Wc.seq ?_
    refine Wc.reg fun K hK => ?_; simp only [go_sem, ti3, ti4, ti5, ti32, ti39, ti41, ti31, ti96, ti87, ti29, ti22, ti26, ti23, Int.natCast_zero]; refine hK _ _ ?_; clear hK K
    refine Wc.block (Wc.loop (fun c y => ∃ (i : Nat) (A : List Bkt), c = u.bs.length - i ∧ (i ≤ u.bs.length ∧ putsB x.k A (u.bs.drop i) = R ∧ (∀ c ∈ A, Wn ((i : Int) + 1) c) ∧ A.length ≤ 2000 + i) ∧ y.ds = [] ∧ Fs y.e 68 [(2, .v (.c (.ref 0 0))), (3, .v (.c (.ref 1 0))), (4, .v (.c (.ref 2 0))), (6, P' (pI i))] ∧ OA y.s.nx y.s [] [(2, .cells [.nils, .p (pI 0), .p (pI 0), .nils] false), (1, .cells (u.pd.map .p) false), (0, .cells ((meP x u A).pd.map .p) false)]) ?_ (k := u.bs.length) ?_)
    · rintro c ⟨e, ds, s1⟩ ⟨i, A, rfl, ⟨hi, hR, hwn, hAl⟩, rfl, hF, ho⟩
      simp only [Fs] at hF ho
      have g0 := ho.at_ (0, .cells ((meP x u A).pd.map .p) false) (by simp)
      have g1 := ho.at_ (1, .cells (u.pd.map .p) false) (by simp)
      have g2 := ho.at_ (2, .cells [.nils, .p (pI 0), .p (pI 0), .nils] false) (by simp)
      simp only [List.map_cons, List.map_nil, meP] at g0 g1
      refine Wc.seq (Wc.seq ?_)
      refine Wc.reg fun K hK => ?_; simp only [go_sem, ti3, ti4, ti5, ti32, ti39, ti41, ti31, ti96, ti87, ti29, ti22, ti26, ti23, Int.natCast_zero, hF, g1]; refine hK _ _ ?_; clear hK K
      refine Wc.cond (t := decide ((i : Int) < u.bs.length)) (by simp only [go_sem, ti3, ti4, ti5, ti32, ti39, ti41, ti31, ti96, ti87, ti29, ti22, ti26, ti23, Int.natCast_zero, hF]) (fun hc => ?_) (fun hc => ?_)
      · have hil : i < u.bs.length := by have := of_decide_eq_true hc; omega
        obtain ⟨b, hb⟩ : ∃ b, u.bs[i]? = some b := ⟨u.bs[i], List.getElem?_eq_getElem hil⟩
        have hix := ixA ti29 rfl ti41 (j := i) (m := u.bs.length) (cs := u.bs.flatMap Bkt.pd) hil hfu (by decide)
        have hca := rpB0 hb
        have hvb := hu.vb b (List.mem_of_getElem? hb)
        have hul2 := hu.len
        have p53 := pf53 A b x.k (by omega) (fun c hc _ => ⟨(hwn c hc).jb hvb (by omega) (by omega), (hwn c hc).jb2 hvb (by omega) (by omega)⟩)
        rw [drop_at hb, putsB] at hR
        refine Wc.skip (Wc.seq (Wc.block (Wc.seq ?_)))
        cases hp : putB x.k A b with
        | none =>
          rw [hp] at hR p53
          simp only at hR
          simp only [resP] at p53
          rw [← hR]
          refine Wc.regT fun K hK => ?_
          simp only [go_sem, ti3, ti4, ti5, ti32, ti39, ti41, ti31, ti96, ti87, ti29, ti22, ti26, ti23, Int.natCast_zero, hF, g0, g1, hix, hca]
          refine wpCall.pf (p53) (by kernel_rfl) (by kernel_rfl) rfl rfl ?_
          simp only [go_sem, ti3, ti4, ti5, ti32, ti39, ti41, ti31, ti96, ti87, ti29, ti22, ti26, ti23, Int.natCast_zero, hF, o53, x53]
          refine ⟨by rw [trOK_eq3]; rfl, hK _ _ ?_⟩
          clear hK K
          refine Wc.seq (Wc.seq ?_)
          refine Wc.reg fun K hK => ?_; simp only [go_sem, ti3, ti4, ti5, ti32, ti39, ti41, ti31, ti96, ti87, ti29, ti22, ti26, ti23, Int.natCast_zero, hF]; refine hK _ _ ?_; clear hK K
          refine Wc.cond (t := true) (by simp only [go_sem, ti3, ti4, ti5, ti32, ti39, ti41, ti31, ti96, ti87, ti29, ti22, ti26, ti23, Int.natCast_zero, hF]) (fun _ => ?_) (fun hc => by cases hc)
          refine Wc.seq ?_
          refine Wc.reg fun K hK => ?_; simp only [go_sem, ti3, ti4, ti5, ti32, ti39, ti41, ti31, ti96, ti87, ti29, ti22, ti26, ti23, Int.natCast_zero, hF, g2]; refine hK _ _ ?_; clear hK K
          exact Wc.ret (Pf.ret [.cell 4 31, .tmp 5] [.agg [.nils, .p (pI 0), .p (pI 0), .nils], .c (.p (pI 16))] rfl rfl (by simp only [resultsD, go_sem, ti3, ti4, ti5, ti32, ti39, ti41, ti31, ti96, ti87, ti29, ti22, ti26, ti23, Int.natCast_zero, hF]) rfl)
        | some z =>
          rw [hp] at hR p53
          simp only at hR
          simp only [resP] at p53
          obtain ⟨w1, w2⟩ := putB_wn hvb (by omega) hwn hp
          refine Wc.regT fun K hK => ?_
          simp only [go_sem, ti3, ti4, ti5, ti32, ti39, ti41, ti31, ti96, ti87, ti29, ti22, ti26, ti23, Int.natCast_zero, hF, g0, g1, hix, hca]
          refine wpCall.pf (p53) (by kernel_rfl) (by kernel_rfl) rfl rfl ?_
          simp only [go_sem, ti3, ti4, ti5, ti32, ti39, ti41, ti31, ti96, ti87, ti29, ti22, ti26, ti23, Int.natCast_zero, hF, o53, x53]
          refine ⟨by rw [trOK_eq3]; rfl, hK _ _ ?_⟩
          clear hK K
          refine Wc.seq (Wc.seq ?_)
          refine Wc.reg fun K hK => ?_; simp only [go_sem, ti3, ti4, ti5, ti32, ti39, ti41, ti31, ti96, ti87, ti29, ti22, ti26, ti23, Int.natCast_zero, hF]; refine hK _ _ ?_; clear hK K
          refine Wc.cond (t := false) (by simp only [go_sem, ti3, ti4, ti5, ti32, ti39, ti41, ti31, ti96, ti87, ti29, ti22, ti26, ti23, Int.natCast_zero, hF]) (fun hc => by cases hc) (fun _ => Wc.skip ?_)
          refine Wc.reg fun K hK => ?_; simp only [go_sem, ti3, ti4, ti5, ti32, ti39, ti41, ti31, ti96, ti87, ti29, ti22, ti26, ti23, Int.natCast_zero, hF, g0]; refine hK _ _ ?_; clear hK K
          refine Wc.reg fun K hK => ?_; simp only [go_sem, ti3, ti4, ti5, ti32, ti39, ti41, ti31, ti96, ti87, ti29, ti22, ti26, ti23, Int.natCast_zero, hF, i64n i (by omega)]; refine hK _ _ ?_; clear hK K
          refine ⟨u.bs.length - (i + 1), by omega, i + 1, z, rfl, ⟨by omega, hR, fun c hc => (w1 c hc).more (by omega), by omega⟩, rfl, by simp only [Fs, Int.natCast_zero, go_sem, ti3, ti4, ti5, ti32, ti39, ti41, ti31, ti96, ti87, ti29, ti22, ti26, ti23, Int.natCast_zero, hF], ?_⟩
          exact by (try simp only [St.nx_put, St.nx_adv]); (repeat refine OA.advB ?_); refine OA.ofS (M1 := [(2, .cells [.nils, .p (pI 0), .p (pI 0), .nils] false), (1, .cells (u.pd.map .p) false)]) ?_; repeat (first | exact ⟨_, OA.mono ho (by omega)⟩ | refine OAs.adv ?_ | refine OAs.put ?_ | refine OAs.putB ?_ (by omega))
      · have hil : i = u.bs.length := by have := of_decide_eq_false hc; omega
        rw [hil, List.drop_length, putsB] at hR
        exact Wc.exit ⟨A, ⟨hR.symm, by have := hu.len; omega⟩, rfl, by simp only [Fs, Int.natCast_zero, go_sem, ti3, ti4, ti5, ti32, ti39, ti41, ti31, ti96, ti87, ti29, ti22, ti26, ti23, Int.natCast_zero, hF], by (try simp only [St.nx_put, St.nx_adv]); repeat (first | exact OA.mono ho (by omega) | refine OA.newB ?_ (by omega) rfl | refine OA.advB ?_)⟩
    · exact ⟨0, x.bs, rfl, ⟨by omega, hR0, fun c hc => (hx.vb c hc).wn (by omega), by have := hx.len; omega⟩, rfl, by simp only [Fs, Int.natCast_zero, go_sem, ti3, ti4, ti5, ti32, ti39, ti41, ti31, ti96, ti87, ti29, ti22, ti26, ti23, Int.natCast_zero], by (try simp only [St.nx_put, St.nx_adv]); repeat (first | exact OA.mono s00_oa (by omega) | refine OA.newB ?_ (by omega) rfl | refine OA.advB ?_)⟩
  rintro ⟨e, ds, s1⟩ ⟨A, ⟨rfl, hAl⟩, rfl, hF, ho⟩
  simp only [Fs] at hF ho
  have g0 := ho.at_ (0, .cells ((meP x u A).pd.map .p) false) (by simp)
  have g2 := ho.at_ (2, .cells [.nils, .p (pI 0), .p (pI 0), .nils] false) (by simp)
  simp only [List.map_cons, List.map_nil, meP] at g0
  have p49 := pf49 (meP x u A) (by show A.length < 2^40; omega)
  have hO : meO x u (some A) = if limB (meP x u A) then 4 else 0 := rfl
  have n4 : ¬ ((4 : Int) = 0) := by decide
  rw [hO]
  cases hl : limB (meP x u A) with
  | true =>
    rw [hl] at p49
    rw [if_pos rfl, if_neg n4]
    refine Wc.seq ?_
    refine Wc.reg fun K hK => ?_; simp only [go_sem, ti3, ti4, ti5, ti32, ti39, ti41, ti31, ti96, ti87, ti29, ti22, ti26, ti23, Int.natCast_zero, hF, g0]
    refine wpCall.pf (p49) (by kernel_rfl) (by kernel_rfl) rfl rfl ?_
    simp only [go_sem, ti3, ti4, ti5, ti32, ti39, ti41, ti31, ti96, ti87, ti29, ti22, ti26, ti23, Int.natCast_zero, hF, g2]; refine hK _ _ ?_; clear hK K
    exact Wc.ret (Pf.ret [.cell 4 31, .tmp 5] [.agg (zR.pd.map .p), .c (.p (pI 4))] rfl rfl (by simp only [resultsD, go_sem, ti3, ti4, ti5, ti32, ti39, ti41, ti31, ti96, ti87, ti29, ti22, ti26, ti23, Int.natCast_zero, hF]) rfl)
  | false =>
    rw [hl] at p49
    rw [if_neg Bool.false_ne_true, if_pos rfl]
    refine Wc.seq ?_
    refine Wc.reg fun K hK => ?_; simp only [go_sem, ti3, ti4, ti5, ti32, ti39, ti41, ti31, ti96, ti87, ti29, ti22, ti26, ti23, Int.natCast_zero, hF, g0]
    refine wpCall.pf (p49) (by kernel_rfl) (by kernel_rfl) rfl rfl ?_
    simp only [go_sem, ti3, ti4, ti5, ti32, ti39, ti41, ti31, ti96, ti87, ti29, ti22, ti26, ti23, Int.natCast_zero, hF, g2]; refine hK _ _ ?_; clear hK K
    exact Wc.ret (Pf.ret [.cell 4 31, .tmp 5] [.agg ((meP x u A).pd.map .p), .c (.p (pI 0))] rfl rfl (by simp only [resultsD, go_sem, ti3, ti4, ti5, ti32, ti39, ti41, ti31, ti96, ti87, ti29, ti22, ti26, ti23, Int.natCast_zero, hF]) rfl)
end Go.Proofs.YtedcnhbblgmdnaaGreat.Ab
