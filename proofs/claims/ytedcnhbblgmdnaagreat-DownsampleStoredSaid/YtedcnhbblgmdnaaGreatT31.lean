/- A part of the proof: an evaluator of the code, its contracts, the law. No condition. -/
import Derived.Test.YtedcnhbblgmdnaaGreatT30
namespace Go.Proofs.YtedcnhbblgmdnaaGreat.Ab
set_option maxHeartbeats 8000000
set_option maxRecDepth 10000
set_option linter.unusedSimpArgs false
set_option linter.unusedVariables false
theorem flat_mapP {A : Type} (f : A → List Pd) : ∀ l : List A, l.flatMap (fun a => (f a).map C.p) = (l.flatMap f).map .p
  | [] => rfl
  | a :: r => by rw [List.flatMap_cons, List.flatMap_cons, List.map_append, flat_mapP f r]
/-- What unpack returns. -/
def unpR {A : Type} (enc : A → List Pd) : Option (List A) → D
  | none => .tup [.c (.p (.lst 0 [])), .c (.p (.bool false))]
  | some l => .tup [.c (.p (.lst l.length (l.flatMap enc))), .c (.p (.bool true))]
theorem purD_cx {s s1 : St} {c : C} {y x : Pd} (h : purC s c = some (y, s1)) : purD s (.tup [.c c, .c (.p x)]) = some (.tup [.c (.p y), .c (.p x)], s1) := by
  have h0 : purC s1 (.p x) = some (x, s1) := rfl
  simp only [purD, purVs, purV, h, h0]
theorem purD_mt {A : Type} {enc : A → List Pd} {es : Nat} (hes : ∀ a, (enc a).length = es) {l : List A} {L : List (Nat × D × Nat × List Pd)} {M : List (Nat × Ob)} {c6 : C} {s : St} {x : Pd} (h : SlS (fun a => (enc a).map .p) es l L M c6 s) :
    ∃ s', purD s (.tup [.c c6, .c (.p x)]) = some (.tup [.c (.p (.lst l.length (l.flatMap enc))), .c (.p x)], s') := by
  rcases h with ⟨rfl, rfl | ⟨k, rfl⟩, h3⟩ | ⟨k, rfl, h2, h3⟩ | ⟨k, rfl, h2, rfl⟩
  · exact ⟨s, rfl⟩
  · exact ⟨s, rfl⟩
  · have hg := h2.at_ (k, .cells (l.flatMap fun a => (enc a).map .p) false) (by simp)
    simp only [flat_mapP] at hg
    have hpc : purC s (.mt k 0 l.length es) = some (.lst l.length (l.flatMap enc), s.put k (.cells ((l.flatMap enc).map .p) true)) := by
      simp only [purC, hg, allM_purS, List.drop_zero, Nat.zero_add]
      have e : (l.flatMap enc).length = l.length * es := flatC_len hes l
      rw [if_pos (by omega), ← e, List.take_length]
    exact ⟨_, purD_cx hpc⟩
  · have hg := h2.at_ (k, .grow es 0 [] false) (by simp)
    have hpc : purC s (.gs 0 k 0 0 es) = some (.lst 0 [], s.put k (.grow es 0 [] true)) := by
      simp only at hg
      simp only [purC, hg, allM]
      rw [if_pos ⟨trivial, trivial, by simp⟩]
      simp
    exact ⟨_, purD_cx hpc⟩
theorem bktU_r : bktU.map ColU.r = bktR := rfl
/-- 202: unpack -/
theorem pf202 (ss : List (List UInt8)) (hl : ss.length = 10) (hss : ∀ x ∈ ss, x.length < 2^40) : Pf E0 202 [.c (.p (.lst ss.length (ss.map .str))), .c (.p (.lst bktU.length (bktU.flatMap ColU.pd)))] (unpR Bkt.pd (unpk zB bktR ss)) := by
  refine Pf.body (fn := Tryz.f202) (by kernel_rfl) rfl ?_
  refine uw202 (L := []) (M := []) (z := zB) (cols := bktU) (ss := ss) s00_oa ⟨_, ti41, rfl⟩ (by decide) hl hss bktU_ok (fun _ => rfl) (fun h s' _ => ?_) (fun l h s' c6 hs => ?_)
  · rw [bktU_r] at h; rw [h]; exact ⟨_, rfl⟩
  · rw [bktU_r] at h; rw [h]; exact purD_mt (enc := Bkt.pd) (fun _ => rfl) hs
theorem splitN_len : ∀ {n : Nat} {s : List UInt8} {ss : List (List UInt8)}, splitN n s = some ss → ss.length = n
  | 0, s, ss, h => by
    rw [splitN] at h
    split at h
    · cases h; rfl
    · cases h
  | n + 1, s, ss, h => by
    rw [splitN] at h
    split at h
    · cases h
    · split at h
      · cases h
      · cases hr : splitN n (s.drop ((rdV s).2.1 + (rdV s).1.toNat)) with
        | none => rw [hr] at h; cases h
        | some r => rw [hr] at h; cases h; rw [List.length_cons, splitN_len hr]
theorem splitN_le : ∀ {n : Nat} {s : List UInt8} {ss : List (List UInt8)}, splitN n s = some ss → ∀ x ∈ ss, x.length ≤ s.length
  | 0, s, ss, h => by
    rw [splitN] at h
    split at h
    · cases h; intro x hx; cases hx
    · cases h
  | n + 1, s, ss, h => by
    rw [splitN] at h
    split at h
    · cases h
    · split at h
      · cases h
      · cases hr : splitN n (s.drop ((rdV s).2.1 + (rdV s).1.toNat)) with
        | none => rw [hr] at h; cases h
        | some r =>
          rw [hr] at h; cases h
          intro x hx
          rcases List.mem_cons.1 hx with rfl | hx
          · simp; omega
          · have := splitN_le hr x hx
            rw [List.length_drop] at this
            omega
/-- What parseRollup returns. -/
def parL (o : Option Rlp) (D : D) : Prop := match o with
  | none => ∃ p0 p1 p2 p3 : Pd, D = .tup [.agg [.p p0, .p p1, .p p2, .p p3], .c (.p (.bool false))]
  | some x => D = .tup [.agg (x.pd.map .p), .c (.p (.bool true))]
/-- 128: parseRollup -/
theorem pf128 (c : Chk) (z : Cz c) : ∃ D, Pf E0 128 [.agg (c.pd.map .p)] D ∧ parL (parseL c.lb c.d) D := by
  refine Pf.bodyE (fn := Tryz.f128) (by kernel_rfl) rfl ?_; simp only [List.map_cons, List.map_nil, List.cons_append, List.nil_append, List.length_cons, List.length_nil, Tryz.ntmps128, List.replicate, Nat.reduceSub, Nat.reduceAdd]
  have hd := z.d
  have p200 := pf200 c.d
  obtain ⟨b1, b2, b3, b4⟩ := rdV_le c.d
  generalize hR : parseL c.lb c.d = R
  unfold parseL at hR
  generalize (rdV c.d).1 = kk at *
  generalize (rdV c.d).2.1 = sz at *
  generalize (rdV c.d).2.2 = er at *
  have c1 : ((sz : Int) ≤ (c.d.length : Int)) = True := by simp; omega
  refine Wc.seq ?_
  refine Wc.reg fun K hK => ?_; simp only [go_sem, ti3, ti4, ti5, ti9, ti32, ti22, ti29, ti31, ti39, ti41, ti94, ti96, ti117, ti155, ti158, Int.natCast_zero]; refine hK _ _ ?_; clear hK K
  refine Wc.seq ?_
  refine Wc.reg fun K hK => ?_; simp only [go_sem, ti3, ti4, ti5, ti9, ti32, ti22, ti29, ti31, ti39, ti41, ti94, ti96, ti117, ti155, ti158, Int.natCast_zero]
  refine wpCall.pf (p200) (by kernel_rfl) (by kernel_rfl) rfl rfl ?_
  simp only [go_sem, ti3, ti4, ti5, ti9, ti32, ti22, ti29, ti31, ti39, ti41, ti94, ti96, ti117, ti155, ti158, Int.natCast_zero]; refine hK _ _ ?_; clear hK K
  refine Wc.seqR (fun y => ¬ (er ≠ 0 ∨ 262144 < c.d.length) ∧ y.ds = [] ∧ Fs y.e 70 [(1, .v (.c (.ref 0 0))), (2, .v (.c (.ref 1 0))), (4, P' (pI kk)), (5, P' (pI sz))] ∧ OA y.s.nx y.s [] [(1, .cells [.nils, .p (pI 0), .p (pI 0), .nils] false), (0, .cells (c.pd.map .p) false)]) ?_ ?_
  · refine Wc.seq ?_
    by_cases he : er = 0
    · have d0 : (er != 0) = false := by simpa using he
      refine Wc.reg fun K hK => ?_; simp only [go_sem, ti3, ti4, ti5, ti9, ti32, ti22, ti29, ti31, ti39, ti41, ti94, ti96, ti117, ti155, ti158, Int.natCast_zero, d0]; refine hK _ _ ?_; clear hK K
      refine Wc.cond (t := decide ((262144 : Int) < c.d.length)) (by simp only [go_sem, ti3, ti4, ti5, ti9, ti32, ti22, ti29, ti31, ti39, ti41, ti94, ti96, ti117, ti155, ti158, Int.natCast_zero]) (fun hc => ?_) (fun hc => ?_)
      · have hbig : 262144 < c.d.length := by have := of_decide_eq_true hc; omega
        rw [if_pos (.inr hbig)] at hR
        subst hR
        refine Wc.seq ?_
        refine Wc.reg fun K hK => ?_; simp only [go_sem, ti3, ti4, ti5, ti9, ti32, ti22, ti29, ti31, ti39, ti41, ti94, ti96, ti117, ti155, ti158, Int.natCast_zero]; refine hK _ _ ?_; clear hK K
        exact Wc.ret (Pf.retE [.cell 2 31, .tmp 3] [.agg [.nils, .p (pI 0), .p (pI 0), .nils], .c (.p (.bool false))] rfl rfl (by simp only [resultsD, go_sem, ti3, ti4, ti5, ti9, ti32, ti22, ti29, ti31, ti39, ti41, ti94, ti96, ti117, ti155, ti158, Int.natCast_zero]) rfl ⟨_, _, _, _, rfl⟩)
      · have hbig : ¬ 262144 < c.d.length := by have := of_decide_eq_false hc; omega
        refine Wc.skip ⟨by rintro (h | h) <;> contradiction, rfl, by simp only [Fs, Int.natCast_zero, go_sem, ti3, ti4, ti5, ti9, ti32, ti22, ti29, ti31, ti39, ti41, ti94, ti96, ti117, ti155, ti158, Int.natCast_zero], by (try simp only [St.nx_put, St.nx_adv]); repeat (first | exact OA.mono s00_oa (by omega) | refine OA.newB ?_ (by omega) rfl | refine OA.advB ?_)⟩
    · have d0 : (er != 0) = true := by simpa using he
      rw [if_pos (.inl he)] at hR
      subst hR
      refine Wc.reg fun K hK => ?_; simp only [go_sem, ti3, ti4, ti5, ti9, ti32, ti22, ti29, ti31, ti39, ti41, ti94, ti96, ti117, ti155, ti158, Int.natCast_zero, d0]; refine hK _ _ ?_; clear hK K
      refine Wc.cond (t := true) (by simp only [go_sem, ti3, ti4, ti5, ti9, ti32, ti22, ti29, ti31, ti39, ti41, ti94, ti96, ti117, ti155, ti158, Int.natCast_zero]) (fun _ => ?_) (fun hc => by cases hc)
      refine Wc.seq ?_
      refine Wc.reg fun K hK => ?_; simp only [go_sem, ti3, ti4, ti5, ti9, ti32, ti22, ti29, ti31, ti39, ti41, ti94, ti96, ti117, ti155, ti158, Int.natCast_zero]; refine hK _ _ ?_; clear hK K
      exact Wc.ret (Pf.retE [.cell 2 31, .tmp 3] [.agg [.nils, .p (pI 0), .p (pI 0), .nils], .c (.p (.bool false))] rfl rfl (by simp only [resultsD, go_sem, ti3, ti4, ti5, ti9, ti32, ti22, ti29, ti31, ti39, ti41, ti94, ti96, ti117, ti155, ti158, Int.natCast_zero]) rfl ⟨_, _, _, _, rfl⟩)
  rintro ⟨e, ds, s1⟩ ⟨hgood, rfl, hF, ho⟩
  simp only [Fs] at hF ho
  rw [if_neg hgood] at hR
  have g1 := ho.at_ (1, .cells [.nils, .p (pI 0), .p (pI 0), .nils] false) (by simp)
  have g0 := ho.at_ (0, .cells (c.pd.map .p) false) (by simp)
  simp only [List.map_cons, List.map_nil] at g0
  have p200' := pf200 (c.d.drop sz)
  obtain ⟨e1, e2, e3, e4⟩ := rdV_le (c.d.drop sz)
  generalize (rdV (c.d.drop sz)).1 = kw at *
  generalize (rdV (c.d.drop sz)).2.1 = sw at *
  generalize (rdV (c.d.drop sz)).2.2 = er2 at *
  rw [List.length_drop] at e1
  refine Wc.seq ?_
  refine Wc.reg fun K hK => ?_; simp only [go_sem, ti3, ti4, ti5, ti9, ti32, ti22, ti29, ti31, ti39, ti41, ti94, ti96, ti117, ti155, ti158, Int.natCast_zero, hF, g0, c1, slice_from, Int.le_refl]
  refine wpCall.pf (p200') (by kernel_rfl) (by kernel_rfl) rfl rfl ?_
  simp only [go_sem, ti3, ti4, ti5, ti9, ti32, ti22, ti29, ti31, ti39, ti41, ti94, ti96, ti117, ti155, ti158, Int.natCast_zero, hF]; refine hK _ _ ?_; clear hK K
  refine Wc.seq (Wc.seq ?_)
  by_cases he2 : er2 = 0
  case neg =>
    have d0 : (er2 != 0) = true := by simpa using he2
    rw [if_pos he2] at hR
    subst hR
    refine Wc.reg fun K hK => ?_; simp only [go_sem, ti3, ti4, ti5, ti9, ti32, ti22, ti29, ti31, ti39, ti41, ti94, ti96, ti117, ti155, ti158, Int.natCast_zero, hF, d0]; refine hK _ _ ?_; clear hK K
    refine Wc.cond (t := true) (by simp only [go_sem, ti3, ti4, ti5, ti9, ti32, ti22, ti29, ti31, ti39, ti41, ti94, ti96, ti117, ti155, ti158, Int.natCast_zero, hF, d0]) (fun _ => ?_) (fun hc => by cases hc)
    refine Wc.seq ?_
    refine Wc.reg fun K hK => ?_; simp only [go_sem, ti3, ti4, ti5, ti9, ti32, ti22, ti29, ti31, ti39, ti41, ti94, ti96, ti117, ti155, ti158, Int.natCast_zero, hF, g1]; refine hK _ _ ?_; clear hK K
    exact Wc.ret (Pf.retE [.cell 2 31, .tmp 3] [.agg [.nils, .p (pI 0), .p (pI 0), .nils], .c (.p (.bool false))] rfl rfl (by simp only [resultsD, go_sem, ti3, ti4, ti5, ti9, ti32, ti22, ti29, ti31, ti39, ti41, ti94, ti96, ti117, ti155, ti158, Int.natCast_zero, hF]) rfl ⟨_, _, _, _, rfl⟩)
  have d0 : (er2 != 0) = false := by simpa using he2
  rw [if_neg (by simpa using he2)] at hR
  refine Wc.reg fun K hK => ?_; simp only [go_sem, ti3, ti4, ti5, ti9, ti32, ti22, ti29, ti31, ti39, ti41, ti94, ti96, ti117, ti155, ti158, Int.natCast_zero, hF, d0]; refine hK _ _ ?_; clear hK K
  refine Wc.cond (t := false) (by simp only [go_sem, ti3, ti4, ti5, ti9, ti32, ti22, ti29, ti31, ti39, ti41, ti94, ti96, ti117, ti155, ti158, Int.natCast_zero, hF, d0]) (fun hc => by cases hc) (fun _ => Wc.skip ?_)
  refine Wc.seq ?_
  refine Wc.reg fun K hK => ?_; simp only [go_sem, ti3, ti4, ti5, ti9, ti32, ti22, ti29, ti31, ti39, ti41, ti94, ti96, ti117, ti155, ti158, Int.natCast_zero, hF]
  refine wpCall.pf (pf99) (by kernel_rfl) (by kernel_rfl) rfl rfl ?_
  simp only [go_sem, ti3, ti4, ti5, ti9, ti32, ti22, ti29, ti31, ti39, ti41, ti94, ti96, ti117, ti155, ti158, Int.natCast_zero, hF]; refine hK _ _ ?_; clear hK K
  have hsum : IntKind.i64.wrap ((sz : Int) + (sw : Int)) = ((sz + sw : Nat) : Int) := by rw [wi64]; omega
  have c2 : (((sz + sw : Nat) : Int) ≤ (c.d.length : Int)) = True := by simp; omega
  have c3 : ((0 : Int) ≤ ((sz + sw : Nat) : Int)) = True := by simp; omega
  have hdl : (c.d.drop (sz + sw)).length < 2^60 := by rw [List.length_drop]; omega
  have hbl : ((bktCols.length : Nat) : Int) = ((10 : Nat) : Int) := rfl
  obtain ⟨D9, p201, l, rfl, hl⟩ := pf201 (c.d.drop (sz + sw)) 10 hdl (by decide)
  refine Wc.seq ?_
  refine Wc.reg fun K hK => ?_; simp only [go_sem, ti3, ti4, ti5, ti9, ti32, ti22, ti29, ti31, ti39, ti41, ti94, ti96, ti117, ti155, ti158, Int.natCast_zero, hF, g0, hsum, c2, c3, slice_from, Int.le_refl]
  refine wpCall.pf (p201) (by kernel_rfl) (by kernel_rfl) rfl rfl ?_
  simp only [go_sem, ti3, ti4, ti5, ti9, ti32, ti22, ti29, ti31, ti39, ti41, ti94, ti96, ti117, ti155, ti158, Int.natCast_zero, hF]; refine hK _ _ ?_; clear hK K
  refine Wc.seq (Wc.seq ?_)
  cases hs : splitN 10 (c.d.drop (sz + sw)) with
  | none =>
    rw [hs] at hR
    simp only at hR
    subst hR
    refine Wc.reg fun K hK => ?_; simp only [go_sem, ti3, ti4, ti5, ti9, ti32, ti22, ti29, ti31, ti39, ti41, ti94, ti96, ti117, ti155, ti158, Int.natCast_zero, hF, hs, Option.isSome_none]; refine hK _ _ ?_; clear hK K
    refine Wc.cond (t := true) (by simp only [go_sem, ti3, ti4, ti5, ti9, ti32, ti22, ti29, ti31, ti39, ti41, ti94, ti96, ti117, ti155, ti158, Int.natCast_zero, hF, hs, Option.isSome_none]) (fun _ => ?_) (fun hc => by cases hc)
    refine Wc.seq ?_
    refine Wc.reg fun K hK => ?_; simp only [go_sem, ti3, ti4, ti5, ti9, ti32, ti22, ti29, ti31, ti39, ti41, ti94, ti96, ti117, ti155, ti158, Int.natCast_zero, hF, g1]; refine hK _ _ ?_; clear hK K
    exact Wc.ret (Pf.retE [.cell 2 31, .tmp 3] [.agg [.nils, .p (pI 0), .p (pI 0), .nils], .c (.p (.bool false))] rfl rfl (by simp only [resultsD, go_sem, ti3, ti4, ti5, ti9, ti32, ti22, ti29, ti31, ti39, ti41, ti94, ti96, ti117, ti155, ti158, Int.natCast_zero, hF]) rfl ⟨_, _, _, _, rfl⟩)
  | some ss =>
  have hll := hl ss hs
  subst hll
  have hlen := splitN_len hs
  have hle := splitN_le hs
  rw [hs] at hR
  simp only at hR
  have p202 := pf202 l hlen (fun x hx => by have := hle x hx; rw [List.length_drop] at this; omega)
  refine Wc.reg fun K hK => ?_; simp only [go_sem, ti3, ti4, ti5, ti9, ti32, ti22, ti29, ti31, ti39, ti41, ti94, ti96, ti117, ti155, ti158, Int.natCast_zero, hF, hs, Option.isSome_some]; refine hK _ _ ?_; clear hK K
  refine Wc.cond (t := false) (by simp only [go_sem, ti3, ti4, ti5, ti9, ti32, ti22, ti29, ti31, ti39, ti41, ti94, ti96, ti117, ti155, ti158, Int.natCast_zero, hF, hs, Option.isSome_some]) (fun hc => by cases hc) (fun _ => Wc.skip ?_)
  cases hu : unpk zB bktR l with
  | none =>
    rw [hu] at hR p202
    simp only [Option.map_none] at hR
    subst hR
    simp only [unpR] at p202
    refine Wc.seq ?_
    refine Wc.reg fun K hK => ?_; simp only [go_sem, ti3, ti4, ti5, ti9, ti32, ti22, ti29, ti31, ti39, ti41, ti94, ti96, ti117, ti155, ti158, Int.natCast_zero, hF]
    refine wpCall.pf (p202) (by kernel_rfl) (by kernel_rfl) rfl rfl ?_
    simp only [go_sem, ti3, ti4, ti5, ti9, ti32, ti22, ti29, ti31, ti39, ti41, ti94, ti96, ti117, ti155, ti158, Int.natCast_zero, hF]; refine hK _ _ ?_; clear hK K
    refine Wc.seq ?_
    refine Wc.reg fun K hK => ?_; simp only [go_sem, ti3, ti4, ti5, ti9, ti32, ti22, ti29, ti31, ti39, ti41, ti94, ti96, ti117, ti155, ti158, Int.natCast_zero, hF, g0, g1]; refine hK _ _ ?_; clear hK K
    exact Wc.ret (Pf.retE [.cell 2 31, .tmp 3] [.agg [.p (.lst c.lb.length (c.lb.flatMap lbP)), .p (pI kk), .p (pI kw), .p (.lst 0 [])], .c (.p (.bool false))] rfl rfl (by simp only [resultsD, go_sem, ti3, ti4, ti5, ti9, ti32, ti22, ti29, ti31, ti39, ti41, ti94, ti96, ti117, ti155, ti158, Int.natCast_zero, hF]) rfl ⟨_, _, _, _, rfl⟩)
  | some bs =>
    rw [hu] at hR p202
    simp only [Option.map_some] at hR
    subst hR
    simp only [unpR] at p202
    refine Wc.seq ?_
    refine Wc.reg fun K hK => ?_; simp only [go_sem, ti3, ti4, ti5, ti9, ti32, ti22, ti29, ti31, ti39, ti41, ti94, ti96, ti117, ti155, ti158, Int.natCast_zero, hF]
    refine wpCall.pf (p202) (by kernel_rfl) (by kernel_rfl) rfl rfl ?_
    simp only [go_sem, ti3, ti4, ti5, ti9, ti32, ti22, ti29, ti31, ti39, ti41, ti94, ti96, ti117, ti155, ti158, Int.natCast_zero, hF]; refine hK _ _ ?_; clear hK K
    refine Wc.seq ?_
    refine Wc.reg fun K hK => ?_; simp only [go_sem, ti3, ti4, ti5, ti9, ti32, ti22, ti29, ti31, ti39, ti41, ti94, ti96, ti117, ti155, ti158, Int.natCast_zero, hF, g0, g1]; refine hK _ _ ?_; clear hK K
    exact Wc.ret (Pf.retE [.cell 2 31, .tmp 3] [.agg [.p (.lst c.lb.length (c.lb.flatMap lbP)), .p (pI kk), .p (pI kw), .p (.lst bs.length (bs.flatMap Bkt.pd))], .c (.p (.bool true))] rfl rfl (by simp only [resultsD, go_sem, ti3, ti4, ti5, ti9, ti32, ti22, ti29, ti31, ti39, ti41, ti94, ti96, ti117, ti155, ti158, Int.natCast_zero, hF]) rfl rfl)
/-- 203: slices.Equal, of equal labels -/
theorem pf203 (l : List Lb) (hl : l.length < 2^60) : Pf E0 203 [.c (.p (.lst l.length (l.flatMap lbP))), .c (.p (.lst l.length (l.flatMap lbP)))] (P' (.bool true)) := by
  have hfl : (l.flatMap lbP).length = l.length * 2 := flat_len (k := 2) (fun _ => rfl) _
  have d0 : ((l.length : Int) != (l.length : Int)) = false := by simp
  refine Pf.body (fn := Tryz.f203) (by kernel_rfl) rfl ?_; simp only [List.map_cons, List.map_nil, List.cons_append, List.nil_append, List.length_cons, List.length_nil, Tryz.ntmps203, List.replicate, Nat.reduceSub, Nat.reduceAdd]
  refine Wc.seq ?_
  refine Wc.reg fun K hK => ?_; simp only [go_sem, ti3, ti4, ti5, ti9, ti32, ti22, ti29, ti31, ti39, ti41, ti94, ti96, ti117, ti155, ti158, Int.natCast_zero]; refine hK _ _ ?_; clear hK K
  refine Wc.seq (Wc.seq ?_)
  refine Wc.reg fun K hK => ?_; simp only [go_sem, ti3, ti4, ti5, ti9, ti32, ti22, ti29, ti31, ti39, ti41, ti94, ti96, ti117, ti155, ti158, Int.natCast_zero, d0]; refine hK _ _ ?_; clear hK K
  refine Wc.cond (t := false) (by simp only [go_sem, ti3, ti4, ti5, ti9, ti32, ti22, ti29, ti31, ti39, ti41, ti94, ti96, ti117, ti155, ti158, Int.natCast_zero, d0]) (fun hc => by cases hc) (fun _ => Wc.skip ?_)
  refine Wc.seqR (fun y => y.ds = [] ∧ Fs y.e 26 []) ?_ ?_
  · refine Wc.seq ?_
    refine Wc.reg fun K hK => ?_; simp only [go_sem, ti3, ti4, ti5, ti9, ti32, ti22, ti29, ti31, ti39, ti41, ti94, ti96, ti117, ti155, ti158, Int.natCast_zero, Int.natCast_zero]; refine hK _ _ ?_; clear hK K
    refine Wc.block (Wc.loop (fun k y => ∃ i : Nat, k = l.length - i ∧ i ≤ l.length ∧ y.ds = [] ∧ Fs y.e 26 [(0, P' (.lst l.length (l.flatMap lbP))), (1, P' (.lst l.length (l.flatMap lbP))), (12, P' (pI l.length)), (13, P' (pI i))]) ?_ (k := l.length) ?_)
    · rintro k ⟨e, ds, s1⟩ ⟨i, rfl, hi, rfl, hF⟩
      simp only [Fs] at hF
      refine Wc.seq ?_
      refine Wc.reg fun K hK => ?_; simp only [go_sem, ti3, ti4, ti5, ti9, ti32, ti22, ti29, ti31, ti39, ti41, ti94, ti96, ti117, ti155, ti158, Int.natCast_zero, hF]; refine hK _ _ ?_; clear hK K
      refine Wc.seq (Wc.cond (t := decide ((i : Int) < l.length)) (by simp only [go_sem, ti3, ti4, ti5, ti9, ti32, ti22, ti29, ti31, ti39, ti41, ti94, ti96, ti117, ti155, ti158, Int.natCast_zero, hF]) (fun hc => ?_) (fun hc => ?_))
      · have hil : i < l.length := by have : (i : Int) < l.length := by simpa using hc
                                      omega
        obtain ⟨x, hx⟩ : ∃ x, l[i]? = some x := ⟨l[i], List.getElem?_eq_getElem hil⟩
        have hix := ixA ti22 rfl ti117 (j := i) (m := l.length) (cs := l.flatMap lbP) hil hfl (by decide)
        have hca := rpA (off := i * 2) (drop_flat (f := lbP) (k := 2) (fun _ => rfl) hx) (by rw [hfl]; omega)
        refine Wc.skip (Wc.seq (Wc.block (Wc.seq ?_)))
        refine Wc.reg fun K hK => ?_; simp only [go_sem, ti3, ti4, ti5, ti9, ti32, ti22, ti29, ti31, ti39, ti41, ti94, ti96, ti117, ti155, ti158, Int.natCast_zero, hF]; refine hK _ _ ?_; clear hK K
        refine Wc.seq ?_
        refine Wc.regD fun K hK => ?_; simp only [go_sem, ti3, ti4, ti5, ti9, ti32, ti22, ti29, ti31, ti39, ti41, ti94, ti96, ti117, ti155, ti158, Int.natCast_zero, hF, hix, hca, eqL, eqS]; refine hK _ _ ?_; clear hK K
        refine Wc.cond (t := false) (by simp only [go_sem, ti3, ti4, ti5, ti9, ti32, ti22, ti29, ti31, ti39, ti41, ti94, ti96, ti117, ti155, ti158, Int.natCast_zero, hF]) (fun hc => by cases hc) (fun _ => Wc.skip ?_)
        refine Wc.reg fun K hK => ?_; simp only [go_sem, ti3, ti4, ti5, ti9, ti32, ti22, ti29, ti31, ti39, ti41, ti94, ti96, ti117, ti155, ti158, Int.natCast_zero, hF, i64n i (by omega)]; refine hK _ _ ?_; clear hK K
        exact ⟨l.length - (i + 1), by omega, i + 1, rfl, by omega, rfl, by simp only [Fs, Int.natCast_zero, go_sem, ti3, ti4, ti5, ti9, ti32, ti22, ti29, ti31, ti39, ti41, ti94, ti96, ti117, ti155, ti158, Int.natCast_zero, hF]⟩
      · exact Wc.exit ⟨rfl, by simp only [Fs, Int.natCast_zero, go_sem, ti3, ti4, ti5, ti9, ti32, ti22, ti29, ti31, ti39, ti41, ti94, ti96, ti117, ti155, ti158, Int.natCast_zero, hF]⟩
    · exact ⟨0, rfl, by omega, rfl, by simp only [Fs, Int.natCast_zero, go_sem, ti3, ti4, ti5, ti9, ti32, ti22, ti29, ti31, ti39, ti41, ti94, ti96, ti117, ti155, ti158, Int.natCast_zero]⟩
  rintro ⟨e, ds, s1⟩ ⟨rfl, hF⟩
  simp only [Fs] at hF
  refine Wc.seq ?_
  refine Wc.reg fun K hK => ?_; simp only [go_sem, ti3, ti4, ti5, ti9, ti32, ti22, ti29, ti31, ti39, ti41, ti94, ti96, ti117, ti155, ti158, Int.natCast_zero, hF]; refine hK _ _ ?_; clear hK K
  exact Wc.ret (Pf.ret [.tmp 4] [.c (.p (.bool true))] rfl rfl (by simp only [resultsD, go_sem, ti3, ti4, ti5, ti9, ti32, ti22, ti29, ti31, ti39, ti41, ti94, ti96, ti117, ti155, ti158, Int.natCast_zero, hF]) rfl)
def zGe (a b : ZG) : Bool := (a.c == b.c) && ((a.t1 == b.t1) && ((a.t2 == b.t2) && ((a.v1 == b.v1) && ((a.v2 == b.v2) && ((a.b0 == b.b0) && ((a.b1 == b.b1) && ((a.b2 == b.b2) && ((a.b3 == b.b3) && ((a.b4 == b.b4) && ((a.b5 == b.b5) && ((a.b6 == b.b6) && (a.b7 == b.b7))))))))))))
theorem zGe_iff (a b : ZG) : zGe a b = true ↔ a = b := by
  obtain ⟨⟩ := a
  obtain ⟨⟩ := b
  simp [zGe]
/-- 129: same, of chunks with the same labels -/
theorem pf129 (a b : Chk) (hsg : a.sig = b.sig) (hlb : a.lb = b.lb) (hl : b.lb.length < 2^60) : Pf E0 129 [.agg (a.pd.map .p), .agg (b.pd.map .p)] (P' (.bool (decide (a.d = b.d ∧ a.z = b.z)))) := by
  obtain ⟨sg, lb, za, da⟩ := a
  obtain ⟨sg', lb', zb, db⟩ := b
  simp only at hsg hlb hl ⊢
  subst hsg hlb
  have p203 := pf203 lb hl
  refine Pf.body (fn := Tryz.f129) (by kernel_rfl) rfl ?_; simp only [List.map_cons, List.map_nil, List.cons_append, List.nil_append, List.length_cons, List.length_nil, Tryz.ntmps129, List.replicate, Nat.reduceSub, Nat.reduceAdd]
  refine Wc.seq ?_
  refine Wc.reg fun K hK => ?_; simp only [go_sem, ti3, ti4, ti5, ti9, ti32, ti22, ti29, ti31, ti39, ti41, ti94, ti96, ti117, ti155, ti158, Int.natCast_zero]; refine hK _ _ ?_; clear hK K
  refine Wc.seq ?_
  cases hz : zGe za zb with
  | true =>
    have hz' := (zGe_iff za zb).1 hz
    subst hz'
    unfold zGe at hz
    have e : decide (da = db ∧ za = za) = (da == db) := by
      by_cases h : da = db <;> simp [h]
    rw [e]
    refine Wc.reg fun K hK => ?_; simp only [go_sem, ti3, ti4, ti5, ti9, ti32, ti22, ti29, ti31, ti39, ti41, ti94, ti96, ti117, ti155, ti158, Int.natCast_zero]
    refine wpCall.pf (p203) (by kernel_rfl) (by kernel_rfl) rfl rfl ?_
    simp only [go_sem, ti3, ti4, ti5, ti9, ti32, ti22, ti29, ti31, ti39, ti41, ti94, ti96, ti117, ti155, ti158, Int.natCast_zero, eqL, eqS, beq_self_eq_true, Bool.and_self]; refine hK _ _ ?_; clear hK K
    exact Wc.ret (Pf.ret [.tmp 4] [.c (.p (.bool (da == db)))] rfl rfl (by simp only [resultsD, go_sem, ti3, ti4, ti5, ti9, ti32, ti22, ti29, ti31, ti39, ti41, ti94, ti96, ti117, ti155, ti158, Int.natCast_zero]) rfl)
  | false =>
    have hne : za ≠ zb := fun h => by rw [(zGe_iff za zb).2 h] at hz; cases hz
    unfold zGe at hz
    have e : decide (da = db ∧ za = zb) = false := by simp [hne]
    rw [e]
    refine Wc.reg fun K hK => ?_; simp only [go_sem, ti3, ti4, ti5, ti9, ti32, ti22, ti29, ti31, ti39, ti41, ti94, ti96, ti117, ti155, ti158, Int.natCast_zero]
    refine wpCall.pf (p203) (by kernel_rfl) (by kernel_rfl) rfl rfl ?_
    simp only [go_sem, ti3, ti4, ti5, ti9, ti32, ti22, ti29, ti31, ti39, ti41, ti94, ti96, ti117, ti155, ti158, Int.natCast_zero, eqL, eqS, hz]; refine hK _ _ ?_; clear hK K
    exact Wc.ret (Pf.ret [.tmp 4] [.c (.p (.bool false))] rfl rfl (by simp only [resultsD, go_sem, ti3, ti4, ti5, ti9, ti32, ti22, ti29, ti31, ti39, ti41, ti94, ti96, ti117, ti155, ti158, Int.natCast_zero]) rfl)
end Go.Proofs.YtedcnhbblgmdnaaGreat.Ab
namespace Go.Proofs.YtedcnhbblgmdnaaGreat.Ab
set_option maxHeartbeats 8000000
set_option maxRecDepth 10000
set_option linter.unusedSimpArgs false
set_option linter.unusedVariables false
/-- Why a chunk is no rollup; the rollup of a chunk. -/
def dcR (c : Chk) : Option Rlp := if c.sig = 6 then decL c.lb c.z c.d else none
def dcE (c : Chk) : Int := if c.sig = 6 then (if (decL c.lb c.z c.d).isSome then 0 else 12) else 8
def dcX (c : Chk) : Rlp := (dcR c).getD zR
theorem unpkG_len {A : Type} : ∀ (cs : List (ColR A)) (ss : List (List UInt8)) (l l' : List A), unpkG cs ss l = some l' → l'.length = l.length
  | [], ss, l, l', h => by
    unfold unpkG at h; cases h; rfl
  | c :: cs, [], l, l', h => by
    unfold unpkG at h; cases h; rfl
  | c :: cs, s :: ss, l, l', h => by
    unfold unpkG at h
    split at h
    · cases h
    · rename_i h1
      have h2 : (decF c.1 s).1.length = l.length := Decidable.not_not.1 fun hn => h1 (.inr hn)
      rw [unpkG_len cs ss _ l' h, List.length_zipWith, h2, Nat.min_self]
theorem unpk_len {A : Type} {z : A} {cs : List (ColR A)} {ss : List (List UInt8)} {l : List A} (h : unpk z cs ss = some l) : l.length ≤ 20001 := by
  cases cs with
  | nil => unfold unpk at h; cases h; simp
  | cons c cs =>
    cases ss with
    | nil => unfold unpk at h; cases h; simp
    | cons s ss =>
      simp only [unpk] at h
      split at h
      · cases h
      · rw [unpkG_len _ _ _ _ h, List.length_map]
        exact decF_len _ _
theorem parseL_z {c : Chk} {x : Rlp} (z : Cz c) (h : parseL c.lb c.d = some x) : Rz x ∧ x.lb = c.lb := by
  unfold parseL at h
  split at h
  · cases h
  · split at h
    · cases h
    · split at h
      · cases h
      · rename_i ss _
        cases hu : unpk zB bktR ss with
        | none => rw [hu] at h; cases h
        | some l =>
          rw [hu] at h; cases h
          have := unpk_len hu
          exact ⟨⟨z.lb, z.ls, by simp only; omega⟩, rfl⟩
theorem b14 : ∀ {n : Int}, n ≠ 0 → (n != 0) = true := fun h => by simpa using h
/-- 69: DecodeRollup -/
theorem pf69 (c : Chk) (z : Cz c) : Pf E0 69 [.agg (c.pd.map .p)] (resR (dcX c) (dcE c)) := by
  obtain ⟨D, p128, hpar⟩ := pf128 c z
  refine Pf.body (fn := Tryz.f69) (by kernel_rfl) rfl ?_; simp only [List.map_cons, List.map_nil, List.cons_append, List.nil_append, List.length_cons, List.length_nil, Tryz.ntmps69, List.replicate, Nat.reduceSub, Nat.reduceAdd]
  refine Wc.seq ?_
  refine Wc.reg fun K hK => ?_; simp only [go_sem, ti3, ti4, ti5, ti9, ti32, ti22, ti29, ti31, ti60, ti62, ti65, ti67, ti94, ti96, Int.natCast_zero]; refine hK _ _ ?_; clear hK K
  refine Wc.seq (Wc.seq ?_)
  by_cases hs : c.sig = 6
  case neg =>
    have e1 : dcE c = 8 := by unfold dcE; rw [if_neg hs]
    have e2 : dcX c = zR := by unfold dcX dcR; rw [if_neg hs]; rfl
    have d0 : (c.sig != 6) = true := by simpa using hs
    rw [e1, e2]
    refine Wc.reg fun K hK => ?_; simp only [go_sem, ti3, ti4, ti5, ti9, ti32, ti22, ti29, ti31, ti60, ti62, ti65, ti67, ti94, ti96, Int.natCast_zero, d0]; refine hK _ _ ?_; clear hK K
    refine Wc.cond (t := true) (by simp only [go_sem, ti3, ti4, ti5, ti9, ti32, ti22, ti29, ti31, ti60, ti62, ti65, ti67, ti94, ti96, Int.natCast_zero, d0]) (fun _ => ?_) (fun hc => by cases hc)
    refine Wc.seq ?_
    refine Wc.reg fun K hK => ?_; simp only [go_sem, ti3, ti4, ti5, ti9, ti32, ti22, ti29, ti31, ti60, ti62, ti65, ti67, ti94, ti96, Int.natCast_zero]; refine hK _ _ ?_; clear hK K
    exact Wc.ret (Pf.ret [.cell 2 31, .tmp 3] [.agg [.nils, .p (pI 0), .p (pI 0), .nils], .c (.p (pI 8))] rfl rfl (by simp only [resultsD, go_sem, ti3, ti4, ti5, ti9, ti32, ti22, ti29, ti31, ti60, ti62, ti65, ti67, ti94, ti96, Int.natCast_zero]) rfl)
  have d0 : (c.sig != 6) = false := by simpa using hs
  have e1 : dcE c = if (decL c.lb c.z c.d).isSome then 0 else 12 := by unfold dcE; rw [if_pos hs]
  have e2 : dcX c = (decL c.lb c.z c.d).getD zR := by unfold dcX dcR; rw [if_pos hs]
  rw [e1, e2]
  generalize hR : decL c.lb c.z c.d = R
  unfold decL at hR
  refine Wc.reg fun K hK => ?_; simp only [go_sem, ti3, ti4, ti5, ti9, ti32, ti22, ti29, ti31, ti60, ti62, ti65, ti67, ti94, ti96, Int.natCast_zero, d0]; refine hK _ _ ?_; clear hK K
  refine Wc.cond (t := false) (by simp only [go_sem, ti3, ti4, ti5, ti9, ti32, ti22, ti29, ti31, ti60, ti62, ti65, ti67, ti94, ti96, Int.natCast_zero, d0]) (fun hc => by cases hc) (fun _ => Wc.skip ?_)
  cases hp : parseL c.lb c.d with
  | none =>
    rw [hp] at hR hpar
    simp only at hR
    subst hR
    obtain ⟨q0, q1, q2, q3, rfl⟩ := hpar
    refine Wc.seq ?_
    refine Wc.reg fun K hK => ?_; simp only [go_sem, ti3, ti4, ti5, ti9, ti32, ti22, ti29, ti31, ti60, ti62, ti65, ti67, ti94, ti96, Int.natCast_zero]
    refine wpCall.pf (p128) (by kernel_rfl) (by kernel_rfl) rfl rfl ?_
    simp only [go_sem, ti3, ti4, ti5, ti9, ti32, ti22, ti29, ti31, ti60, ti62, ti65, ti67, ti94, ti96, Int.natCast_zero]; refine hK _ _ ?_; clear hK K
    refine Wc.seq (Wc.seq ?_)
    refine Wc.reg fun K hK => ?_; simp only [go_sem, ti3, ti4, ti5, ti9, ti32, ti22, ti29, ti31, ti60, ti62, ti65, ti67, ti94, ti96, Int.natCast_zero]; refine hK _ _ ?_; clear hK K
    refine Wc.cond (t := true) (by simp only [go_sem, ti3, ti4, ti5, ti9, ti32, ti22, ti29, ti31, ti60, ti62, ti65, ti67, ti94, ti96, Int.natCast_zero]) (fun _ => ?_) (fun hc => by cases hc)
    refine Wc.seq ?_
    refine Wc.reg fun K hK => ?_; simp only [go_sem, ti3, ti4, ti5, ti9, ti32, ti22, ti29, ti31, ti60, ti62, ti65, ti67, ti94, ti96, Int.natCast_zero]; refine hK _ _ ?_; clear hK K
    exact Wc.ret (Pf.ret [.cell 2 31, .tmp 3] [.agg [.nils, .p (pI 0), .p (pI 0), .nils], .c (.p (pI 12))] rfl rfl (by simp only [resultsD, go_sem, ti3, ti4, ti5, ti9, ti32, ti22, ti29, ti31, ti60, ti62, ti65, ti67, ti94, ti96, Int.natCast_zero]) rfl)
  | some x =>
    obtain ⟨rz, hlb⟩ := parseL_z z hp
    rw [hp] at hR hpar
    simp only [parL] at hR hpar
    subst hpar
    have p51 := pf51 x rz.lb rz.ls
    refine Wc.seq ?_
    refine Wc.reg fun K hK => ?_; simp only [go_sem, ti3, ti4, ti5, ti9, ti32, ti22, ti29, ti31, ti60, ti62, ti65, ti67, ti94, ti96, Int.natCast_zero]
    refine wpCall.pf (p128) (by kernel_rfl) (by kernel_rfl) rfl rfl ?_
    simp only [go_sem, ti3, ti4, ti5, ti9, ti32, ti22, ti29, ti31, ti60, ti62, ti65, ti67, ti94, ti96, Int.natCast_zero]; refine hK _ _ ?_; clear hK K
    refine Wc.seq (Wc.seq ?_)
    refine Wc.reg fun K hK => ?_; simp only [go_sem, ti3, ti4, ti5, ti9, ti32, ti22, ti29, ti31, ti60, ti62, ti65, ti67, ti94, ti96, Int.natCast_zero]; refine hK _ _ ?_; clear hK K
    refine Wc.cond (t := false) (by simp only [go_sem, ti3, ti4, ti5, ti9, ti32, ti22, ti29, ti31, ti60, ti62, ti65, ti67, ti94, ti96, Int.natCast_zero]) (fun hc => by cases hc) (fun _ => Wc.skip ?_)
    cases he : encLo x with
    | none =>
      rw [encR_none he] at p51
      rw [he, if_neg (by rintro ⟨h, _⟩; cases h)] at hR
      subst hR
      have d1 : ((if rlpOK x = true then (4 : Int) else 1) != 0) = true := by split <;> decide
      generalize (if rlpOK x = true then (4 : Int) else 1) = er at *
      refine Wc.seq ?_
      refine Wc.reg fun K hK => ?_; simp only [go_sem, ti3, ti4, ti5, ti9, ti32, ti22, ti29, ti31, ti60, ti62, ti65, ti67, ti94, ti96, Int.natCast_zero]
      refine wpCall.pf (p51) (by kernel_rfl) (by kernel_rfl) rfl rfl ?_
      simp only [go_sem, ti3, ti4, ti5, ti9, ti32, ti22, ti29, ti31, ti60, ti62, ti65, ti67, ti94, ti96, Int.natCast_zero]; refine hK _ _ ?_; clear hK K
      refine Wc.seq (Wc.seq ?_)
      refine Wc.reg fun K hK => ?_; simp only [go_sem, ti3, ti4, ti5, ti9, ti32, ti22, ti29, ti31, ti60, ti62, ti65, ti67, ti94, ti96, Int.natCast_zero, d1]; refine hK _ _ ?_; clear hK K
      refine Wc.cond (t := true) (by simp only [go_sem, ti3, ti4, ti5, ti9, ti32, ti22, ti29, ti31, ti60, ti62, ti65, ti67, ti94, ti96, Int.natCast_zero, d1]) (fun _ => ?_) (fun hc => by cases hc)
      refine Wc.seq ?_
      refine Wc.reg fun K hK => ?_; simp only [go_sem, ti3, ti4, ti5, ti9, ti32, ti22, ti29, ti31, ti60, ti62, ti65, ti67, ti94, ti96, Int.natCast_zero]; refine hK _ _ ?_; clear hK K
      exact Wc.ret (Pf.ret [.cell 2 31, .tmp 3] [.agg [.nils, .p (pI 0), .p (pI 0), .nils], .c (.p (pI 12))] rfl rfl (by simp only [resultsD, go_sem, ti3, ti4, ti5, ti9, ti32, ti22, ti29, ti31, ti60, ti62, ti65, ti67, ti94, ti96, Int.natCast_zero]) rfl)
    | some d' =>
      rw [encR_some he, hlb] at p51
      have p129 := pf129 ⟨6, c.lb, (rlpZ x.bs).g, d'⟩ c hs.symm rfl (by have := z.lb; omega)
      simp only at p129
      rw [he] at hR
      simp only [Option.some.injEq] at hR
      rw [← hlb] at p51 p129
      refine Wc.seq ?_
      refine Wc.reg fun K hK => ?_; simp only [go_sem, ti3, ti4, ti5, ti9, ti32, ti22, ti29, ti31, ti60, ti62, ti65, ti67, ti94, ti96, Int.natCast_zero]
      refine wpCall.pf (p51) (by kernel_rfl) (by kernel_rfl) rfl rfl ?_
      simp only [go_sem, ti3, ti4, ti5, ti9, ti32, ti22, ti29, ti31, ti60, ti62, ti65, ti67, ti94, ti96, Int.natCast_zero]; refine hK _ _ ?_; clear hK K
      refine Wc.seq (Wc.seq ?_)
      by_cases hsame : d' = c.d ∧ (rlpZ x.bs).g = c.z
      · rw [if_pos hsame] at hR
        subst hR
        have e0 : decide (d' = c.d ∧ (rlpZ x.bs).g = c.z) = true := by simpa using hsame
        rw [e0] at p129
        refine Wc.reg fun K hK => ?_; simp only [go_sem, ti3, ti4, ti5, ti9, ti32, ti22, ti29, ti31, ti60, ti62, ti65, ti67, ti94, ti96, Int.natCast_zero, b00]
        refine wpCall.pf (p129) (by kernel_rfl) (by kernel_rfl) rfl rfl ?_
        simp only [go_sem, ti3, ti4, ti5, ti9, ti32, ti22, ti29, ti31, ti60, ti62, ti65, ti67, ti94, ti96, Int.natCast_zero, b00]; refine hK _ _ ?_; clear hK K
        refine Wc.cond (t := false) (by simp only [go_sem, ti3, ti4, ti5, ti9, ti32, ti22, ti29, ti31, ti60, ti62, ti65, ti67, ti94, ti96, Int.natCast_zero, b00]) (fun hc => by cases hc) (fun _ => Wc.skip ?_)
        refine Wc.seq ?_
        refine Wc.reg fun K hK => ?_; simp only [go_sem, ti3, ti4, ti5, ti9, ti32, ti22, ti29, ti31, ti60, ti62, ti65, ti67, ti94, ti96, Int.natCast_zero]; refine hK _ _ ?_; clear hK K
        exact Wc.ret (Pf.ret [.cell 2 31, .tmp 3] [.agg (x.pd.map .p), .c (.p (pI 0))] rfl rfl (by simp only [resultsD, go_sem, ti3, ti4, ti5, ti9, ti32, ti22, ti29, ti31, ti60, ti62, ti65, ti67, ti94, ti96, Int.natCast_zero]) rfl)
      · rw [if_neg hsame] at hR
        subst hR
        have e0 : decide (d' = c.d ∧ (rlpZ x.bs).g = c.z) = false := by simpa using hsame
        rw [e0] at p129
        refine Wc.reg fun K hK => ?_; simp only [go_sem, ti3, ti4, ti5, ti9, ti32, ti22, ti29, ti31, ti60, ti62, ti65, ti67, ti94, ti96, Int.natCast_zero, b00]
        refine wpCall.pf (p129) (by kernel_rfl) (by kernel_rfl) rfl rfl ?_
        simp only [go_sem, ti3, ti4, ti5, ti9, ti32, ti22, ti29, ti31, ti60, ti62, ti65, ti67, ti94, ti96, Int.natCast_zero, b00]; refine hK _ _ ?_; clear hK K
        refine Wc.cond (t := true) (by simp only [go_sem, ti3, ti4, ti5, ti9, ti32, ti22, ti29, ti31, ti60, ti62, ti65, ti67, ti94, ti96, Int.natCast_zero, b00]) (fun _ => ?_) (fun hc => by cases hc)
        refine Wc.seq ?_
        refine Wc.reg fun K hK => ?_; simp only [go_sem, ti3, ti4, ti5, ti9, ti32, ti22, ti29, ti31, ti60, ti62, ti65, ti67, ti94, ti96, Int.natCast_zero]; refine hK _ _ ?_; clear hK K
        exact Wc.ret (Pf.ret [.cell 2 31, .tmp 3] [.agg [.nils, .p (pI 0), .p (pI 0), .nils], .c (.p (pI 12))] rfl rfl (by simp only [resultsD, go_sem, ti3, ti4, ti5, ti9, ti32, ti22, ti29, ti31, ti60, ti62, ti65, ti67, ti94, ti96, Int.natCast_zero]) rfl)
end Go.Proofs.YtedcnhbblgmdnaaGreat.Ab
