/- A part of the proof: an evaluator of the code, its contracts, the law. No condition. -/
import Derived.Test.YtedcnhbblgmdnaaGreatT27
namespace Go.Proofs.YtedcnhbblgmdnaaGreat.Ab
set_option maxHeartbeats 8000000
set_option maxRecDepth 10000
set_option linter.unusedSimpArgs false
set_option linter.unusedVariables false
theorem sumsW_len : ∀ (d : List Int) (f : Int), (sumsW f d).length = d.length + 1
  | [], _ => rfl
  | x :: r, f => by simp [sumsW, sumsW_len r]
/-- 152: sums -/
theorem pf294 (f : Int) (d : List Int) (hd : d.length < 2^40) : Pf E0 294 [.c (.p (pI f)), .c (.p (.lst d.length (d.map pI)))] (P' (.lst (sumsW f d).length ((sumsW f d).map pI))) := by
  have w1 : IntKind.i64.wrap ((d.length : Int) + 1) = ((d.length + 1 : Nat) : Int) := by rw [wi64]; omega
  have m1 : (((8 : Nat) : Int) * ((d.length + 1 : Nat) : Int) ≤ 140737488355328) = True := by simp only [eq_iff_iff, iff_true]; omega
  have m2 : (((d.length + 1 : Nat) : Int) ≤ 9223372036854775807) = True := by simp only [eq_iff_iff, iff_true]; omega
  refine Pf.body (fn := Tryz.f294) (by kernel_rfl) rfl ?_; simp only [List.map_cons, List.map_nil, List.cons_append, List.nil_append, List.length_cons, List.length_nil, Tryz.ntmps294, List.replicate, Nat.reduceSub, Nat.reduceAdd]
  refine Wc.seq ?_
  refine Wc.reg fun K hK => ?_; simp only [go_sem, ti3, ti216, ti9, ti5, ti4, ti32, ti155, ti175]; refine hK _ _ ?_; clear hK K
  refine Wc.seqA (fun y => ∃ c5, y.ds = [] ∧ Fs y.e 31 [(0, P' (pI f)), (1, P' (.lst d.length (d.map pI))), (5, .v (.c c5))] ∧ OA y.s.nx y.s [(1, .v (.c c5), 0, [])] []) ?_ ?_
  · refine Wc.reg fun K hK => ?_; simp only [go_sem, ti3, ti216, ti9, ti5, ti4, ti32, ti155, ti175, w1, m1, m2]; refine hK _ _ ?_; clear hK K
    exact ⟨rfl, _, rfl, by simp only [Fs, Int.natCast_zero, go_sem, ti3, ti216, ti9, ti5, ti4, ti32, ti155, ti175], (OA.front (s00_oa.adv.adv) (by omega) rfl).mono (by simp only [St.nx_put, St.nx_adv]; omega)⟩
  rintro ⟨e, ds, s1⟩ ⟨c5, rfl, hF, ho⟩
  simp only [Fs] at hF ho
  refine Wc.seqA (fun y => ∃ c5, y.ds = [] ∧ Fs y.e 31 [(0, P' (pI f)), (1, P' (.lst d.length (d.map pI))), (5, .v (.c c5))] ∧ OA y.s.nx y.s [(1, .v (.c c5), 1, [pI f])] []) ?_ ?_
  · refine Wc.reg fun K hK => ?_; simp only [go_sem, ti3, ti216, ti9, ti5, ti4, ti32, ti155, ti175, hF]
    refine OA.app (L1 := []) (L2 := []) (by_ := 8) (n := 0) (m := 1) (ys := [pI f]) (OA.put (ho.adv) (by omega)) (by omega) ⟨_, ti175, rfl⟩ ti3 rfl rfl rfl (by decide) (by decide) (by simp only [go_sem, ti3, ti216, ti9, ti5, ti4, ti32, ti155, ti175]) rfl (by omega) fun b' s3 hb' hnx' => ?_
    obtain ⟨c5', rfl⟩ := (hb'.own _ (List.mem_cons_self ..)).v
    simp only [go_sem, ti3, ti216, ti9, ti5, ti4, ti32, ti155, ti175, hF]; refine hK _ _ ?_; clear hK K
    exact ⟨rfl, c5', rfl, by simp only [Fs, Int.natCast_zero, go_sem, ti3, ti216, ti9, ti5, ti4, ti32, ti155, ti175, hF], hb'.mono (by simp only [St.nx_put, hnx', St.nx_adv]; omega)⟩
  clear hF ho s1 e c5
  rintro ⟨e, ds, s1⟩ ⟨c5, rfl, hF, ho⟩
  simp only [Fs] at hF ho
  refine Wc.seqA (fun y => ∃ c5, y.ds = [] ∧ Fs y.e 31 [(5, .v (.c c5))] ∧ OA y.s.nx y.s [(1, .v (.c c5), (sumsW f d).length, (sumsW f d).map pI)] []) ?_ ?_
  · refine Wc.seq ?_
    refine Wc.reg fun K hK => ?_; simp only [go_sem, ti3, ti216, ti9, ti5, ti4, ti32, ti155, ti175, hF, Int.natCast_zero]; refine hK _ _ ?_; clear hK K
    refine Wc.block (Wc.loop (fun k y => ∃ (i : Nat) (pre : List Int) (cur : Int) (c5 : C), k = d.length - i ∧ i ≤ d.length ∧ y.ds = [] ∧ Fs y.e 31 [(0, P' (pI cur)), (16, P' (.lst d.length (d.map pI))), (17, P' (pI d.length)), (18, P' (pI i)), (5, .v (.c c5))] ∧
      OA y.s.nx y.s [(1, .v (.c c5), i + 1, (pre ++ [cur]).map pI)] [] ∧ pre.length = i ∧ sumsW f d = pre ++ sumsW cur (d.drop i)) ?_ (k := d.length) ?_)
    · clear hF ho s1 e c5
      rintro k ⟨e, ds, s1⟩ ⟨i, pre, cur, c5, rfl, hi, rfl, hF, ho, hpl, hsw⟩
      simp only [Fs] at hF ho
      refine Wc.seq ?_
      refine Wc.reg fun K hK => ?_; simp only [go_sem, ti3, ti216, ti9, ti5, ti4, ti32, ti155, ti175, hF]; refine hK _ _ ?_; clear hK K
      refine Wc.seq (Wc.cond (t := decide ((i : Int) < d.length)) (by simp only [go_sem, ti3, ti216, ti9, ti5, ti4, ti32, ti155, ti175, hF]) (fun hc => ?_) (fun hc => ?_))
      · have hil : i < d.length := by have : (i : Int) < d.length := by simpa using hc
                                      omega
        obtain ⟨x, hx⟩ : ∃ x, d[i]? = some x := ⟨d[i], List.getElem?_eq_getElem hil⟩
        have hix := ixA ti175 rfl ti3 (j := i) (m := d.length) (cs := d.map pI) hil (by simp) (by decide)
        have hca := rpA (off := i) (drop_map pI hx) (by simp; omega)
        refine Wc.skip (Wc.seq (Wc.block (Wc.seq ?_)))
        refine Wc.reg fun K hK => ?_; simp only [go_sem, ti3, ti216, ti9, ti5, ti4, ti32, ti155, ti175, hF, hix, hca]; refine hK _ _ ?_; clear hK K
        refine Wc.seq ?_
        refine Wc.reg fun K hK => ?_; simp only [go_sem, ti3, ti216, ti9, ti5, ti4, ti32, ti155, ti175, hF]; refine hK _ _ ?_; clear hK K
        generalize hcur : IntKind.i64.wrap (cur + x) = cur'
        refine Wc.reg fun K hK => ?_; simp only [go_sem, ti3, ti216, ti9, ti5, ti4, ti32, ti155, ti175, hF]
        refine OA.app (L1 := []) (L2 := []) (by_ := 8) (n := i + 1) (m := 1) (ys := [pI cur']) (OA.put (ho.adv.adv.adv.adv) (by omega)) (by omega) ⟨_, ti175, rfl⟩ ti3 rfl rfl rfl (by decide) (by decide) (by simp only [go_sem, ti3, ti216, ti9, ti5, ti4, ti32, ti155, ti175]) rfl (by omega) fun b' s3 hb' hnx' => ?_
        obtain ⟨c5', rfl⟩ := (hb'.own _ (List.mem_cons_self ..)).v
        simp only [go_sem, ti3, ti216, ti9, ti5, ti4, ti32, ti155, ti175, hF]; refine hK _ _ ?_; clear hK K
        refine Wc.reg fun K hK => ?_; simp only [go_sem, ti3, ti216, ti9, ti5, ti4, ti32, ti155, ti175, hF, i64n i (by omega)]; refine hK _ _ ?_; clear hK K
        refine ⟨d.length - (i + 1), by omega, i + 1, pre ++ [cur], cur', c5', rfl, by omega, rfl, by simp only [Fs, Int.natCast_zero, go_sem, ti3, ti216, ti9, ti5, ti4, ti32, ti155, ti175, hF], ?_, by simp [hpl], ?_⟩
        · have := (hb'.mono (b' := s3.nx + 2) (by simp only [St.nx_put, hnx', St.nx_adv]; omega)).adv (n := 2)
          simpa only [List.nil_append, List.map_append, List.map_cons, List.map_nil, St.nx_adv] using this
        · rw [hsw, List.drop_eq_getElem_cons hil, (List.getElem?_eq_some_iff.1 hx).2, sumsW, hcur]; simp
      · have hil : i = d.length := by have : ¬ (i : Int) < d.length := by simpa using hc
                                      omega
        subst hil
        rw [List.drop_length, sumsW] at hsw
        have hlen : (sumsW f d).length = d.length + 1 := sumsW_len d f
        rw [← hsw, ← hlen] at ho
        exact Wc.exit ⟨rfl, c5, rfl, by simp only [Fs, Int.natCast_zero, go_sem, ti3, ti216, ti9, ti5, ti4, ti32, ti155, ti175, hF], (ho.mono (Nat.le_add_right _ _)).adv⟩
    · exact ⟨0, [], f, c5, rfl, by omega, rfl, by simp only [Fs, Int.natCast_zero, go_sem, ti3, ti216, ti9, ti5, ti4, ti32, ti155, ti175, hF], (ho.mono (Nat.le_add_right _ _)).adv, rfl, rfl⟩
  clear hF ho s1 e c5
  rintro ⟨e, ds, s1⟩ ⟨c5, rfl, hF, ho⟩
  simp only [Fs] at hF ho
  refine Wc.seq ?_
  refine Wc.reg fun K hK => ?_; simp only [go_sem, ti3, ti216, ti9, ti5, ti4, ti32, ti155, ti175, hF]; refine hK _ _ ?_; clear hK K
  exact Wc.ret (Pf.retO [.tmp 4] c5 rfl rfl (by simp only [resultsD, go_sem, ti3, ti216, ti9, ti5, ti4, ti32, ti155, ti175, hF]) ((ho.adv (n := 1)).own _ (List.mem_cons_self ..)))
theorem rdN_err : ∀ {k : Nat} {s : List UInt8}, (rdN k s).2.2 ≠ 0 → rdN k s = ([], 0, (rdN k s).2.2)
  | 0, s, h => absurd rfl h
  | k + 1, s, h => by
    rw [rdN] at h ⊢
    split
    · rfl
    · rename_i h1
      rw [if_neg h1] at h
      split
      · rfl
      · rename_i h2
        rw [if_neg h2] at h
        exact absurd rfl h
theorem slice_from {s : List UInt8} {p : Nat} : (s.drop p).take (s.length - p) = s.drop p := List.take_of_length_le (by rw [List.length_drop]; exact Nat.le_refl _)
/-- 121: Decode -/
theorem pf268 (s : List UInt8) (hs : s.length < 2^40) : Pf E0 268 [.c (.p (.str s))] (.tup [.c (.p (.lst (decI s).1.length ((decI s).1.map pI))), .c (.p (.int .i64 (decI s).2))]) := by
  have p78 := pf200 s
  obtain ⟨b1, b2, b3, b4⟩ := rdV_le s
  obtain ⟨c, hcc⟩ : ∃ c : Nat, (rdV s).1 = (c : Int) := ⟨(rdV s).1.toNat, by omega⟩
  unfold decI
  rw [hcc] at p78 b3 ⊢
  rw [Int.toNat_natCast]
  generalize (rdV s).2.1 = sz at *
  generalize (rdV s).2.2 = er at *
  refine Pf.body (fn := Tryz.f268) (by kernel_rfl) rfl ?_; simp only [List.map_cons, List.map_nil, List.cons_append, List.nil_append, List.length_cons, List.length_nil, Tryz.ntmps268, List.replicate, Nat.reduceSub, Nat.reduceAdd]
  refine Wc.seq ?_
  refine Wc.reg fun K hK => ?_; simp only [go_sem, ti3, ti216, ti9, ti5, ti4, ti32, ti155, ti175]; refine hK _ _ ?_; clear hK K
  refine Wc.seq ?_
  refine Wc.reg fun K hK => ?_; simp only [go_sem, ti3, ti216, ti9, ti5, ti4, ti32, ti155, ti175]
  refine wpCall.pf p78 (by kernel_rfl) (by kernel_rfl) rfl rfl ?_
  simp only [go_sem, ti3, ti216, ti9, ti5, ti4, ti32, ti155, ti175]; refine hK _ _ ?_; clear hK K
  refine Wc.seq (Wc.seq ?_)
  refine Wc.reg fun K hK => ?_; simp only [go_sem, ti3, ti216, ti9, ti5, ti4, ti32, ti155, ti175]; refine hK _ _ ?_; clear hK K
  refine Wc.cond (t := (er != 0)) (by simp only [go_sem, ti3, ti216, ti9, ti5, ti4, ti32, ti155, ti175]) (fun hc => ?_) (fun hc => ?_)
  · have h : er ≠ 0 := by simpa using hc
    rw [if_pos h]
    refine Wc.seq ?_
    refine Wc.reg fun K hK => ?_; simp only [go_sem, ti3, ti216, ti9, ti5, ti4, ti32, ti155, ti175]; refine hK _ _ ?_; clear hK K
    exact Wc.ret (Pf.ret [.tmp 2, .tmp 3] [.c .nils, .c (.p (pI er))] rfl rfl (by simp only [resultsD, go_sem, ti3, ti216, ti9, ti5, ti4, ti32, ti155, ti175]) rfl)
  have h0 : ¬ er ≠ 0 := by simpa using hc
  rw [if_neg h0]
  refine Wc.skip (Wc.seq (Wc.seq ?_))
  refine Wc.reg fun K hK => ?_; simp only [go_sem, ti3, ti216, ti9, ti5, ti4, ti32, ti155, ti175]; refine hK _ _ ?_; clear hK K
  refine Wc.cond (t := decide ((20000 : Int) < c)) (by simp only [go_sem, ti3, ti216, ti9, ti5, ti4, ti32, ti155, ti175]) (fun hc => ?_) (fun hc => ?_)
  · have h : (20000 : Int) < c := by simpa using hc
    rw [if_pos h]
    refine Wc.seq ?_
    refine Wc.reg fun K hK => ?_; simp only [go_sem, ti3, ti216, ti9, ti5, ti4, ti32, ti155, ti175]; refine hK _ _ ?_; clear hK K
    exact Wc.ret (Pf.ret [.tmp 2, .tmp 3] [.c .nils, .c (.p (pI 4))] rfl rfl (by simp only [resultsD, go_sem, ti3, ti216, ti9, ti5, ti4, ti32, ti155, ti175]) rfl)
  have h20 : ¬ (20000 : Int) < c := by simpa using hc
  rw [if_neg h20]
  refine Wc.skip ?_
  obtain ⟨q, hq, hqs⟩ : ∃ q : Nat, (if (s.length : Int) < (c : Int) then (s.length : Int) else (c : Int)) = (q : Int) ∧ q ≤ 20000 := by
    split
    · exact ⟨s.length, rfl, by omega⟩
    · exact ⟨c, rfl, by omega⟩
  have m1 : (((8 : Nat) : Int) * (q : Int) ≤ 140737488355328) = True := by simp only [eq_iff_iff, iff_true]; omega
  have m2 : ((q : Int) ≤ 9223372036854775807) = True := by simp only [eq_iff_iff, iff_true]; omega
  refine Wc.seqA (fun y => ∃ c7, y.ds = [] ∧ Fs y.e 54 [(0, P' (.str s)), (4, P' (pI c)), (5, P' (pI sz)), (7, .v (.c c7))] ∧ OA y.s.nx y.s [(1, .v (.c c7), 0, [])] []) ?_ ?_
  · refine Wc.reg fun K hK => ?_; simp only [go_sem, ti3, ti216, ti9, ti5, ti4, ti32, ti155, ti175, foldO, hq, m1, m2]; refine hK _ _ ?_; clear hK K
    exact ⟨rfl, .own 0 [] 19, rfl, by simp only [Fs, Int.natCast_zero, go_sem, ti3, ti216, ti9, ti5, ti4, ti32, ti155, ti175], (OA.front (k := 19) (s00_oa.adv.adv.adv.adv.adv) (by omega) rfl).mono (by simp only [St.nx_put, St.nx_adv]; omega)⟩
  rintro ⟨e, ds, s1⟩ ⟨c7, rfl, hF, ho⟩
  simp only [Fs] at hF ho
  generalize hT : rdN c (s.drop sz) = T
  refine Wc.seqR (fun y => ∃ c7 p, T.2.2 = 0 ∧ p = sz + T.2.1 ∧ y.ds = [] ∧ Fs y.e 54 [(0, P' (.str s)), (5, P' (pI (p : Nat))), (7, .v (.c c7))] ∧ OA y.s.nx y.s [(1, .v (.c c7), T.1.length, T.1.map pI)] []) ?_ ?_
  · refine Wc.seq ?_
    refine Wc.reg fun K hK => ?_; simp only [go_sem, ti3, ti216, ti9, ti5, ti4, ti32, ti155, ti175, hF, Int.natCast_zero]; refine hK _ _ ?_; clear hK K
    refine Wc.block (Wc.loop (fun k y => ∃ (i : Nat) (l : List Int) (p : Nat) (c7 : C), k = c - i ∧ i ≤ c ∧ y.ds = [] ∧ Fs y.e 54 [(0, P' (.str s)), (27, P' (pI c)), (28, P' (pI i)), (5, P' (pI p)), (7, .v (.c c7))] ∧
      OA y.s.nx y.s [(1, .v (.c c7), l.length, l.map pI)] [] ∧ l.length = i ∧ sz ≤ p ∧ p ≤ s.length ∧
      T = if (rdN (c - i) (s.drop p)).2.2 ≠ 0 then ([], 0, (rdN (c - i) (s.drop p)).2.2) else (l ++ (rdN (c - i) (s.drop p)).1, (p - sz) + (rdN (c - i) (s.drop p)).2.1, 0)) ?_ (k := c) ?_)
    · clear hF ho s1 e c7
      rintro k ⟨e, ds, s1⟩ ⟨i, l, p, c7, rfl, hi, rfl, hF, ho, hpl, hp1, hp2, hTi⟩
      simp only [Fs] at hF ho
      refine Wc.seq ?_
      refine Wc.reg fun K hK => ?_; simp only [go_sem, ti3, ti216, ti9, ti5, ti4, ti32, ti155, ti175, hF]; refine hK _ _ ?_; clear hK K
      refine Wc.seq (Wc.cond (t := decide ((i : Int) < c)) (by simp only [go_sem, ti3, ti216, ti9, ti5, ti4, ti32, ti155, ti175, hF]) (fun hc => ?_) (fun hc => ?_))
      · have hil : i < c := by have : (i : Int) < c := by simpa using hc
                               omega
        obtain ⟨j, hj⟩ : ∃ j, c - i = j + 1 := ⟨c - i - 1, by omega⟩
        rw [hj, rdN] at hTi
        have p139 := pf285 (s.drop p)
        obtain ⟨r1, r2, r3⟩ := rdS_le (s.drop p)
        rw [List.length_drop] at r1
        have hdd : (s.drop p).drop (rdS (s.drop p)).2.1 = s.drop (p + (rdS (s.drop p)).2.1) := List.drop_drop ..
        rw [hdd] at hTi
        generalize (rdS (s.drop p)).1 = x at *
        generalize (rdS (s.drop p)).2.1 = z at *
        generalize (rdS (s.drop p)).2.2 = er2 at *
        have c1 : ((p : Int) ≤ (s.length : Int)) = True := by simp; omega
        refine Wc.skip (Wc.seq (Wc.block (Wc.seq ?_)))
        refine Wc.reg fun K hK => ?_; simp only [go_sem, ti3, ti216, ti9, ti5, ti4, ti32, ti155, ti175, hF, c1, slice_from, Int.le_refl]
        refine wpCall.pf p139 (by kernel_rfl) (by kernel_rfl) rfl rfl ?_
        simp only [go_sem, ti3, ti216, ti9, ti5, ti4, ti32, ti155, ti175, hF]; refine hK _ _ ?_; clear hK K
        refine Wc.seq (Wc.seq ?_)
        refine Wc.reg fun K hK => ?_; simp only [go_sem, ti3, ti216, ti9, ti5, ti4, ti32, ti155, ti175, hF]; refine hK _ _ ?_; clear hK K
        refine Wc.cond (t := (er2 != 0)) (by simp only [go_sem, ti3, ti216, ti9, ti5, ti4, ti32, ti155, ti175, hF]) (fun hc => ?_) (fun hc => ?_)
        · have h : er2 ≠ 0 := by simpa using hc
          rw [if_pos h, if_pos h] at hTi
          refine Wc.seq ?_
          refine Wc.reg fun K hK => ?_; simp only [go_sem, ti3, ti216, ti9, ti5, ti4, ti32, ti155, ti175, hF]; refine hK _ _ ?_; clear hK K
          rw [hTi, if_pos h]
          exact Wc.ret (Pf.ret [.tmp 2, .tmp 3] [.c .nils, .c (.p (pI er2))] rfl rfl (by simp only [resultsD, go_sem, ti3, ti216, ti9, ti5, ti4, ti32, ti155, ti175, hF]) rfl)
        have h : ¬ er2 ≠ 0 := by simpa using hc
        rw [if_neg h] at hTi
        have hz := r3 (by simpa using h)
        refine Wc.skip (Wc.seq ?_)
        refine Wc.reg fun K hK => ?_; simp only [go_sem, ti3, ti216, ti9, ti5, ti4, ti32, ti155, ti175, hF]
        refine OA.app (L1 := []) (L2 := []) (by_ := 8) (n := l.length) (m := 1) (ys := [pI x]) (OA.put (((ho.adv.adv.adv).adv)) (by omega)) (by omega) ⟨_, ti175, rfl⟩ ti3 rfl rfl rfl (by decide) (by decide) (by simp only [go_sem, ti3, ti216, ti9, ti5, ti4, ti32, ti155, ti175]) rfl (by omega) fun b' s3 hb' hnx' => ?_
        obtain ⟨c7', rfl⟩ := (hb'.own _ (List.mem_cons_self ..)).v
        simp only [go_sem, ti3, ti216, ti9, ti5, ti4, ti32, ti155, ti175, hF]; refine hK _ _ ?_; clear hK K
        have w1 : IntKind.i64.wrap ((p : Int) + (z : Int)) = ((p + z : Nat) : Int) := by rw [wi64]; omega
        refine Wc.reg fun K hK => ?_; simp only [go_sem, ti3, ti216, ti9, ti5, ti4, ti32, ti155, ti175, hF, w1]; refine hK _ _ ?_; clear hK K
        refine Wc.reg fun K hK => ?_; simp only [go_sem, ti3, ti216, ti9, ti5, ti4, ti32, ti155, ti175, hF, i64n i (by omega)]; refine hK _ _ ?_; clear hK K
        have e1 : c - (i + 1) = j := by omega
        refine ⟨c - (i + 1), by omega, i + 1, l ++ [x], p + z, c7', rfl, by omega, rfl, by simp only [Fs, Int.natCast_zero, go_sem, ti3, ti216, ti9, ti5, ti4, ti32, ti155, ti175, hF], ?_, by simp [hpl], by omega, by omega, ?_⟩
        · have := (hb'.mono (b' := s3.nx + 4 + 2) (by simp only [St.nx_put, hnx', St.nx_adv]; omega)).adv (n := 4) |>.adv (n := 2)
          simpa only [List.nil_append, List.map_append, List.map_cons, List.map_nil, List.length_append, List.length_cons, List.length_nil, St.nx_adv, Nat.zero_add] using this
        · rw [e1, hTi]
          generalize rdN j (s.drop (p + z)) = U
          by_cases hU : U.2.2 ≠ 0
          · simp only [if_pos hU]
          · simp only [if_neg hU, ne_eq, not_true_eq_false, if_false]
            refine Prod.ext (by simp) (Prod.ext ?_ rfl)
            show p - sz + (z + U.2.1) = p + z - sz + U.2.1
            omega
      · have hil : i = c := by have : ¬ (i : Int) < c := by simpa using hc
                               omega
        rw [hil, Nat.sub_self, rdN, if_neg (by simp)] at hTi
        subst hTi
        refine Wc.exit ⟨c7, p, rfl, by simp only; omega, rfl, by simp only [Fs, Int.natCast_zero, go_sem, ti3, ti216, ti9, ti5, ti4, ti32, ti155, ti175, hF], ?_⟩
        simp only [List.append_nil]
        exact (ho.mono (Nat.le_add_right _ _)).adv
    · refine ⟨0, [], sz, c7, rfl, by omega, rfl, by simp only [Fs, Int.natCast_zero, go_sem, ti3, ti216, ti9, ti5, ti4, ti32, ti155, ti175, hF], (ho.mono (Nat.le_add_right _ _)).adv, rfl, by omega, by omega, ?_⟩
      rw [Nat.sub_zero, hT]
      split
      · rename_i h
        rw [← hT] at h ⊢
        exact rdN_err h
      · rename_i h
        refine Prod.ext rfl (Prod.ext (by simp) (by simpa using h))
  clear hF ho s1 e c7
  rintro ⟨e, ds, s1⟩ ⟨c7, p, hT0, hp, rfl, hF, ho⟩
  simp only [Fs] at hF ho
  rw [if_neg (by rw [hT0]; simp)]
  refine Wc.seq (Wc.seq ?_)
  refine Wc.reg fun K hK => ?_; simp only [go_sem, ti3, ti216, ti9, ti5, ti4, ti32, ti155, ti175, hF]; refine hK _ _ ?_; clear hK K
  refine Wc.cond (t := ((p : Int) != (s.length : Int))) (by simp only [go_sem, ti3, ti216, ti9, ti5, ti4, ti32, ti155, ti175, hF]) (fun hc => ?_) (fun hc => ?_)
  · have h : sz + T.2.1 ≠ s.length := by have : ¬ (p : Int) = (s.length : Int) := by simpa using hc
                                         omega
    rw [if_pos h]
    refine Wc.seq ?_
    refine Wc.reg fun K hK => ?_; simp only [go_sem, ti3, ti216, ti9, ti5, ti4, ti32, ti155, ti175, hF]; refine hK _ _ ?_; clear hK K
    exact Wc.ret (Pf.ret [.tmp 2, .tmp 3] [.c .nils, .c (.p (pI 12))] rfl rfl (by simp only [resultsD, go_sem, ti3, ti216, ti9, ti5, ti4, ti32, ti155, ti175, hF]) rfl)
  · have h : ¬ sz + T.2.1 ≠ s.length := by have : (p : Int) = (s.length : Int) := by simpa using hc
                                           omega
    rw [if_neg h]
    refine Wc.skip (Wc.seq ?_)
    refine Wc.reg fun K hK => ?_; simp only [go_sem, ti3, ti216, ti9, ti5, ti4, ti32, ti155, ti175, hF]; refine hK _ _ ?_; clear hK K
    exact Wc.ret (Pf.ret [.tmp 2, .tmp 3] [.c c7, .c (.p (pI 0))] rfl rfl (by simp only [resultsD, go_sem, ti3, ti216, ti9, ti5, ti4, ti32, ti155, ti175, hF]) (purD_cb ((ho.own _ (List.mem_cons_self ..)).vs1 _)))
end Go.Proofs.YtedcnhbblgmdnaaGreat.Ab
namespace Go.Proofs.YtedcnhbblgmdnaaGreat.Ab
set_option maxHeartbeats 8000000
set_option maxRecDepth 10000
set_option linter.unusedSimpArgs false
set_option linter.unusedVariables false
/-- A reader, as an object. -/
abbrev RO (t : List UInt8) (st : RdT) : Ob := .cells [.p (.str t), .p (pI st.1), .p (.int .i64 st.2)] false
/-- A function that reads a number. -/
structure RdF (g : Nat) (rd : List UInt8 → Int × Nat × Int) : Prop where
  pf : ∀ u, Pf E0 g [.c (.p (.str u))] (.tup [.c (.p (pI (rd u).1)), .c (.p (pI (rd u).2.1)), .c (.p (.int .i64 (rd u).2.2))])
  xt : E0.xt g = none
  opn : E0.opn g = false
  le : ∀ u, (rd u).2.1 ≤ u.length
theorem rdfV : RdF 200 rdV := ⟨pf200, by kernel_rfl, by kernel_rfl, fun u => (rdV_le u).1⟩
theorem rdfS : RdF 285 rdS := ⟨pf285, by kernel_rfl, by kernel_rfl, fun u => (rdS_le u).1⟩
theorem numR_le {g : Nat} {rd : List UInt8 → Int × Nat × Int} (hg : RdF g rd) {t : List UInt8} {st : RdT} (h : st.1 ≤ t.length) : (numR rd t st).2.1 ≤ t.length := by
  unfold numR
  split
  · exact h
  · have := hg.le (t.drop st.1)
    rw [List.length_drop] at this
    simp only
    omega
/-- 150: number, in its caller's state -/
theorem call292 {s : St} {L : List (Nat × D × Nat × List Pd)} {M1 M2 : List (Nat × Ob)} {r g : Nat} {t : List UInt8} {st : RdT} {rd : List UInt8 → Int × Nat × Int} {K : D → St → Prop} (hg : RdF g rd) (h : OA s.nx s L (M1 ++ (r, RO t st) :: M2)) (hat : st.1 ≤ t.length) (ht : t.length < 2^40)
    (hK : ∀ s', OA s'.nx s' L (M1 ++ (r, RO t (numR rd t st).2) :: M2) → K (P' (pI (numR rd t st).1)) s') : wpCall E0 (.v (.c (.p (.fnc 292)))) [.v (.c (.ref r 0)), .v (.c (.p (.fnc g)))] s K := by
  obtain ⟨p, er⟩ := st
  have o := h.at_ (r, RO t (p, er)) (by simp)
  simp only [RO] at o hat
  refine wpCall.opn (fn := Tryz.f292) (by kernel_rfl) (by kernel_rfl) rfl (by kernel_rfl) rfl ?_; simp only [List.map_cons, List.map_nil, List.cons_append, List.nil_append, List.length_cons, List.length_nil, Tryz.ntmps292, List.replicate, Nat.reduceSub, Nat.reduceAdd]
  refine Wc.seq ?_
  refine Wc.reg fun K hK => ?_; simp only [go_sem, ti3, ti216, ti9, ti5, ti4, ti32, ti155, ti175, ti293]; refine hK _ _ ?_; clear hK K
  refine Wc.seq (Wc.seq ?_)
  refine Wc.reg fun K hK => ?_; simp only [go_sem, ti3, ti216, ti9, ti5, ti4, ti32, ti155, ti175, ti293, o]; refine hK _ _ ?_; clear hK K
  refine Wc.cond (t := (er != 0)) (by simp only [go_sem, ti3, ti216, ti9, ti5, ti4, ti32, ti155, ti175, ti293]) (fun hc => ?_) (fun hc => ?_)
  · have h0 : er ≠ 0 := by simpa using hc
    have e : numR rd t (p, er) = (0, (p, er)) := by unfold numR; rw [if_pos h0]
    rw [e] at hK
    refine Wc.seq ?_
    refine Wc.reg fun K hK => ?_; simp only [go_sem, ti3, ti216, ti9, ti5, ti4, ti32, ti155, ti175, ti293]; refine hK _ _ ?_; clear hK K
    refine Wc.ret ?_
    refine (show bodyQ E0 Tryz.f292 K .ret _ from Op.ret [.tmp 4] [.c (.p (pI 0))] rfl rfl (by simp only [resultsD, go_sem, ti3, ti216, ti9, ti5, ti4, ti32, ti155, ti175, ti293]) (hK _ ?_))
    exact by (try simp only [St.nx_put, St.nx_adv]); repeat (first | exact OA.mono h (by omega) | refine OA.newB ?_ (by omega) rfl | refine OA.advB ?_)
  · have h0 : er = 0 := by simpa using hc
    subst h0
    have e : numR rd t (p, 0) = ((rd (t.drop p)).1, (p + (rd (t.drop p)).2.1, (rd (t.drop p)).2.2)) := by unfold numR; rw [if_neg (by simp)]
    rw [e] at hK
    have pg := hg.pf (t.drop p)
    have hle := hg.le (t.drop p)
    rw [List.length_drop] at hle
    have c1 : ((p : Int) ≤ (t.length : Int)) = True := by simp; omega
    have w1 : IntKind.i64.wrap ((p : Int) + ((rd (t.drop p)).2.1 : Int)) = ((p + (rd (t.drop p)).2.1 : Nat) : Int) := by rw [wi64]; omega
    generalize (rd (t.drop p)).1 = x at *
    generalize (rd (t.drop p)).2.1 = z at *
    generalize (rd (t.drop p)).2.2 = er2 at *
    refine Wc.skip (Wc.seq ?_)
    refine Wc.regD fun K hK => ?_; simp only [go_sem, ti3, ti216, ti9, ti5, ti4, ti32, ti155, ti175, ti293, o, c1, slice_from, Int.le_refl]
    refine ⟨by simp [hg.opn, hg.xt, plainD, plainV, plainC], ?_⟩
    refine wpCall.pf pg hg.xt hg.opn rfl rfl ?_
    simp only [go_sem, ti3, ti216, ti9, ti5, ti4, ti32, ti155, ti175, ti293]; refine hK _ _ ?_; clear hK K
    refine Wc.seq ?_
    refine Wc.reg fun K hK => ?_; simp only [go_sem, ti3, ti216, ti9, ti5, ti4, ti32, ti155, ti175, ti293, o, w1]; refine hK _ _ ?_; clear hK K
    refine Wc.seq ?_
    refine Wc.reg fun K hK => ?_; simp only [go_sem, ti3, ti216, ti9, ti5, ti4, ti32, ti155, ti175, ti293, o, w1]; refine hK _ _ ?_; clear hK K
    refine Wc.seq ?_
    refine Wc.reg fun K hK => ?_; simp only [go_sem, ti3, ti216, ti9, ti5, ti4, ti32, ti155, ti175, ti293]; refine hK _ _ ?_; clear hK K
    refine Wc.ret ?_
    refine (show bodyQ E0 Tryz.f292 K .ret _ from Op.ret [.tmp 4] [.c (.p (pI x))] rfl rfl (by simp only [resultsD, go_sem, ti3, ti216, ti9, ti5, ti4, ti32, ti155, ti175, ti293]) (hK _ ?_))
    exact by (try simp only [St.nx_put, St.nx_adv]); first | ((repeat (first | exact OA.mono h (by omega) | refine OA.advB ?_)); done) | ((repeat refine OA.advB ?_); refine OA.ofS ?_; repeat (first | exact ⟨_, OA.mono h (by omega)⟩ | refine OAs.adv ?_ | refine OAs.put ?_))
theorem runsR_len (t : List UInt8) : ∀ (k m : Nat) (st : RdT), (runsR t k m st).1.length ≤ m
  | 0, m, st => by simp [runsR]
  | k + 1, m, st => by
    rw [runsR]
    split
    · simp
    · simp only
      split
      · simp
      · rename_i h1 h2
        split
        · simp
        · have ih := runsR_len t k (m - (numR rdV t (numR rdS t st).2).1.toNat) (numR rdV t (numR rdS t st).2).2
          have hb : runB m (numR rdV t (numR rdS t st).2) = 0 := by simpa using h2
          generalize numR rdV t (numR rdS t st).2 = y at *
          unfold runB at hb
          split at hb
          · cases hb
          · simp only [List.length_append, List.length_replicate]
            omega
theorem runsR_err (t : List UInt8) : ∀ (k m : Nat) (st : RdT), (runsR t k m st).2.2 ≠ 0 → (runsR t k m st).1 = []
  | 0, m, st, _ => rfl
  | k + 1, m, st, h => by
    rw [runsR] at h ⊢
    split
    · rfl
    · rename_i h0
      rw [if_neg h0] at h
      simp only at h ⊢
      split
      · rfl
      · rename_i h1
        rw [if_neg h1] at h
        split
        · rfl
        · rename_i h2
          rw [if_neg h2] at h
          exact absurd h h2
/-- 151: runs, in its caller's state -/
theorem call293 {s : St} {L : List (Nat × D × Nat × List Pd)} {M1 M2 : List (Nat × Ob)} {r m : Nat} {t : List UInt8} {st : RdT} {K : D → St → Prop} (h : OA s.nx s L (M1 ++ (r, RO t st) :: M2)) (hat : st.1 ≤ t.length) (ht : t.length < 2^40) (hm : m ≤ 20000)
    (hK : ∀ s' c, OA s'.nx s' ((1, .v (.c c), (runsR t m m st).1.length, (runsR t m m st).1.map pI) :: L) (M1 ++ (r, RO t (runsR t m m st).2) :: M2) → K (.v (.c c)) s') : wpCall E0 (.v (.c (.p (.fnc 293)))) [.v (.c (.ref r 0)), .v (.c (.p (pI m)))] s K := by
  generalize hT : runsR t m m st = T at hK
  refine wpCall.opn (fn := Tryz.f293) (by kernel_rfl) (by kernel_rfl) rfl (by kernel_rfl) rfl ?_; simp only [List.map_cons, List.map_nil, List.cons_append, List.nil_append, List.length_cons, List.length_nil, Tryz.ntmps293, List.replicate, Nat.reduceSub, Nat.reduceAdd]
  refine Wc.seq ?_
  refine Wc.reg fun K hK => ?_; simp only [go_sem, ti3, ti216, ti9, ti5, ti4, ti32, ti155, ti175, ti293]; refine hK _ _ ?_; clear hK K
  refine Wc.seq ?_
  refine Wc.reg fun K hK => ?_; simp only [go_sem, ti3, ti216, ti9, ti5, ti4, ti32, ti155, ti175, ti293]; refine hK _ _ ?_; clear hK K
  refine Wc.seqR (fun y => ∃ c5, y.ds = [] ∧ Fs y.e 50 [(5, .v (.c c5))] ∧ OA y.s.nx y.s ((1, .v (.c c5), T.1.length, T.1.map pI) :: L) (M1 ++ (r, RO t T.2) :: M2)) ?_ ?_
  · refine Wc.block (Wc.loop (fun k y => ∃ (l : List Int) (st' : RdT) (c5 : C) (f : Nat), k = m - l.length ∧ l.length ≤ m ∧ m - l.length ≤ f ∧ st'.1 ≤ t.length ∧ (l = [] ∨ st'.2 = 0) ∧ y.ds = [] ∧ Fs y.e 50 [(0, .v (.c (.ref r 0))), (1, P' (pI m)), (5, .v (.c c5))] ∧
      OA y.s.nx y.s ((1, .v (.c c5), l.length, l.map pI) :: L) (M1 ++ (r, RO t st') :: M2) ∧ T = if (runsR t f (m - l.length) st').2.2 ≠ 0 then ([], (runsR t f (m - l.length) st').2) else (l ++ (runsR t f (m - l.length) st').1, (runsR t f (m - l.length) st').2)) ?_ (k := m) ?_)
    · rintro k ⟨e, ds, s1⟩ ⟨l, st', c5, f, rfl, hlm, hf, hat', hl0, rfl, hF, ho, hTi⟩
      simp only [Fs] at hF ho
      have hl5 := (ho.own _ (List.mem_cons_self ..)).len ti175 rfl
      refine Wc.seq (Wc.seq ?_)
      refine Wc.reg fun K hK => ?_; simp only [go_sem, ti3, ti216, ti9, ti5, ti4, ti32, ti155, ti175, ti293, hF, hl5]; refine hK _ _ ?_; clear hK K
      refine Wc.cond (t := decide ((l.length : Int) < m)) (by simp only [go_sem, ti3, ti216, ti9, ti5, ti4, ti32, ti155, ti175, ti293, hF]) (fun hc => ?_) (fun hc => ?_)
      · have hlt : l.length < m := by have : (l.length : Int) < m := by simpa using hc
                                      omega
        obtain ⟨f', rfl⟩ : ∃ f', f = f' + 1 := ⟨f - 1, by omega⟩
        rw [runsR, if_neg (show ¬ (m - l.length = 0) by omega)] at hTi
        simp only at hTi
        have hx1 := numR_le rdfS hat' (rd := rdS) (t := t) (st := st')
        refine Wc.skip (Wc.block (Wc.seq ?_))
        refine Wc.reg fun K hK => ?_; simp only [go_sem, ti3, ti216, ti9, ti5, ti4, ti32, ti155, ti175, ti293, hF]
        refine call292 rdfS (ho.adv.adv.mono (by simp only [St.nx_adv]; omega)) hat' ht fun s2 ho2 => ?_
        simp only [go_sem, ti3, ti216, ti9, ti5, ti4, ti32, ti155, ti175, ti293, hF]; refine hK _ _ ?_; clear hK K
        generalize numR rdS t st' = x at *
        refine Wc.seq ?_
        refine Wc.reg fun K hK => ?_; simp only [go_sem, ti3, ti216, ti9, ti5, ti4, ti32, ti155, ti175, ti293, hF]
        have hy1 := numR_le rdfV hx1 (rd := rdV) (t := t) (st := x.2)
        have hy2 : ∃ n : Nat, (numR rdV t x.2).1 = (n : Int) := by
          unfold numR
          split
          · exact ⟨0, rfl⟩
          · have := (rdV_le (t.drop x.2.1)).2.1
            exact ⟨(rdV (t.drop x.2.1)).1.toNat, (Int.toNat_of_nonneg this).symm⟩
        refine call292 rdfV (ho2.adv.mono (by simp only [St.nx_adv]; omega)) hx1 ht fun s3 ho3 => ?_
        simp only [go_sem, ti3, ti216, ti9, ti5, ti4, ti32, ti155, ti175, ti293, hF]; refine hK _ _ ?_; clear hK K
        generalize numR rdV t x.2 = y at *
        obtain ⟨n, hn⟩ := hy2
        obtain ⟨y1, y2, y3⟩ := y
        simp only at hn hy1 ho3
        subst hn
        clear ho2 ho
        have hos := (ho3.own _ (List.mem_cons_self ..)).len ti175 rfl
        have o3 := ho3.at_ (r, RO t (y2, y3)) (by simp)
        simp only [RO] at hos o3
        have w1 : IntKind.i64.wrap ((m : Int) - (l.length : Int)) = ((m - l.length : Nat) : Int) := by rw [wi64]; omega
        refine Wc.seqR (fun y => y.ds = [] ∧ Fs y.e 50 [(0, .v (.c (.ref r 0))), (1, P' (pI m)), (5, .v (.c c5)), (6, P' (pI x.1)), (7, P' (pI n))] ∧ OA y.s.nx y.s ((1, .v (.c c5), l.length, l.map pI) :: L) (M1 ++ (r, RO t (y2, runB (m - l.length) (((n : Nat) : Int), (y2, y3)))) :: M2)) ?_ ?_
        · refine Wc.seq ?_
          by_cases hy0 : y3 = 0
          · subst hy0
            have d0 : ((0 : Int) == 0) = true := rfl
            by_cases hn0 : n = 0
            · subst hn0
              have e1 : runB (m - l.length) (((0 : Nat) : Int), (y2, 0)) = 12 := by unfold runB; rw [if_pos ⟨rfl, .inl rfl⟩]
              rw [e1]
              refine Wc.reg fun K hK => ?_; simp only [go_sem, ti3, ti216, ti9, ti5, ti4, ti32, ti155, ti175, ti293, hF, hos, o3, w1, d0, Int.natCast_zero]; refine hK _ _ ?_; clear hK K
              refine Wc.cond (t := true) (by simp only [go_sem, ti3, ti216, ti9, ti5, ti4, ti32, ti155, ti175, ti293, hF]) (fun _ => ?_) (fun hc => by cases hc)
              refine Wc.reg fun K hK => ?_; simp only [go_sem, ti3, ti216, ti9, ti5, ti4, ti32, ti155, ti175, ti293, hF, o3]; refine hK _ _ ?_; clear hK K
              exact ⟨rfl, by simp only [Fs, Int.natCast_zero, go_sem, ti3, ti216, ti9, ti5, ti4, ti32, ti155, ti175, ti293, hF], by (try simp only [St.nx_put, St.nx_adv]); first | ((repeat (first | exact OA.mono ho3 (by omega) | refine OA.advB ?_)); done) | ((repeat refine OA.advB ?_); refine OA.ofS ?_; repeat (first | exact ⟨_, OA.mono ho3 (by omega)⟩ | refine OAs.adv ?_ | refine OAs.put ?_))⟩
            · have d1 : ((n : Int) == 0) = false := by simpa using hn0
              refine Wc.reg fun K hK => ?_; simp only [go_sem, ti3, ti216, ti9, ti5, ti4, ti32, ti155, ti175, ti293, hF, hos, o3, w1, d0, d1]; refine hK _ _ ?_; clear hK K
              refine Wc.cond (t := decide (((m - l.length : Nat) : Int) < n)) (by simp only [go_sem, ti3, ti216, ti9, ti5, ti4, ti32, ti155, ti175, ti293, hF]) (fun hc => ?_) (fun hc => ?_)
              · have e1 : runB (m - l.length) ((n : Int), (y2, 0)) = 12 := by unfold runB; rw [if_pos ⟨rfl, .inr (of_decide_eq_true hc)⟩]
                rw [e1]
                refine Wc.reg fun K hK => ?_; simp only [go_sem, ti3, ti216, ti9, ti5, ti4, ti32, ti155, ti175, ti293, hF, o3]; refine hK _ _ ?_; clear hK K
                exact ⟨rfl, by simp only [Fs, Int.natCast_zero, go_sem, ti3, ti216, ti9, ti5, ti4, ti32, ti155, ti175, ti293, hF], by (try simp only [St.nx_put, St.nx_adv]); first | ((repeat (first | exact OA.mono ho3 (by omega) | refine OA.advB ?_)); done) | ((repeat refine OA.advB ?_); refine OA.ofS ?_; repeat (first | exact ⟨_, OA.mono ho3 (by omega)⟩ | refine OAs.adv ?_ | refine OAs.put ?_))⟩
              · have hc' := of_decide_eq_false hc
                have e1 : runB (m - l.length) ((n : Int), (y2, 0)) = 0 := by unfold runB; rw [if_neg]; rintro ⟨_, h | h⟩ <;> simp only at h <;> omega
                rw [e1]
                exact Wc.skip ⟨rfl, by simp only [Fs, Int.natCast_zero, go_sem, ti3, ti216, ti9, ti5, ti4, ti32, ti155, ti175, ti293, hF], by (try simp only [St.nx_put, St.nx_adv]); first | ((repeat (first | exact OA.mono ho3 (by omega) | refine OA.advB ?_)); done) | ((repeat refine OA.advB ?_); refine OA.ofS ?_; repeat (first | exact ⟨_, OA.mono ho3 (by omega)⟩ | refine OAs.adv ?_ | refine OAs.put ?_))⟩
          · have e1 : runB (m - l.length) ((n : Int), (y2, y3)) = y3 := by unfold runB; rw [if_neg]; rintro ⟨h, _⟩; exact hy0 h
            rw [e1]
            have d0 : (y3 == 0) = false := by simpa using hy0
            refine Wc.reg fun K hK => ?_; simp only [go_sem, ti3, ti216, ti9, ti5, ti4, ti32, ti155, ti175, ti293, hF, hos, o3, w1, d0]; refine hK _ _ ?_; clear hK K
            refine Wc.cond (t := false) (by simp only [go_sem, ti3, ti216, ti9, ti5, ti4, ti32, ti155, ti175, ti293, hF]) (fun hc => by cases hc) (fun _ => Wc.skip ?_)
            exact ⟨rfl, by simp only [Fs, Int.natCast_zero, go_sem, ti3, ti216, ti9, ti5, ti4, ti32, ti155, ti175, ti293, hF], by (try simp only [St.nx_put, St.nx_adv]); first | ((repeat (first | exact OA.mono ho3 (by omega) | refine OA.advB ?_)); done) | ((repeat refine OA.advB ?_); refine OA.ofS ?_; repeat (first | exact ⟨_, OA.mono ho3 (by omega)⟩ | refine OAs.adv ?_ | refine OAs.put ?_))⟩
        clear hF ho3 hos o3 e
        rintro ⟨e, ds, s4⟩ ⟨rfl, hF, ho4⟩
        simp only [Fs] at hF ho4
        have hrb : runB (m - l.length) ((n : Int), (y2, y3)) = 0 → y3 = 0 ∧ n ≠ 0 ∧ n ≤ m - l.length := fun h => by
          unfold runB at h
          split at h
          · cases h
          · rename_i h1
            simp only at h h1
            subst h
            simp only [true_and] at h1
            omega
        generalize hrbq : runB (m - l.length) ((n : Int), (y2, y3)) = rb at *
        have o4 := ho4.at_ (r, RO t (y2, rb)) (by simp)
        simp only [RO] at o4
        refine Wc.seq (Wc.seq ?_)
        refine Wc.reg fun K hK => ?_; simp only [go_sem, ti3, ti216, ti9, ti5, ti4, ti32, ti155, ti175, ti293, hF, o4]; refine hK _ _ ?_; clear hK K
        refine Wc.cond (t := (rb != 0)) (by simp only [go_sem, ti3, ti216, ti9, ti5, ti4, ti32, ti155, ti175, ti293, hF]) (fun hc => ?_) (fun hc => ?_)
        · have h0 : rb ≠ 0 := by simpa using hc
          rw [if_pos h0] at hTi
          simp only [if_pos h0] at hTi
          subst hTi
          refine Wc.seq ?_
          refine Wc.reg fun K hK => ?_; simp only [go_sem, ti3, ti216, ti9, ti5, ti4, ti32, ti155, ti175, ti293, hF]; refine hK _ _ ?_; clear hK K
          refine Wc.ret ?_
          refine (show bodyQ E0 Tryz.f293 K .ret _ from Op.ret [.tmp 4] [.c .nils] rfl rfl (by simp only [resultsD, go_sem, ti3, ti216, ti9, ti5, ti4, ti32, ti155, ti175, ti293, hF]) (hK _ .nils (show OA _ _ ((1, .v (.c .nils), 0, []) :: L) (M1 ++ (r, RO t (y2, rb)) :: M2) from OA.nil ?_)))
          exact OA.sub (L := (1, .v (.c c5), l.length, l.map pI) :: L) (by (try simp only [St.nx_put, St.nx_adv]); first | ((repeat (first | exact OA.mono ho4 (by omega) | refine OA.advB ?_)); done) | ((repeat refine OA.advB ?_); refine OA.ofS ?_; repeat (first | exact ⟨_, OA.mono ho4 (by omega)⟩ | refine OAs.adv ?_ | refine OAs.put ?_))) (List.sublist_cons_self _ _) (List.Sublist.refl _)
        · have h0 : rb = 0 := by simpa using hc
          obtain ⟨hy0, hn0, hnm⟩ := hrb h0
          subst h0 hy0
          rw [if_neg (show ¬ ((0 : Int) ≠ 0) by simp), Int.toNat_natCast] at hTi
          refine Wc.skip (Wc.seq ?_)
          refine Wc.reg fun K hK => ?_; simp only [go_sem, ti3, ti216, ti9, ti5, ti4, ti32, ti155, ti175, ti293, hF, Int.natCast_zero]; refine hK _ _ ?_; clear hK K
          refine Wc.block (Wc.loop (fun q y => ∃ (j : Nat) (c5 : C), q = n - j ∧ j ≤ n ∧ y.ds = [] ∧ Fs y.e 50 [(0, .v (.c (.ref r 0))), (1, P' (pI m)), (5, .v (.c c5)), (6, P' (pI x.1)), (41, P' (pI n)), (42, P' (pI j))] ∧ OA y.s.nx y.s ((1, .v (.c c5), (l ++ List.replicate j x.1).length, (l ++ List.replicate j x.1).map pI) :: L) (M1 ++ (r, RO t (y2, 0)) :: M2)) ?_ (k := n) ?_)
          · clear hF ho4 o4 e s4
            rintro q ⟨e, ds, s4⟩ ⟨j, c5, rfl, hj, rfl, hF, ho4⟩
            simp only [Fs] at hF ho4
            refine Wc.seq ?_
            refine Wc.reg fun K hK => ?_; simp only [go_sem, ti3, ti216, ti9, ti5, ti4, ti32, ti155, ti175, ti293, hF]; refine hK _ _ ?_; clear hK K
            refine Wc.seq (Wc.cond (t := decide ((j : Int) < n)) (by simp only [go_sem, ti3, ti216, ti9, ti5, ti4, ti32, ti155, ti175, ti293, hF]) (fun hc => ?_) (fun hc => ?_))
            · have hjl : j < n := by have : (j : Int) < n := by simpa using hc
                                     omega
              refine Wc.skip (Wc.seq (Wc.block ?_))
              refine Wc.reg fun K hK => ?_; simp only [go_sem, ti3, ti216, ti9, ti5, ti4, ti32, ti155, ti175, ti293, hF]
              refine OA.app (L1 := []) (L2 := L) (by_ := 8) (n := (l ++ List.replicate j x.1).length) (m := 1) (ys := [pI x.1]) (OA.put (ho4.adv.adv) (by omega)) (by omega) ⟨_, ti175, rfl⟩ ti3 rfl rfl rfl (by decide) (by decide) (by simp only [go_sem, ti3, ti216, ti9, ti5, ti4, ti32, ti155, ti175, ti293]) rfl (by simp; omega) fun b' s5 hb' hnx' => ?_
              obtain ⟨c5', rfl⟩ := (hb'.own _ (List.mem_cons_self ..)).v
              simp only [go_sem, ti3, ti216, ti9, ti5, ti4, ti32, ti155, ti175, ti293, hF]; refine hK _ _ ?_; clear hK K
              refine Wc.reg fun K hK => ?_; simp only [go_sem, ti3, ti216, ti9, ti5, ti4, ti32, ti155, ti175, ti293, hF, i64n j (by omega)]; refine hK _ _ ?_; clear hK K
              refine ⟨n - (j + 1), by omega, j + 1, c5', rfl, by omega, rfl, by simp only [Fs, Int.natCast_zero, go_sem, ti3, ti216, ti9, ti5, ti4, ti32, ti155, ti175, ti293, hF], ?_⟩
              have := (hb'.mono (b' := s5.nx + 2) (by simp only [St.nx_put, hnx', St.nx_adv]; omega)).adv (n := 2)
              have e5 : (l ++ List.replicate (j + 1) x.1) = (l ++ List.replicate j x.1) ++ [x.1] := by rw [List.replicate_succ', List.append_assoc]
              rw [e5, List.length_append (bs := [x.1]), List.map_append (l₂ := [x.1])]
              simpa only [List.nil_append, List.map_cons, List.map_nil, List.length_cons, List.length_nil, St.nx_adv, Nat.zero_add] using this
            · have hjl : j = n := by have : ¬ (j : Int) < n := by simpa using hc
                                     omega
              subst hjl
              have e6 : m - (l ++ List.replicate j x.1).length = m - l.length - j := by simp; omega
              refine Wc.exit ⟨m - (l ++ List.replicate j x.1).length, by omega, l ++ List.replicate j x.1, (y2, 0), c5, f', rfl, by simp; omega, by rw [e6]; omega, hy1, .inr rfl, rfl, by simp only [Fs, Int.natCast_zero, go_sem, ti3, ti216, ti9, ti5, ti4, ti32, ti155, ti175, ti293, hF], (ho4.mono (Nat.le_add_right _ _)).adv, ?_⟩
              rw [e6, hTi]
              generalize runsR t f' (m - l.length - j) (y2, 0) = U
              by_cases hU : U.2.2 ≠ 0
              · simp only [if_pos hU]
              · simp only [if_neg hU, List.append_assoc]
          · exact ⟨0, c5, rfl, by omega, rfl, by simp only [Fs, Int.natCast_zero, go_sem, ti3, ti216, ti9, ti5, ti4, ti32, ti155, ti175, ti293, hF], by simp only [List.replicate_zero, List.append_nil]; exact by (try simp only [St.nx_put, St.nx_adv]); repeat (first | exact OA.mono ho4 (by omega) | refine OA.newB ?_ (by omega) rfl | refine OA.advB ?_)⟩
      · have hlt : l.length = m := by have : ¬ (l.length : Int) < m := by simpa using hc
                                      omega
        rw [hlt, Nat.sub_self] at hTi
        have e0 : ∀ f, runsR t f 0 st' = ([], st') := fun f => by cases f <;> simp [runsR]
        rw [e0] at hTi
        simp only [List.append_nil] at hTi
        have hT2 : T = (l, st') := by
          rw [hTi]
          rcases hl0 with h | h
          · subst h; split <;> rfl
          · rw [if_neg (by simp [h])]
        rw [hT2]
        exact Wc.exit ⟨c5, rfl, by simp only [Fs, Int.natCast_zero, go_sem, ti3, ti216, ti9, ti5, ti4, ti32, ti155, ti175, ti293, hF], (ho.mono (Nat.le_add_right _ _)).adv⟩
    · refine ⟨[], st, .nils, m, by simp, by simp, by simp, hat, .inl rfl, rfl, by simp only [Fs, Int.natCast_zero, go_sem, ti3, ti216, ti9, ti5, ti4, ti32, ti155, ti175, ti293], OA.nil (by (try simp only [St.nx_put, St.nx_adv]); repeat (first | exact OA.mono h (by omega) | refine OA.newB ?_ (by omega) rfl | refine OA.advB ?_)), ?_⟩
      simp only [List.length_nil, Nat.sub_zero, hT, List.nil_append]
      split
      · rename_i h
        refine Prod.ext ?_ rfl
        rw [← hT] at h ⊢
        exact runsR_err t m m st h
      · rfl
  rintro ⟨e, ds, s1⟩ ⟨c5, rfl, hF, ho⟩
  simp only [Fs] at hF ho
  refine Wc.seq ?_
  refine Wc.reg fun K hK => ?_; simp only [go_sem, ti3, ti216, ti9, ti5, ti4, ti32, ti155, ti175, ti293, hF]; refine hK _ _ ?_; clear hK K
  exact Wc.ret (show bodyQ E0 Tryz.f293 K .ret _ from Op.ret [.tmp 4] [.c c5] rfl rfl (by simp only [resultsD, go_sem, ti3, ti216, ti9, ti5, ti4, ti32, ti155, ti175, ti293, hF]) (hK _ _ (ho.mono (Nat.le_add_right _ _)).adv))
end Go.Proofs.YtedcnhbblgmdnaaGreat.Ab
