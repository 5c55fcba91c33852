/- A part of the proof: an evaluator of the code, its contracts, the law. No condition. -/
import Derived.Test.YtafaoldmemcigaaGreatT25
namespace Go.Proofs.YtafaoldmemcigaaGreat.Ab
set_option maxHeartbeats 8000000
set_option maxRecDepth 10000
set_option linter.unusedSimpArgs false
set_option linter.unusedVariables false
theorem has_may {l : List I2} {p : Flt} {t v : Int} (hm : (t, v) ∈ l) (h : p.has t v = true) : mayZ (zfold l) p = true := by
  obtain ⟨h1, h2, h3, h4⟩ := zfold_in _ l rfl _ hm
  have hc := zfold_c _ l rfl
  have hl : l.length ≠ 0 := fun e => by rw [List.length_eq_zero_iff.1 e] at hm; cases hm
  simp only at h1 h2 h3 h4
  unfold Flt.has at h
  unfold mayZ
  simp only [Bool.and_eq_true, Bool.or_eq_true, decide_eq_true_eq, Bool.not_eq_true'] at h ⊢
  obtain ⟨⟨a1, a2⟩, a3⟩ := h
  refine ⟨?_, ?_⟩
  · simp only [Bool.or_eq_false_iff, beq_eq_false_iff_ne, decide_eq_false_iff_not]
    omega
  · rcases a3 with a3 | a3
    · rw [a3]; rfl
    · simp only [Bool.and_eq_false_iff, Bool.or_eq_false_iff, decide_eq_false_iff_not]
      right; omega
theorem ser_zone {x : Ser} (h : serOK x = true) : (serZ x).ok ∧ (serZ x).c = x.sm.length + x.hs.length ∧ (∀ s ∈ x.sm, ∀ p : Flt, p.has s.1 s.2 = true → mayZ (serZ x) p = true) ∧ (∀ s ∈ x.hs, ∀ p : Flt, p.has s.t s.h.c = true → mayZ (serZ x) p = true) := by
  unfold serZ
  by_cases hk : x.k = 3
  · have hsm : x.sm = [] ∧ validH x.hs = true := by
      unfold serOK at h
      split at h
      · cases h
      · simp only [Bool.and_eq_true, beq_iff_eq] at h
        exact ⟨List.length_eq_zero_iff.1 h.1, h.2⟩
    obtain ⟨h1, h2⟩ := validH_ok hsm.2
    rw [if_pos hk]
    obtain ⟨z1, z2⟩ := zfold_ok _ (x.hs.map fun y => (y.t, y.h.c)) rfl (by simp; omega) (fun p hp => by
      obtain ⟨y, hy, rfl⟩ := List.mem_map.1 hp
      exact ⟨(h2 y hy).1, (h2 y hy).2.1⟩)
    refine ⟨z1, by rw [z2, hsm.1]; simp, fun s hs => (by rw [hsm.1] at hs; cases hs), fun s hs p hp => has_may (List.mem_map.2 ⟨s, hs, rfl⟩) hp⟩
  · have hsm : x.hs = [] := by
      unfold serOK at h
      split at h
      · cases h
      · simp only [Bool.and_eq_true, beq_iff_eq] at h
        exact List.length_eq_zero_iff.1 h.1
    obtain ⟨_, h1, h2⟩ := serOK_s h hk
    rw [if_neg hk]
    obtain ⟨z1, z2⟩ := zfold_ok _ x.sm rfl (by omega) h2
    exact ⟨z1, by rw [z2, hsm]; simp, fun s hs p hp => has_may (show (s.1, s.2) ∈ x.sm from hs) hp, fun s hs => (by rw [hsm] at hs; cases hs)⟩
/-- 6: the law -/
theorem law6 (x : Ser) (hh : x.hs.length < 2^60) (hlb : x.lb.length < 2^60) (p : Flt) : ∃ s', Ev E0 (.o 6) [.agg (x.pd.map .p), .agg (p.pd.map .p)] s00 (P' (.bool true)) s' := by
  have main : Wc E0 none (Tryz.f6.body.get rfl) { e := [V.agg (x.pd.map .p), V.agg (p.pd.map .p)].map .v ++ List.replicate (Tryz.f6.ntmps - 2) (.tup []), ds := [], s := s00 } (bodyQ E0 Tryz.f6 fun d _ => d = P' (.bool true)) := by
    show Wc E0 none _ _ _
    have o00 : OA 0 { ob := [], nx := 0 } [] [] := s00_oa
    simp only [List.map_cons, List.map_nil, List.cons_append, List.nil_append, Tryz.ntmps6, List.replicate, Nat.reduceSub, Nat.reduceAdd, s00]
    refine Wc.seq ?_
    refine Wc.reg fun K hK => ?_; simp only [go_sem, ti3, ti9, ti4, ti35, ti50, ti48, ti32, ti30, ti26, ti23, ti24, ti34, ti45, ti57, ti55]; refine hK _ _ ?_; clear hK K
    have p7 := pf7 x hh hlb
    refine Wc.seqR (fun y => serG x = false ∧ y.ds = [] ∧ Fs y.e 95 [(2, .v (.c (.ref 0 0))), (3, .v (.c (.ref 1 0)))] ∧ OA y.s.nx y.s [] [(1, .cells (p.pd.map .p) false), (0, .cells (x.pd.map .p) false)]) ?_ ?_
    · refine Wc.seq ?_
      cases hg : serG x with
      | true =>
        rw [hg] at p7
        refine Wc.reg fun K hK => ?_; simp only [go_sem, ti3, ti9, ti4, ti35, ti50, ti48, ti32, ti30, ti26, ti23, ti24, ti34, ti45, ti57, ti55]
        refine wpCall.pf p7 (by kernel_rfl) (by kernel_rfl) rfl rfl ?_
        simp only [go_sem, ti3, ti9, ti4, ti35, ti50, ti48, ti32, ti30, ti26, ti23, ti24, ti34, ti45, ti57, ti55]; refine hK _ _ ?_; clear hK K
        refine Wc.cond (t := true) (by simp only [go_sem, ti3, ti9, ti4, ti35, ti50, ti48, ti32, ti30, ti26, ti23, ti24, ti34, ti45, ti57, ti55]) (fun _ => ?_) (fun hc => by cases hc)
        refine Wc.seq ?_
        refine Wc.reg fun K hK => ?_; simp only [go_sem, ti3, ti9, ti4, ti35, ti50, ti48, ti32, ti30, ti26, ti23, ti24, ti34, ti45, ti57, ti55]
        refine wpCall.pf pf8 (by kernel_rfl) (by kernel_rfl) rfl rfl ?_
        simp only [go_sem, ti3, ti9, ti4, ti35, ti50, ti48, ti32, ti30, ti26, ti23, ti24, ti34, ti45, ti57, ti55]; refine hK _ _ ?_; clear hK K
        refine Wc.ret (thenD_ret ?_)
        exact Op.ret [.tmp 4] [.c (.p (.bool true))] rfl rfl (by simp only [resultsD, go_sem, ti3, ti9, ti4, ti35, ti50, ti48, ti32, ti30, ti26, ti23, ti24, ti34, ti45, ti57, ti55]) rfl
      | false =>
        rw [hg] at p7
        refine Wc.reg fun K hK => ?_; simp only [go_sem, ti3, ti9, ti4, ti35, ti50, ti48, ti32, ti30, ti26, ti23, ti24, ti34, ti45, ti57, ti55]
        refine wpCall.pf p7 (by kernel_rfl) (by kernel_rfl) rfl rfl ?_
        simp only [go_sem, ti3, ti9, ti4, ti35, ti50, ti48, ti32, ti30, ti26, ti23, ti24, ti34, ti45, ti57, ti55]; refine hK _ _ ?_; clear hK K
        refine Wc.cond (t := decide ((10 : Int) < p.ss.length)) (by simp only [go_sem, ti3, ti9, ti4, ti35, ti50, ti48, ti32, ti30, ti26, ti23, ti24, ti34, ti45, ti57, ti55]) (fun _ => ?_) (fun hc => ?_)
        · refine Wc.seq ?_
          refine Wc.reg fun K hK => ?_; simp only [go_sem, ti3, ti9, ti4, ti35, ti50, ti48, ti32, ti30, ti26, ti23, ti24, ti34, ti45, ti57, ti55]
          refine wpCall.pf pf8 (by kernel_rfl) (by kernel_rfl) rfl rfl ?_
          simp only [go_sem, ti3, ti9, ti4, ti35, ti50, ti48, ti32, ti30, ti26, ti23, ti24, ti34, ti45, ti57, ti55]; refine hK _ _ ?_; clear hK K
          refine Wc.ret (thenD_ret ?_)
          exact Op.ret [.tmp 4] [.c (.p (.bool true))] rfl rfl (by simp only [resultsD, go_sem, ti3, ti9, ti4, ti35, ti50, ti48, ti32, ti30, ti26, ti23, ti24, ti34, ti45, ti57, ti55]) rfl
        · refine Wc.skip ⟨rfl, rfl, by simp only [Fs, go_sem, ti3, ti9, ti4, ti35, ti50, ti48, ti32, ti30, ti26, ti23, ti24, ti34, ti45, ti57, ti55], ?_⟩
          exact by simp only [St.nx_put, St.nx_adv]; repeat (first | exact OA.mono o00 (by omega) | refine OA.newB ?_ (by omega) rfl | refine OA.advB ?_)
    rintro ⟨e, ds, s1⟩ ⟨hg, rfl, hF, ho⟩
    simp only [Fs] at hF ho
    have hz := serG_sz hg
    have hb1 := hz.sm
    have hb2 := hz.hs
    have g0 := ho.at_ (0, .cells (x.pd.map .p) false) (by simp)
    have g1 := ho.at_ (1, .cells (p.pd.map .p) false) (by simp)
    simp only [List.map_cons, List.map_nil] at g0 g1
    have p9 := pf9 x hz
    cases hd : encO x with
    | none =>
      obtain ⟨er, hne, he⟩ := encS_none hd
      rw [he] at p9
      refine Wc.seq ?_
      refine Wc.reg fun K hK => ?_; simp only [go_sem, ti3, ti9, ti4, ti35, ti50, ti48, ti32, ti30, ti26, ti23, ti24, ti34, ti45, ti57, ti55, hF, g0]
      refine wpCall.pf p9 (by kernel_rfl) (by kernel_rfl) rfl rfl ?_
      simp only [go_sem, ti3, ti9, ti4, ti35, ti50, ti48, ti32, ti30, ti26, ti23, ti24, ti34, ti45, ti57, ti55, hF, g0]; refine hK _ _ ?_; clear hK K
      refine Wc.seq (Wc.seq ?_)
      refine Wc.reg fun K hK => ?_; simp only [go_sem, ti3, ti9, ti4, ti35, ti50, ti48, ti32, ti30, ti26, ti23, ti24, ti34, ti45, ti57, ti55, hF]; refine hK _ _ ?_; clear hK K
      refine Wc.cond (t := true) (by simp only [go_sem, ti3, ti9, ti4, ti35, ti50, ti48, ti32, ti30, ti26, ti23, ti24, ti34, ti45, ti57, ti55, hF]; simp [hne]) (fun _ => ?_) (fun hc => by cases hc)
      refine Wc.seq ?_
      refine Wc.reg fun K hK => ?_; simp only [go_sem, ti3, ti9, ti4, ti35, ti50, ti48, ti32, ti30, ti26, ti23, ti24, ti34, ti45, ti57, ti55, hF]
      refine wpCall.pf pf8 (by kernel_rfl) (by kernel_rfl) rfl rfl ?_
      simp only [go_sem, ti3, ti9, ti4, ti35, ti50, ti48, ti32, ti30, ti26, ti23, ti24, ti34, ti45, ti57, ti55, hF]; refine hK _ _ ?_; clear hK K
      refine Wc.ret (thenD_ret ?_)
      exact Op.ret [.tmp 4] [.c (.p (.bool true))] rfl rfl (by simp only [resultsD, go_sem, ti3, ti9, ti4, ti35, ti50, ti48, ti32, ti30, ti26, ti23, ti24, ti34, ti45, ti57, ti55, hF]) rfl
    | some d =>
      rw [encS_some hd] at p9
      obtain ⟨hs, _⟩ := encO_some hd
      obtain ⟨zok, zc, zs, zh⟩ := ser_zone hs
      generalize serZ x = z at p9 zok zc zs zh
      refine Wc.seqA (fun y => ∃ k, y.ds = [] ∧ Fs y.e 95 [(2, .v (.c (.ref 0 0))), (3, .v (.c (.ref 1 0))), (5, .v (.c (.ref k 0))), (6, P' (pI 0))] ∧ OA y.s.nx y.s [] [(k, .cells ([.p (pI 1), .p (.lst x.lb.length (x.lb.flatMap lbP)), .p (pI z.c), .p (pI z.t1), .p (pI z.t2), .p (pI z.v1), .p (pI z.v2), .p (.int .u32 0), .p (.int .u32 0), .p (.int .u32 0), .p (.int .u32 0), .p (.int .u32 0), .p (.int .u32 0), .p (.int .u32 0), .p (.int .u32 0), .p (.str d)]) false), (1, .cells (p.pd.map .p) false), (0, .cells (x.pd.map .p) false)]) ?_ ?_
      · refine Wc.reg fun K hK => ?_; simp only [go_sem, ti3, ti9, ti4, ti35, ti50, ti48, ti32, ti30, ti26, ti23, ti24, ti34, ti45, ti57, ti55, hF, g0]
        refine wpCall.pf p9 (by kernel_rfl) (by kernel_rfl) rfl rfl ?_
        simp only [go_sem, ti3, ti9, ti4, ti35, ti50, ti48, ti32, ti30, ti26, ti23, ti24, ti34, ti45, ti57, ti55, hF, g0]; refine hK _ _ ?_; clear hK K
        exact ⟨rfl, s1.nx + 5, rfl, by simp only [Fs, go_sem, ti3, ti9, ti4, ti35, ti50, ti48, ti32, ti30, ti26, ti23, ti24, ti34, ti45, ti57, ti55, hF], by simp only [St.nx_put, St.nx_adv]; repeat (first | exact OA.mono ho (by omega) | refine OA.newB ?_ (by omega) rfl | refine OA.advB ?_)⟩
      clear hF ho g0 g1 e s1
      rintro ⟨e, ds, s1⟩ ⟨k, rfl, hF, ho⟩
      simp only [Fs] at hF ho
      have g0 := ho.at_ (0, .cells (x.pd.map .p) false) (by simp)
      have g1 := ho.at_ (1, .cells (p.pd.map .p) false) (by simp)
      have gk := ho.at_ (k, .cells ([.p (pI 1), .p (.lst x.lb.length (x.lb.flatMap lbP)), .p (pI z.c), .p (pI z.t1), .p (pI z.t2), .p (pI z.v1), .p (pI z.v2), .p (.int .u32 0), .p (.int .u32 0), .p (.int .u32 0), .p (.int .u32 0), .p (.int .u32 0), .p (.int .u32 0), .p (.int .u32 0), .p (.int .u32 0), .p (.str d)]) false) (by simp)
      simp only [List.map_cons, List.map_nil] at g0 g1 gk
      refine Wc.seq (Wc.seq ?_)
      refine Wc.reg fun K hK => ?_; simp only [go_sem, ti3, ti9, ti4, ti35, ti50, ti48, ti32, ti30, ti26, ti23, ti24, ti34, ti45, ti57, ti55, hF]; refine hK _ _ ?_; clear hK K
      refine Wc.cond (t := false) (by simp only [go_sem, ti3, ti9, ti4, ti35, ti50, ti48, ti32, ti30, ti26, ti23, ti24, ti34, ti45, ti57, ti55, hF]; rfl) (fun hc => by cases hc) (fun _ => Wc.skip ?_)
      refine Wc.seqA (fun y => y.ds = [] ∧ Fs y.e 95 [(2, .v (.c (.ref 0 0))), (3, .v (.c (.ref 1 0))), (5, .v (.c (.ref k 0)))] ∧ OA y.s.nx y.s [] [(k, .cells ([.p (pI 1), .p (.lst x.lb.length (x.lb.flatMap lbP)), .p (pI z.c), .p (pI z.t1), .p (pI z.t2), .p (pI z.v1), .p (pI z.v2), .p (.int .u32 0), .p (.int .u32 0), .p (.int .u32 0), .p (.int .u32 0), .p (.int .u32 0), .p (.int .u32 0), .p (.int .u32 0), .p (.int .u32 0), .p (.str d)]) false), (1, .cells (p.pd.map .p) false), (0, .cells (x.pd.map .p) false)]) ?_ ?_
      · refine Wc.seq ?_
        refine Wc.reg fun K hK => ?_; simp only [go_sem, ti3, ti9, ti4, ti35, ti50, ti48, ti32, ti30, ti26, ti23, ti24, ti34, ti45, ti57, ti55, hF, g1]; refine hK _ _ ?_; clear hK K
        refine Wc.cond (t := ((p.ss.length : Int) == 0)) (by simp only [go_sem, ti3, ti9, ti4, ti35, ti50, ti48, ti32, ti30, ti26, ti23, ti24, ti34, ti45, ti57, ti55, hF]) (fun hc => ?_) (fun hc => ?_)
        · have hss : p.ss = [] := List.length_eq_zero_iff.1 (by simpa using hc)
          refine Wc.seqA (fun y => y.ds = [] ∧ Fs y.e 95 [(2, .v (.c (.ref 0 0))), (3, .v (.c (.ref 1 0))), (5, .v (.c (.ref k 0)))] ∧ OA y.s.nx y.s [] [(k, .cells ([.p (pI 1), .p (.lst x.lb.length (x.lb.flatMap lbP)), .p (pI z.c), .p (pI z.t1), .p (pI z.t2), .p (pI z.v1), .p (pI z.v2), .p (.int .u32 0), .p (.int .u32 0), .p (.int .u32 0), .p (.int .u32 0), .p (.int .u32 0), .p (.int .u32 0), .p (.int .u32 0), .p (.int .u32 0), .p (.str d)]) false), (1, .cells (p.pd.map .p) false), (0, .cells (x.pd.map .p) false)]) ?_ ?_
          · refine Wc.seq ?_
            refine Wc.reg fun K hK => ?_; simp only [go_sem, ti3, ti9, ti4, ti35, ti50, ti48, ti32, ti30, ti26, ti23, ti24, ti34, ti45, ti57, ti55, hF, g0, Int.natCast_zero]; refine hK _ _ ?_; clear hK K
            refine Wc.block (Wc.loop (fun q y => ∃ i : Nat, q = x.sm.length - i ∧ i ≤ x.sm.length ∧ y.ds = [] ∧ Fs y.e 95 [(2, .v (.c (.ref 0 0))), (3, .v (.c (.ref 1 0))), (5, .v (.c (.ref k 0))), (33, P' (.lst x.sm.length (x.sm.flatMap p2))), (34, P' (pI x.sm.length)), (35, P' (pI i))] ∧ OA y.s.nx y.s [] [(k, .cells ([.p (pI 1), .p (.lst x.lb.length (x.lb.flatMap lbP)), .p (pI z.c), .p (pI z.t1), .p (pI z.t2), .p (pI z.v1), .p (pI z.v2), .p (.int .u32 0), .p (.int .u32 0), .p (.int .u32 0), .p (.int .u32 0), .p (.int .u32 0), .p (.int .u32 0), .p (.int .u32 0), .p (.int .u32 0), .p (.str d)]) false), (1, .cells (p.pd.map .p) false), (0, .cells (x.pd.map .p) false)]) ?_ (k := x.sm.length) ?_)
            · clear hF ho g0 g1 gk e s1
              rintro q ⟨e, ds, s1⟩ ⟨i, rfl, hi, rfl, hF, ho⟩
              simp only [Fs] at hF ho
              refine Wc.seq ?_
              refine Wc.reg fun K hK => ?_; simp only [go_sem, ti3, ti9, ti4, ti35, ti50, ti48, ti32, ti30, ti26, ti23, ti24, ti34, ti45, ti57, ti55, hF]; refine hK _ _ ?_; clear hK K
              refine Wc.seq (Wc.cond (t := decide ((i : Int) < x.sm.length)) (by simp only [go_sem, ti3, ti9, ti4, ti35, ti50, ti48, ti32, ti30, ti26, ti23, ti24, ti34, ti45, ti57, ti55, hF]) (fun hc => ?_) (fun hc => ?_))
              · have hil : i < x.sm.length := by have : (i : Int) < x.sm.length := by simpa using hc
                                                 omega
                obtain ⟨b, hb⟩ : ∃ b, x.sm[i]? = some b := ⟨x.sm[i], List.getElem?_eq_getElem hil⟩
                have hix := ixA ti23 rfl ti45 (j := i) (m := x.sm.length) (cs := x.sm.flatMap p2) hil (flat_len (k := 2) (fun _ => rfl) _) (by decide)
                have hca := rpA (off := i * 2) (drop_flat (f := p2) (k := 2) (fun _ => rfl) hb) (by rw [flat_len (k := 2) (fun _ => rfl)]; omega)
                refine Wc.skip (Wc.seq (Wc.block (Wc.seqA (fun y => ∃ k8, y.ds = [] ∧ Fs y.e 95 [(2, .v (.c (.ref 0 0))), (3, .v (.c (.ref 1 0))), (5, .v (.c (.ref k 0))), (33, P' (.lst x.sm.length (x.sm.flatMap p2))), (34, P' (pI x.sm.length)), (35, P' (pI i)), (8, .v (.c (.ref k8 0)))] ∧ OA y.s.nx y.s [] [(k8, .cells ((p2 b).map .p) false), (k, .cells ([.p (pI 1), .p (.lst x.lb.length (x.lb.flatMap lbP)), .p (pI z.c), .p (pI z.t1), .p (pI z.t2), .p (pI z.v1), .p (pI z.v2), .p (.int .u32 0), .p (.int .u32 0), .p (.int .u32 0), .p (.int .u32 0), .p (.int .u32 0), .p (.int .u32 0), .p (.int .u32 0), .p (.int .u32 0), .p (.str d)]) false), (1, .cells (p.pd.map .p) false), (0, .cells (x.pd.map .p) false)]) ?_ ?_)))
                · refine Wc.reg fun K hK => ?_; simp only [go_sem, ti3, ti9, ti4, ti35, ti50, ti48, ti32, ti30, ti26, ti23, ti24, ti34, ti45, ti57, ti55, hF, hix, hca]; refine hK _ _ ?_; clear hK K
                  exact ⟨rfl, s1.nx + 3, rfl, by simp only [Fs, go_sem, ti3, ti9, ti4, ti35, ti50, ti48, ti32, ti30, ti26, ti23, ti24, ti34, ti45, ti57, ti55, hF], by simp only [St.nx_put, St.nx_adv]; repeat (first | exact OA.mono ho (by omega) | refine OA.newB ?_ (by omega) rfl | refine OA.advB ?_)⟩
                clear hF ho e s1
                rintro ⟨e, ds, s1⟩ ⟨k8, rfl, hF, ho⟩
                simp only [Fs] at hF ho
                have g1 := ho.at_ (1, .cells (p.pd.map .p) false) (by simp)
                have gk := ho.at_ (k, .cells ([.p (pI 1), .p (.lst x.lb.length (x.lb.flatMap lbP)), .p (pI z.c), .p (pI z.t1), .p (pI z.t2), .p (pI z.v1), .p (pI z.v2), .p (.int .u32 0), .p (.int .u32 0), .p (.int .u32 0), .p (.int .u32 0), .p (.int .u32 0), .p (.int .u32 0), .p (.int .u32 0), .p (.int .u32 0), .p (.str d)]) false) (by simp)
                have g8 := ho.at_ (k8, .cells ((p2 b).map .p) false) (by simp)
                simp only [List.map_cons, List.map_nil] at g1 gk g8
                have p15 := pf15 p b.1 b.2
                have hmay : p.has b.1 b.2 = true → mayZ z p = true := fun h => zs b (List.mem_of_getElem? hb) p h
                refine Wc.seq ?_
                cases hhas : p.has b.1 b.2 with
                | false =>
                  rw [hhas] at p15
                  refine Wc.reg fun K hK => ?_; simp only [go_sem, ti3, ti9, ti4, ti35, ti50, ti48, ti32, ti30, ti26, ti23, ti24, ti34, ti45, ti57, ti55, hF, g1, gk, g8]
                  refine wpCall.pf p15 (by kernel_rfl) (by kernel_rfl) rfl rfl ?_
                  simp only [go_sem, ti3, ti9, ti4, ti35, ti50, ti48, ti32, ti30, ti26, ti23, ti24, ti34, ti45, ti57, ti55, hF, g1, gk, g8]; refine hK _ _ ?_; clear hK K
                  refine Wc.cond (t := false) (by simp only [go_sem, ti3, ti9, ti4, ti35, ti50, ti48, ti32, ti30, ti26, ti23, ti24, ti34, ti45, ti57, ti55, hF]) (fun hc => by cases hc) (fun _ => Wc.skip ?_)
                  refine Wc.reg fun K hK => ?_; simp only [go_sem, ti3, ti9, ti4, ti35, ti50, ti48, ti32, ti30, ti26, ti23, ti24, ti34, ti45, ti57, ti55, hF, i64n i (by omega)]; refine hK _ _ ?_; clear hK K
                  exact ⟨x.sm.length - (i + 1), by omega, i + 1, rfl, by omega, rfl, by simp only [Fs, go_sem, ti3, ti9, ti4, ti35, ti50, ti48, ti32, ti30, ti26, ti23, ti24, ti34, ti45, ti57, ti55, hF], by simp only [St.nx_put, St.nx_adv]; repeat (first | exact OA.mono (ho.sub (List.Sublist.refl _) (List.sublist_cons_self _ _)) (by omega) | refine OA.newB ?_ (by omega) rfl | refine OA.advB ?_)⟩
                | true =>
                  rw [hhas] at p15
                  have p16 := pf16 zok p hss
                  rw [hmay hhas] at p16
                  refine Wc.reg fun K hK => ?_; simp only [go_sem, ti3, ti9, ti4, ti35, ti50, ti48, ti32, ti30, ti26, ti23, ti24, ti34, ti45, ti57, ti55, hF, g1, gk, g8]
                  refine wpCall.pf p15 (by kernel_rfl) (by kernel_rfl) rfl rfl ?_
                  simp only [go_sem, ti3, ti9, ti4, ti35, ti50, ti48, ti32, ti30, ti26, ti23, ti24, ti34, ti45, ti57, ti55, hF, g1, gk, g8]
                  refine wpCall.pf p16 (by kernel_rfl) (by kernel_rfl) rfl rfl ?_
                  simp only [go_sem, ti3, ti9, ti4, ti35, ti50, ti48, ti32, ti30, ti26, ti23, ti24, ti34, ti45, ti57, ti55, hF, g1, gk, g8]; refine hK _ _ ?_; clear hK K
                  refine Wc.cond (t := false) (by simp only [go_sem, ti3, ti9, ti4, ti35, ti50, ti48, ti32, ti30, ti26, ti23, ti24, ti34, ti45, ti57, ti55, hF]) (fun hc => by cases hc) (fun _ => Wc.skip ?_)
                  refine Wc.reg fun K hK => ?_; simp only [go_sem, ti3, ti9, ti4, ti35, ti50, ti48, ti32, ti30, ti26, ti23, ti24, ti34, ti45, ti57, ti55, hF, i64n i (by omega)]; refine hK _ _ ?_; clear hK K
                  exact ⟨x.sm.length - (i + 1), by omega, i + 1, rfl, by omega, rfl, by simp only [Fs, go_sem, ti3, ti9, ti4, ti35, ti50, ti48, ti32, ti30, ti26, ti23, ti24, ti34, ti45, ti57, ti55, hF], by simp only [St.nx_put, St.nx_adv]; repeat (first | exact OA.mono (ho.sub (List.Sublist.refl _) (List.sublist_cons_self _ _)) (by omega) | refine OA.newB ?_ (by omega) rfl | refine OA.advB ?_)⟩
              · exact Wc.exit ⟨rfl, rfl, by simp only [Fs, go_sem, ti3, ti9, ti4, ti35, ti50, ti48, ti32, ti30, ti26, ti23, ti24, ti34, ti45, ti57, ti55, hF], by simp only [St.nx_put, St.nx_adv]; repeat (first | exact OA.mono ho (by omega) | refine OA.newB ?_ (by omega) rfl | refine OA.advB ?_)⟩
            · exact ⟨0, rfl, by omega, rfl, by simp only [Fs, go_sem, ti3, ti9, ti4, ti35, ti50, ti48, ti32, ti30, ti26, ti23, ti24, ti34, ti45, ti57, ti55, hF, Int.natCast_zero], by simp only [St.nx_put, St.nx_adv]; repeat (first | exact OA.mono ho (by omega) | refine OA.newB ?_ (by omega) rfl | refine OA.advB ?_)⟩
          clear hF ho g0 g1 gk e s1
          rintro ⟨e, ds, s1⟩ ⟨rfl, hF, ho⟩
          simp only [Fs] at hF ho
          have g0 := ho.at_ (0, .cells (x.pd.map .p) false) (by simp)
          have g1 := ho.at_ (1, .cells (p.pd.map .p) false) (by simp)
          have gk := ho.at_ (k, .cells ([.p (pI 1), .p (.lst x.lb.length (x.lb.flatMap lbP)), .p (pI z.c), .p (pI z.t1), .p (pI z.t2), .p (pI z.v1), .p (pI z.v2), .p (.int .u32 0), .p (.int .u32 0), .p (.int .u32 0), .p (.int .u32 0), .p (.int .u32 0), .p (.int .u32 0), .p (.int .u32 0), .p (.int .u32 0), .p (.str d)]) false) (by simp)
          simp only [List.map_cons, List.map_nil] at g0 g1 gk
          refine Wc.seq ?_
          refine Wc.reg fun K hK => ?_; simp only [go_sem, ti3, ti9, ti4, ti35, ti50, ti48, ti32, ti30, ti26, ti23, ti24, ti34, ti45, ti57, ti55, hF, g0, Int.natCast_zero]; refine hK _ _ ?_; clear hK K
          refine Wc.block (Wc.loop (fun q y => ∃ i : Nat, q = x.hs.length - i ∧ i ≤ x.hs.length ∧ y.ds = [] ∧ Fs y.e 95 [(2, .v (.c (.ref 0 0))), (3, .v (.c (.ref 1 0))), (5, .v (.c (.ref k 0))), (54, P' (.lst x.hs.length (x.hs.flatMap HSm.pd))), (55, P' (pI x.hs.length)), (56, P' (pI i))] ∧ OA y.s.nx y.s [] [(k, .cells ([.p (pI 1), .p (.lst x.lb.length (x.lb.flatMap lbP)), .p (pI z.c), .p (pI z.t1), .p (pI z.t2), .p (pI z.v1), .p (pI z.v2), .p (.int .u32 0), .p (.int .u32 0), .p (.int .u32 0), .p (.int .u32 0), .p (.int .u32 0), .p (.int .u32 0), .p (.int .u32 0), .p (.int .u32 0), .p (.str d)]) false), (1, .cells (p.pd.map .p) false), (0, .cells (x.pd.map .p) false)]) ?_ (k := x.hs.length) ?_)
          · clear hF ho g0 g1 gk e s1
            rintro q ⟨e, ds, s1⟩ ⟨i, rfl, hi, rfl, hF, ho⟩
            simp only [Fs] at hF ho
            refine Wc.seq ?_
            refine Wc.reg fun K hK => ?_; simp only [go_sem, ti3, ti9, ti4, ti35, ti50, ti48, ti32, ti30, ti26, ti23, ti24, ti34, ti45, ti57, ti55, hF]; refine hK _ _ ?_; clear hK K
            refine Wc.seq (Wc.cond (t := decide ((i : Int) < x.hs.length)) (by simp only [go_sem, ti3, ti9, ti4, ti35, ti50, ti48, ti32, ti30, ti26, ti23, ti24, ti34, ti45, ti57, ti55, hF]) (fun hc => ?_) (fun hc => ?_))
            · have hil : i < x.hs.length := by have : (i : Int) < x.hs.length := by simpa using hc
                                               omega
              obtain ⟨b, hb⟩ : ∃ b, x.hs[i]? = some b := ⟨x.hs[i], List.getElem?_eq_getElem hil⟩
              have hix := ixA ti24 rfl ti57 (j := i) (m := x.hs.length) (cs := x.hs.flatMap HSm.pd) hil (flat_len (k := 7) (fun _ => rfl) _) (by decide)
              have hca := rpA (off := i * 7) (drop_flat (f := HSm.pd) (k := 7) (fun _ => rfl) hb) (by rw [flat_len (k := 7) (fun _ => rfl)]; omega)
              refine Wc.skip (Wc.seq (Wc.block (Wc.seqA (fun y => ∃ k8, y.ds = [] ∧ Fs y.e 95 [(2, .v (.c (.ref 0 0))), (3, .v (.c (.ref 1 0))), (5, .v (.c (.ref k 0))), (54, P' (.lst x.hs.length (x.hs.flatMap HSm.pd))), (55, P' (pI x.hs.length)), (56, P' (pI i)), (10, .v (.c (.ref k8 0)))] ∧ OA y.s.nx y.s [] [(k8, .cells ((HSm.pd b).map .p) false), (k, .cells ([.p (pI 1), .p (.lst x.lb.length (x.lb.flatMap lbP)), .p (pI z.c), .p (pI z.t1), .p (pI z.t2), .p (pI z.v1), .p (pI z.v2), .p (.int .u32 0), .p (.int .u32 0), .p (.int .u32 0), .p (.int .u32 0), .p (.int .u32 0), .p (.int .u32 0), .p (.int .u32 0), .p (.int .u32 0), .p (.str d)]) false), (1, .cells (p.pd.map .p) false), (0, .cells (x.pd.map .p) false)]) ?_ ?_)))
              · refine Wc.reg fun K hK => ?_; simp only [go_sem, ti3, ti9, ti4, ti35, ti50, ti48, ti32, ti30, ti26, ti23, ti24, ti34, ti45, ti57, ti55, hF, hix, hca]; refine hK _ _ ?_; clear hK K
                exact ⟨rfl, s1.nx + 3, rfl, by simp only [Fs, go_sem, ti3, ti9, ti4, ti35, ti50, ti48, ti32, ti30, ti26, ti23, ti24, ti34, ti45, ti57, ti55, hF], by simp only [St.nx_put, St.nx_adv]; repeat (first | exact OA.mono ho (by omega) | refine OA.newB ?_ (by omega) rfl | refine OA.advB ?_)⟩
              clear hF ho e s1
              rintro ⟨e, ds, s1⟩ ⟨k8, rfl, hF, ho⟩
              simp only [Fs] at hF ho
              have g1 := ho.at_ (1, .cells (p.pd.map .p) false) (by simp)
              have gk := ho.at_ (k, .cells ([.p (pI 1), .p (.lst x.lb.length (x.lb.flatMap lbP)), .p (pI z.c), .p (pI z.t1), .p (pI z.t2), .p (pI z.v1), .p (pI z.v2), .p (.int .u32 0), .p (.int .u32 0), .p (.int .u32 0), .p (.int .u32 0), .p (.int .u32 0), .p (.int .u32 0), .p (.int .u32 0), .p (.int .u32 0), .p (.str d)]) false) (by simp)
              have g8 := ho.at_ (k8, .cells ((HSm.pd b).map .p) false) (by simp)
              simp only [List.map_cons, List.map_nil] at g1 gk g8
              have p15 := pf15 p b.t b.h.c
              have hmay : p.has b.t b.h.c = true → mayZ z p = true := fun h => zh b (List.mem_of_getElem? hb) p h
              refine Wc.seq ?_
              cases hhas : p.has b.t b.h.c with
              | false =>
                rw [hhas] at p15
                refine Wc.reg fun K hK => ?_; simp only [go_sem, ti3, ti9, ti4, ti35, ti50, ti48, ti32, ti30, ti26, ti23, ti24, ti34, ti45, ti57, ti55, hF, g1, gk, g8]
                refine wpCall.pf p15 (by kernel_rfl) (by kernel_rfl) rfl rfl ?_
                simp only [go_sem, ti3, ti9, ti4, ti35, ti50, ti48, ti32, ti30, ti26, ti23, ti24, ti34, ti45, ti57, ti55, hF, g1, gk, g8]; refine hK _ _ ?_; clear hK K
                refine Wc.cond (t := false) (by simp only [go_sem, ti3, ti9, ti4, ti35, ti50, ti48, ti32, ti30, ti26, ti23, ti24, ti34, ti45, ti57, ti55, hF]) (fun hc => by cases hc) (fun _ => Wc.skip ?_)
                refine Wc.reg fun K hK => ?_; simp only [go_sem, ti3, ti9, ti4, ti35, ti50, ti48, ti32, ti30, ti26, ti23, ti24, ti34, ti45, ti57, ti55, hF, i64n i (by omega)]; refine hK _ _ ?_; clear hK K
                exact ⟨x.hs.length - (i + 1), by omega, i + 1, rfl, by omega, rfl, by simp only [Fs, go_sem, ti3, ti9, ti4, ti35, ti50, ti48, ti32, ti30, ti26, ti23, ti24, ti34, ti45, ti57, ti55, hF], by simp only [St.nx_put, St.nx_adv]; repeat (first | exact OA.mono (ho.sub (List.Sublist.refl _) (List.sublist_cons_self _ _)) (by omega) | refine OA.newB ?_ (by omega) rfl | refine OA.advB ?_)⟩
              | true =>
                rw [hhas] at p15
                have p16 := pf16 zok p hss
                rw [hmay hhas] at p16
                refine Wc.reg fun K hK => ?_; simp only [go_sem, ti3, ti9, ti4, ti35, ti50, ti48, ti32, ti30, ti26, ti23, ti24, ti34, ti45, ti57, ti55, hF, g1, gk, g8]
                refine wpCall.pf p15 (by kernel_rfl) (by kernel_rfl) rfl rfl ?_
                simp only [go_sem, ti3, ti9, ti4, ti35, ti50, ti48, ti32, ti30, ti26, ti23, ti24, ti34, ti45, ti57, ti55, hF, g1, gk, g8]
                refine wpCall.pf p16 (by kernel_rfl) (by kernel_rfl) rfl rfl ?_
                simp only [go_sem, ti3, ti9, ti4, ti35, ti50, ti48, ti32, ti30, ti26, ti23, ti24, ti34, ti45, ti57, ti55, hF, g1, gk, g8]; refine hK _ _ ?_; clear hK K
                refine Wc.cond (t := false) (by simp only [go_sem, ti3, ti9, ti4, ti35, ti50, ti48, ti32, ti30, ti26, ti23, ti24, ti34, ti45, ti57, ti55, hF]) (fun hc => by cases hc) (fun _ => Wc.skip ?_)
                refine Wc.reg fun K hK => ?_; simp only [go_sem, ti3, ti9, ti4, ti35, ti50, ti48, ti32, ti30, ti26, ti23, ti24, ti34, ti45, ti57, ti55, hF, i64n i (by omega)]; refine hK _ _ ?_; clear hK K
                exact ⟨x.hs.length - (i + 1), by omega, i + 1, rfl, by omega, rfl, by simp only [Fs, go_sem, ti3, ti9, ti4, ti35, ti50, ti48, ti32, ti30, ti26, ti23, ti24, ti34, ti45, ti57, ti55, hF], by simp only [St.nx_put, St.nx_adv]; repeat (first | exact OA.mono (ho.sub (List.Sublist.refl _) (List.sublist_cons_self _ _)) (by omega) | refine OA.newB ?_ (by omega) rfl | refine OA.advB ?_)⟩
            · exact Wc.exit ⟨rfl, rfl, by simp only [Fs, go_sem, ti3, ti9, ti4, ti35, ti50, ti48, ti32, ti30, ti26, ti23, ti24, ti34, ti45, ti57, ti55, hF], by simp only [St.nx_put, St.nx_adv]; repeat (first | exact OA.mono ho (by omega) | refine OA.newB ?_ (by omega) rfl | refine OA.advB ?_)⟩
          · exact ⟨0, rfl, by omega, rfl, by simp only [Fs, go_sem, ti3, ti9, ti4, ti35, ti50, ti48, ti32, ti30, ti26, ti23, ti24, ti34, ti45, ti57, ti55, hF, Int.natCast_zero], by simp only [St.nx_put, St.nx_adv]; repeat (first | exact OA.mono ho (by omega) | refine OA.newB ?_ (by omega) rfl | refine OA.advB ?_)⟩
        · exact Wc.skip ⟨rfl, rfl, by simp only [Fs, go_sem, ti3, ti9, ti4, ti35, ti50, ti48, ti32, ti30, ti26, ti23, ti24, ti34, ti45, ti57, ti55, hF], by simp only [St.nx_put, St.nx_adv]; repeat (first | exact OA.mono ho (by omega) | refine OA.newB ?_ (by omega) rfl | refine OA.advB ?_)⟩
      clear hF ho g0 g1 gk e s1
      rintro ⟨e, ds, s1⟩ ⟨rfl, hF, ho⟩
      simp only [Fs] at hF ho
      have g0 := ho.at_ (0, .cells (x.pd.map .p) false) (by simp)
      have gk := ho.at_ (k, .cells ([.p (pI 1), .p (.lst x.lb.length (x.lb.flatMap lbP)), .p (pI z.c), .p (pI z.t1), .p (pI z.t2), .p (pI z.v1), .p (pI z.v2), .p (.int .u32 0), .p (.int .u32 0), .p (.int .u32 0), .p (.int .u32 0), .p (.int .u32 0), .p (.int .u32 0), .p (.int .u32 0), .p (.int .u32 0), .p (.str d)]) false) (by simp)
      simp only [List.map_cons, List.map_nil] at g0 gk
      have p17 := pf17 zok
      obtain ⟨h1, h2⟩ : x.sm.length < 2^40 ∧ x.hs.length < 2^40 := ⟨hz.sm, hz.hs⟩
      have w1 : IntKind.i64.wrap ((x.sm.length : Int) + x.hs.length) = x.sm.length + x.hs.length := by rw [wi64]; omega
      have b1 : (z.c == (x.sm.length : Int) + x.hs.length) = true := by rw [zc]; simp
      have b2 : ((0 : Int) == 0) = true := by decide
      refine Wc.seq ?_
      refine Wc.reg fun K hK => ?_; simp only [go_sem, ti3, ti9, ti4, ti35, ti50, ti48, ti32, ti30, ti26, ti23, ti24, ti34, ti45, ti57, ti55, hF, g0, gk]
      refine wpCall.pf p17 (by kernel_rfl) (by kernel_rfl) rfl rfl ?_
      simp only [go_sem, ti3, ti9, ti4, ti35, ti50, ti48, ti32, ti30, ti26, ti23, ti24, ti34, ti45, ti57, ti55, hF, g0, gk, w1, b1, b2]
      refine wpCall.pf pf8 (by kernel_rfl) (by kernel_rfl) rfl rfl ?_
      simp only [go_sem, ti3, ti9, ti4, ti35, ti50, ti48, ti32, ti30, ti26, ti23, ti24, ti34, ti45, ti57, ti55, hF, g0, gk]; refine hK _ _ ?_; clear hK K
      exact Wc.ret (Op.ret [.tmp 4] [.c (.p (.bool true))] rfl rfl (by simp only [resultsD, go_sem, ti3, ti9, ti4, ti35, ti50, ti48, ti32, ti30, ti26, ti23, ti24, ti34, ti45, ti57, ti55, hF]) rfl)
  obtain ⟨n, d, s', h1, h2⟩ := Ev.body (g := 6) (args := [V.agg (x.pd.map .p), V.agg (p.pd.map .p)]) (by kernel_rfl) rfl main
  subst h2
  exact ⟨s', n + 1, h1⟩
end Go.Proofs.YtafaoldmemcigaaGreat.Ab
