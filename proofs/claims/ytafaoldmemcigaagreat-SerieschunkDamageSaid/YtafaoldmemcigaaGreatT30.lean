/- A part of the proof: an evaluator of the code, its contracts, the law. No condition. -/
import Derived.Test.YtafaoldmemcigaaGreatT29
import Derived.Test.YtafaoldmemcigaaGreatT9
namespace Go.Proofs.YtafaoldmemcigaaGreat.Ab
set_option maxHeartbeats 8000000
set_option maxRecDepth 10000
set_option linter.unusedSimpArgs false
set_option linter.unusedVariables false
theorem splitN_len : ∀ {n : Nat} {s : List UInt8} {ss : List (List UInt8)}, splitN n s = some ss → ss.length = n
  | 0, s, ss, h => by
    rw [splitN] at h
    split at h
    · cases h; rfl
    · cases h
  | n + 1, s, ss, h => by
    rw [splitN] at h
    split at h
    · cases h
    · split at h
      · cases h
      · cases hr : splitN n (s.drop ((rdV s).2.1 + (rdV s).1.toNat)) with
        | none => rw [hr] at h; cases h
        | some r => rw [hr] at h; cases h; rw [List.length_cons, splitN_len hr]
theorem splitN_le : ∀ {n : Nat} {s : List UInt8} {ss : List (List UInt8)}, splitN n s = some ss → ∀ x ∈ ss, x.length ≤ s.length
  | 0, s, ss, h => by
    rw [splitN] at h
    split at h
    · cases h; intro x hx; cases hx
    · cases h
  | n + 1, s, ss, h => by
    rw [splitN] at h
    split at h
    · cases h
    · split at h
      · cases h
      · cases hr : splitN n (s.drop ((rdV s).2.1 + (rdV s).1.toNat)) with
        | none => rw [hr] at h; cases h
        | some r =>
          rw [hr] at h; cases h
          intro x hx
          rcases List.mem_cons.1 hx with rfl | hx
          · simp; omega
          · have := splitN_le hr x hx
            rw [List.length_drop] at this
            omega
/-- What parse returns. -/
def parR (o : Option Ser) (D : D) : Prop := match o with
  | none => ∃ p0 p1 p2 p3 : Pd, D = .tup [.agg [.p p0, .p p1, .p p2, .p p3], .c (.p (.bool false))]
  | some x => D = .tup [.agg (x.pd.map .p), .c (.p (.bool true))]
/-- 37: parse -/
theorem pf37 (sig : Int) (lb : List Lb) (z : Zo) (d : List UInt8) (hd : d.length < 2^40) : ∃ D, Pf E0 37 [chV sig (.lst lb.length (lb.flatMap lbP)) z.pd d] D ∧ parR (parseS lb d) D := by
  refine Pf.bodyE (fn := Tryz.f37) (by kernel_rfl) rfl ?_; simp only [List.map_cons, List.map_nil, List.cons_append, List.nil_append, List.length_cons, List.length_nil, Tryz.ntmps37, List.replicate, Nat.reduceSub, Nat.reduceAdd]
  have p78 := pf78 d
  obtain ⟨b1, b2, b3, b4⟩ := rdV_le d
  generalize hR : parseS lb d = R
  unfold parseS at hR
  generalize (rdV d).1 = kk at *
  generalize (rdV d).2.1 = sz at *
  generalize (rdV d).2.2 = er at *
  have c1 : ((sz : Int) ≤ (d.length : Int)) = True := by simp; omega
  refine Wc.seq ?_
  refine Wc.reg fun K hK => ?_; simp only [go_sem, ti3, ti9, ti4, ti35, ti22, ti23, ti24, ti26, ti32, ti34, ti45, ti48, ti53, ti55, ti57, ti64]; refine hK _ _ ?_; clear hK K
  refine Wc.seq ?_
  refine Wc.reg fun K hK => ?_; simp only [go_sem, ti3, ti9, ti4, ti35, ti22, ti23, ti24, ti26, ti32, ti34, ti45, ti48, ti53, ti55, ti57, ti64]
  refine wpCall.pf p78 (by kernel_rfl) (by kernel_rfl) rfl rfl ?_
  simp only [go_sem, ti3, ti9, ti4, ti35, ti22, ti23, ti24, ti26, ti32, ti34, ti45, ti48, ti53, ti55, ti57, ti64]; refine hK _ _ ?_; clear hK K
  refine Wc.seqR (fun y => ¬ (er ≠ 0 ∨ 262144 < d.length) ∧ y.ds = [] ∧ Fs y.e 73 [(1, .v (.c (.ref 0 0))), (2, .v (.c (.ref 1 0))), (4, P' (pI kk)), (5, P' (pI sz))] ∧ OA y.s.nx y.s [] [(1, .cells [.nils, .p (pI 0), .nils, .nils] false), (0, .cells ([.p (pI sig), .p (.lst lb.length (lb.flatMap lbP))] ++ z.pd.map .p ++ [.p (.str d)]) false)]) ?_ ?_
  · refine Wc.seq ?_
    by_cases he : er = 0
    · have d0 : (er != 0) = false := by simpa using he
      refine Wc.reg fun K hK => ?_; simp only [go_sem, ti3, ti9, ti4, ti35, ti22, ti23, ti24, ti26, ti32, ti34, ti45, ti48, ti53, ti55, ti57, ti64, d0]; refine hK _ _ ?_; clear hK K
      refine Wc.cond (t := decide ((262144 : Int) < d.length)) (by simp only [go_sem, ti3, ti9, ti4, ti35, ti22, ti23, ti24, ti26, ti32, ti34, ti45, ti48, ti53, ti55, ti57, ti64]) (fun hc => ?_) (fun hc => ?_)
      · have hbig : 262144 < d.length := by have := of_decide_eq_true hc; omega
        rw [if_pos (.inr hbig)] at hR
        subst hR
        refine Wc.seq ?_
        refine Wc.reg fun K hK => ?_; simp only [go_sem, ti3, ti9, ti4, ti35, ti22, ti23, ti24, ti26, ti32, ti34, ti45, ti48, ti53, ti55, ti57, ti64]; refine hK _ _ ?_; clear hK K
        exact Wc.ret (Pf.retE [.cell 2 26, .tmp 3] [.agg [.nils, .p (pI 0), .nils, .nils], .c (.p (.bool false))] rfl rfl (by simp only [resultsD, go_sem, ti3, ti9, ti4, ti35, ti22, ti23, ti24, ti26, ti32, ti34, ti45, ti48, ti53, ti55, ti57, ti64]) rfl ⟨_, _, _, _, rfl⟩)
      · have hbig : ¬ 262144 < d.length := by have := of_decide_eq_false hc; omega
        refine Wc.skip ⟨by rintro (h | h) <;> contradiction, rfl, by simp only [Fs, Int.natCast_zero, go_sem, ti3, ti9, ti4, ti35, ti22, ti23, ti24, ti26, ti32, ti34, ti45, ti48, ti53, ti55, ti57, ti64], by simp only [St.nx_put, St.nx_adv]; repeat (first | exact OA.mono s00_oa (by omega) | refine OA.newB ?_ (by omega) rfl | refine OA.advB ?_)⟩
    · have d0 : (er != 0) = true := by simpa using he
      rw [if_pos (.inl he)] at hR
      subst hR
      refine Wc.reg fun K hK => ?_; simp only [go_sem, ti3, ti9, ti4, ti35, ti22, ti23, ti24, ti26, ti32, ti34, ti45, ti48, ti53, ti55, ti57, ti64, d0]; refine hK _ _ ?_; clear hK K
      refine Wc.cond (t := true) (by simp only [go_sem, ti3, ti9, ti4, ti35, ti22, ti23, ti24, ti26, ti32, ti34, ti45, ti48, ti53, ti55, ti57, ti64]) (fun _ => ?_) (fun hc => by cases hc)
      refine Wc.seq ?_
      refine Wc.reg fun K hK => ?_; simp only [go_sem, ti3, ti9, ti4, ti35, ti22, ti23, ti24, ti26, ti32, ti34, ti45, ti48, ti53, ti55, ti57, ti64]; refine hK _ _ ?_; clear hK K
      exact Wc.ret (Pf.retE [.cell 2 26, .tmp 3] [.agg [.nils, .p (pI 0), .nils, .nils], .c (.p (.bool false))] rfl rfl (by simp only [resultsD, go_sem, ti3, ti9, ti4, ti35, ti22, ti23, ti24, ti26, ti32, ti34, ti45, ti48, ti53, ti55, ti57, ti64]) rfl ⟨_, _, _, _, rfl⟩)
  rintro ⟨e, ds, s1⟩ ⟨hgood, rfl, hF, ho⟩
  simp only [Fs] at hF ho
  rw [if_neg hgood] at hR
  have g1 := ho.at_ (1, .cells [.nils, .p (pI 0), .nils, .nils] false) (by simp)
  have g0 := ho.at_ (0, .cells ([.p (pI sig), .p (.lst lb.length (lb.flatMap lbP))] ++ z.pd.map .p ++ [.p (.str d)]) false) (by simp)
  simp only [List.map_cons, List.map_nil, List.cons_append, List.nil_append] at g0 g1
  refine Wc.seqA (fun y => ∃ k7, y.ds = [] ∧ Fs y.e 73 [(1, .v (.c (.ref 0 0))), (2, .v (.c (.ref 1 0))), (4, P' (pI kk)), (5, P' (pI sz)), (7, .v (.c (.ref k7 0)))] ∧ OA y.s.nx y.s [] [(k7, .cells [.p (.lst lb.length (lb.flatMap lbP)), .p (pI kk), .nils, .nils] false), (1, .cells [.nils, .p (pI 0), .nils, .nils] false), (0, .cells ([.p (pI sig), .p (.lst lb.length (lb.flatMap lbP))] ++ z.pd.map .p ++ [.p (.str d)]) false)]) ?_ ?_
  · refine Wc.reg fun K hK => ?_; simp only [go_sem, ti3, ti9, ti4, ti35, ti22, ti23, ti24, ti26, ti32, ti34, ti45, ti48, ti53, ti55, ti57, ti64, hF, g0]; refine hK _ _ ?_; clear hK K
    exact ⟨rfl, s1.nx + 4, rfl, by simp only [Fs, Int.natCast_zero, go_sem, ti3, ti9, ti4, ti35, ti22, ti23, ti24, ti26, ti32, ti34, ti45, ti48, ti53, ti55, ti57, ti64, hF], by simp only [St.nx_put, St.nx_adv]; repeat (first | exact OA.mono ho (by omega) | refine OA.newB ?_ (by omega) rfl | refine OA.advB ?_)⟩
  clear hF ho g0 g1 e s1
  rintro ⟨e, ds, s1⟩ ⟨k7, rfl, hF, ho⟩
  simp only [Fs] at hF ho
  have g7 := ho.at_ (k7, .cells [.p (.lst lb.length (lb.flatMap lbP)), .p (pI kk), .nils, .nils] false) (by simp)
  have g1 := ho.at_ (1, .cells [.nils, .p (pI 0), .nils, .nils] false) (by simp)
  have g0 := ho.at_ (0, .cells ([.p (pI sig), .p (.lst lb.length (lb.flatMap lbP))] ++ z.pd.map .p ++ [.p (.str d)]) false) (by simp)
  have n71 : (k7 = 1) = False := by
    have := ho.dism
    simp only [List.pairwise_cons, List.mem_cons] at this
    have := this.1 (1, .cells [.nils, .p (pI 0), .nils, .nils] false) (.inl rfl)
    simpa using this
  simp only [List.map_cons, List.map_nil, List.cons_append, List.nil_append] at g0 g1 g7
  have hdl : (d.drop sz).length < 2^60 := by rw [List.length_drop]; omega
  refine Wc.seq (Wc.seq ?_)
  refine Wc.reg fun K hK => ?_; simp only [go_sem, ti3, ti9, ti4, ti35, ti22, ti23, ti24, ti26, ti32, ti34, ti45, ti48, ti53, ti55, ti57, ti64, hF]; refine hK _ _ ?_; clear hK K
  refine Wc.cond (t := (kk == 3)) (by simp only [go_sem, ti3, ti9, ti4, ti35, ti22, ti23, ti24, ti26, ti32, ti34, ti45, ti48, ti53, ti55, ti57, ti64, hF]) (fun hc => ?_) (fun hc => ?_)
  · have h3 : kk = 3 := by simpa using hc
    rw [if_pos h3] at hR
    obtain ⟨D9, p79, l, rfl, hl⟩ := pf79 (d.drop sz) 9 hdl (by decide)
    cases hs : splitN 9 (d.drop sz) with
    | none =>
      rw [hs] at hR p79
      simp only at hR
      subst hR
      refine Wc.seq ?_
      refine Wc.reg fun K hK => ?_; simp only [go_sem, ti3, ti9, ti4, ti35, ti22, ti23, ti24, ti26, ti32, ti34, ti45, ti48, ti53, ti55, ti57, ti64, hF, g0, c1, slice_from, Int.le_refl]
      refine wpCall.pf p79 (by kernel_rfl) (by kernel_rfl) rfl rfl ?_
      simp only [go_sem, ti3, ti9, ti4, ti35, ti22, ti23, ti24, ti26, ti32, ti34, ti45, ti48, ti53, ti55, ti57, ti64, hF]; refine hK _ _ ?_; clear hK K
      refine Wc.seq (Wc.seq ?_)
      refine Wc.reg fun K hK => ?_; simp only [go_sem, ti3, ti9, ti4, ti35, ti22, ti23, ti24, ti26, ti32, ti34, ti45, ti48, ti53, ti55, ti57, ti64, hF]; refine hK _ _ ?_; clear hK K
      refine Wc.cond (t := true) (by simp only [go_sem, ti3, ti9, ti4, ti35, ti22, ti23, ti24, ti26, ti32, ti34, ti45, ti48, ti53, ti55, ti57, ti64, hF, Option.isSome_none]) (fun _ => ?_) (fun hc => by cases hc)
      refine Wc.seq ?_
      refine Wc.reg fun K hK => ?_; simp only [go_sem, ti3, ti9, ti4, ti35, ti22, ti23, ti24, ti26, ti32, ti34, ti45, ti48, ti53, ti55, ti57, ti64, hF, g1]; refine hK _ _ ?_; clear hK K
      refine Wc.ret ?_
      refine (show bodyQ E0 Tryz.f37 _ .ret _ from Pf.retE [.cell 2 26, .tmp 3] [.agg [.nils, .p (pI 0), .nils, .nils], .c (.p (.bool false))] rfl rfl (by simp only [resultsD, go_sem, ti3, ti9, ti4, ti35, ti22, ti23, ti24, ti26, ti32, ti34, ti45, ti48, ti53, ti55, ti57, ti64, hF]) rfl ⟨_, _, _, _, rfl⟩)
    | some ss =>
      have hll := hl ss hs
      subst hll
      have hlen := splitN_len hs
      have hle := splitN_le hs
      rw [hs] at hR p79
      simp only at hR
      match l, hlen, hle, hR, p79 with
      | [c0, c1', c2, c3, c4, c5, c6, c7, c8], _, hle, hR, p79 =>
      obtain ⟨D8, p80, l, rfl, hl8⟩ := pf80 c0 c1' c2 c3 c4 c5 c6 c7 c8 (fun x hx => by have := hle x hx; rw [List.length_drop] at this; omega)
      refine Wc.seq ?_
      refine Wc.reg fun K hK => ?_; simp only [go_sem, ti3, ti9, ti4, ti35, ti22, ti23, ti24, ti26, ti32, ti34, ti45, ti48, ti53, ti55, ti57, ti64, hF, g0, c1, slice_from, Int.le_refl]
      refine wpCall.pf p79 (by kernel_rfl) (by kernel_rfl) rfl rfl ?_
      simp only [go_sem, ti3, ti9, ti4, ti35, ti22, ti23, ti24, ti26, ti32, ti34, ti45, ti48, ti53, ti55, ti57, ti64, hF]; refine hK _ _ ?_; clear hK K
      refine Wc.seq (Wc.seq ?_)
      refine Wc.reg fun K hK => ?_; simp only [go_sem, ti3, ti9, ti4, ti35, ti22, ti23, ti24, ti26, ti32, ti34, ti45, ti48, ti53, ti55, ti57, ti64, hF]; refine hK _ _ ?_; clear hK K
      refine Wc.cond (t := false) (by simp only [go_sem, ti3, ti9, ti4, ti35, ti22, ti23, ti24, ti26, ti32, ti34, ti45, ti48, ti53, ti55, ti57, ti64, hF, Option.isSome_some]) (fun hc => by cases hc) (fun _ => Wc.skip ?_)
      refine Wc.seq ?_
      refine Wc.reg fun K hK => ?_; simp only [go_sem, ti3, ti9, ti4, ti35, ti22, ti23, ti24, ti26, ti32, ti34, ti45, ti48, ti53, ti55, ti57, ti64, hF, g7]
      refine wpCall.pf p80 (by kernel_rfl) (by kernel_rfl) rfl rfl ?_
      simp only [go_sem, ti3, ti9, ti4, ti35, ti22, ti23, ti24, ti26, ti32, ti34, ti45, ti48, ti53, ti55, ti57, ti64, hF, g7]; refine hK _ _ ?_; clear hK K
      refine Wc.seq ?_
      refine Wc.reg fun K hK => ?_; simp only [go_sem, ti3, ti9, ti4, ti35, ti22, ti23, ti24, ti26, ti32, ti34, ti45, ti48, ti53, ti55, ti57, ti64, hF, g1, g7, n71]; refine hK _ _ ?_; clear hK K
      refine Wc.ret (thenD_ret ?_)
      cases hu : unpH [c0, c1', c2, c3, c4, c5, c6, c7, c8] with
      | none =>
        rw [hu] at hR
        subst hR
        exact Pf.retE [.cell 2 26, .tmp 3] [.agg [.p (.lst lb.length (lb.flatMap lbP)), .p (pI kk), .nils, .p (.lst l.length (l.flatMap HSm.pd))], .c (.p (.bool false))] rfl rfl (by simp only [resultsD, go_sem, ti3, ti9, ti4, ti35, ti22, ti23, ti24, ti26, ti32, ti34, ti45, ti48, ti53, ti55, ti57, ti64, hF, n71, hu, Option.isSome_none]) rfl ⟨_, _, _, _, rfl⟩
      | some x =>
        rw [hu] at hR
        have hlx := hl8 x hu
        subst hlx
        subst hR
        exact Pf.retE [.cell 2 26, .tmp 3] [.agg [.p (.lst lb.length (lb.flatMap lbP)), .p (pI kk), .nils, .p (.lst l.length (l.flatMap HSm.pd))], .c (.p (.bool true))] rfl rfl (by simp only [resultsD, go_sem, ti3, ti9, ti4, ti35, ti22, ti23, ti24, ti26, ti32, ti34, ti45, ti48, ti53, ti55, ti57, ti64, hF, n71, hu, Option.isSome_some]) rfl rfl
  · have h3 : ¬ kk = 3 := by simpa using hc
    rw [if_neg h3] at hR
    refine Wc.skip ?_
    obtain ⟨D9, p79, l, rfl, hl⟩ := pf79 (d.drop sz) 2 hdl (by decide)
    cases hs : splitN 2 (d.drop sz) with
    | none =>
      rw [hs] at hR p79
      simp only at hR
      subst hR
      refine Wc.seq ?_
      refine Wc.reg fun K hK => ?_; simp only [go_sem, ti3, ti9, ti4, ti35, ti22, ti23, ti24, ti26, ti32, ti34, ti45, ti48, ti53, ti55, ti57, ti64, hF, g0, c1, slice_from, Int.le_refl]
      refine wpCall.pf p79 (by kernel_rfl) (by kernel_rfl) rfl rfl ?_
      simp only [go_sem, ti3, ti9, ti4, ti35, ti22, ti23, ti24, ti26, ti32, ti34, ti45, ti48, ti53, ti55, ti57, ti64, hF]; refine hK _ _ ?_; clear hK K
      refine Wc.seq (Wc.seq ?_)
      refine Wc.reg fun K hK => ?_; simp only [go_sem, ti3, ti9, ti4, ti35, ti22, ti23, ti24, ti26, ti32, ti34, ti45, ti48, ti53, ti55, ti57, ti64, hF]; refine hK _ _ ?_; clear hK K
      refine Wc.cond (t := true) (by simp only [go_sem, ti3, ti9, ti4, ti35, ti22, ti23, ti24, ti26, ti32, ti34, ti45, ti48, ti53, ti55, ti57, ti64, hF, Option.isSome_none]) (fun _ => ?_) (fun hc => by cases hc)
      refine Wc.seq ?_
      refine Wc.reg fun K hK => ?_; simp only [go_sem, ti3, ti9, ti4, ti35, ti22, ti23, ti24, ti26, ti32, ti34, ti45, ti48, ti53, ti55, ti57, ti64, hF, g1]; refine hK _ _ ?_; clear hK K
      refine Wc.ret ?_
      refine (show bodyQ E0 Tryz.f37 _ .ret _ from Pf.retE [.cell 2 26, .tmp 3] [.agg [.nils, .p (pI 0), .nils, .nils], .c (.p (.bool false))] rfl rfl (by simp only [resultsD, go_sem, ti3, ti9, ti4, ti35, ti22, ti23, ti24, ti26, ti32, ti34, ti45, ti48, ti53, ti55, ti57, ti64, hF]) rfl ⟨_, _, _, _, rfl⟩)
    | some ss =>
      have hll := hl ss hs
      subst hll
      have hlen := splitN_len hs
      have hle := splitN_le hs
      rw [hs] at hR p79
      simp only at hR
      have p81 := pf81 l hlen (fun x hx => by have := hle x hx; rw [List.length_drop] at this; omega)
      refine Wc.seq ?_
      refine Wc.reg fun K hK => ?_; simp only [go_sem, ti3, ti9, ti4, ti35, ti22, ti23, ti24, ti26, ti32, ti34, ti45, ti48, ti53, ti55, ti57, ti64, hF, g0, c1, slice_from, Int.le_refl]
      refine wpCall.pf p79 (by kernel_rfl) (by kernel_rfl) rfl rfl ?_
      simp only [go_sem, ti3, ti9, ti4, ti35, ti22, ti23, ti24, ti26, ti32, ti34, ti45, ti48, ti53, ti55, ti57, ti64, hF]; refine hK _ _ ?_; clear hK K
      refine Wc.seq (Wc.seq ?_)
      refine Wc.reg fun K hK => ?_; simp only [go_sem, ti3, ti9, ti4, ti35, ti22, ti23, ti24, ti26, ti32, ti34, ti45, ti48, ti53, ti55, ti57, ti64, hF]; refine hK _ _ ?_; clear hK K
      refine Wc.cond (t := false) (by simp only [go_sem, ti3, ti9, ti4, ti35, ti22, ti23, ti24, ti26, ti32, ti34, ti45, ti48, ti53, ti55, ti57, ti64, hF, Option.isSome_some]) (fun hc => by cases hc) (fun _ => Wc.skip ?_)
      refine Wc.seq ?_
      cases hu : unpk (0, 0) smpR l with
      | none =>
        rw [hu] at hR p81
        subst hR
        refine Wc.reg fun K hK => ?_; simp only [go_sem, ti3, ti9, ti4, ti35, ti22, ti23, ti24, ti26, ti32, ti34, ti45, ti48, ti53, ti55, ti57, ti64, hF, g7]
        refine wpCall.pf pf25 (by kernel_rfl) (by kernel_rfl) rfl rfl ?_
        simp only [go_sem, ti3, ti9, ti4, ti35, ti22, ti23, ti24, ti26, ti32, ti34, ti45, ti48, ti53, ti55, ti57, ti64, hF, g7]
        refine wpCall.pf p81 (by kernel_rfl) (by kernel_rfl) rfl rfl ?_
        simp only [unpR]
        simp only [go_sem, ti3, ti9, ti4, ti35, ti22, ti23, ti24, ti26, ti32, ti34, ti45, ti48, ti53, ti55, ti57, ti64, hF, g7]; refine hK _ _ ?_; clear hK K
        refine Wc.seq ?_
        refine Wc.reg fun K hK => ?_; simp only [go_sem, ti3, ti9, ti4, ti35, ti22, ti23, ti24, ti26, ti32, ti34, ti45, ti48, ti53, ti55, ti57, ti64, hF, g1, g7, n71]; refine hK _ _ ?_; clear hK K
        refine Wc.ret ?_
        refine (show bodyQ E0 Tryz.f37 _ .ret _ from ?_)
        exact Pf.retE [.cell 2 26, .tmp 3] [.agg [.p (.lst lb.length (lb.flatMap lbP)), .p (pI kk), .p (.lst 0 []), .nils], .c (.p (.bool false))] rfl rfl (by simp only [resultsD, go_sem, ti3, ti9, ti4, ti35, ti22, ti23, ti24, ti26, ti32, ti34, ti45, ti48, ti53, ti55, ti57, ti64, hF, n71]) rfl ⟨_, _, _, _, rfl⟩
      | some x =>
        rw [hu] at hR p81
        subst hR
        refine Wc.reg fun K hK => ?_; simp only [go_sem, ti3, ti9, ti4, ti35, ti22, ti23, ti24, ti26, ti32, ti34, ti45, ti48, ti53, ti55, ti57, ti64, hF, g7]
        refine wpCall.pf pf25 (by kernel_rfl) (by kernel_rfl) rfl rfl ?_
        simp only [go_sem, ti3, ti9, ti4, ti35, ti22, ti23, ti24, ti26, ti32, ti34, ti45, ti48, ti53, ti55, ti57, ti64, hF, g7]
        refine wpCall.pf p81 (by kernel_rfl) (by kernel_rfl) rfl rfl ?_
        simp only [unpR]
        simp only [go_sem, ti3, ti9, ti4, ti35, ti22, ti23, ti24, ti26, ti32, ti34, ti45, ti48, ti53, ti55, ti57, ti64, hF, g7]; refine hK _ _ ?_; clear hK K
        refine Wc.seq ?_
        refine Wc.reg fun K hK => ?_; simp only [go_sem, ti3, ti9, ti4, ti35, ti22, ti23, ti24, ti26, ti32, ti34, ti45, ti48, ti53, ti55, ti57, ti64, hF, g1, g7, n71]; refine hK _ _ ?_; clear hK K
        refine Wc.ret ?_
        refine (show bodyQ E0 Tryz.f37 _ .ret _ from ?_)
        exact Pf.retE [.cell 2 26, .tmp 3] [.agg [.p (.lst lb.length (lb.flatMap lbP)), .p (pI kk), .p (.lst x.length (x.flatMap p2)), .nils], .c (.p (.bool true))] rfl rfl (by simp only [resultsD, go_sem, ti3, ti9, ti4, ti35, ti22, ti23, ti24, ti26, ti32, ti34, ti45, ti48, ti53, ti55, ti57, ti64, hF, n71]) rfl rfl
end Go.Proofs.YtafaoldmemcigaaGreat.Ab
namespace Go.Proofs.YtafaoldmemcigaaGreat.Ab
set_option maxHeartbeats 8000000
set_option maxRecDepth 10000
set_option linter.unusedSimpArgs false
set_option linter.unusedVariables false
/-- 82: slices.Equal, of equal labels -/
theorem pf82 (l : List Lb) (hl : l.length < 2^60) : Pf E0 82 [.c (.p (.lst l.length (l.flatMap lbP))), .c (.p (.lst l.length (l.flatMap lbP)))] (P' (.bool true)) := by
  have hfl : (l.flatMap lbP).length = l.length * 2 := flat_len (k := 2) (fun _ => rfl) _
  have d0 : ((l.length : Int) != (l.length : Int)) = false := by simp
  refine Pf.body (fn := Tryz.f82) (by kernel_rfl) rfl ?_; simp only [List.map_cons, List.map_nil, List.cons_append, List.nil_append, List.length_cons, List.length_nil, Tryz.ntmps82, List.replicate, Nat.reduceSub, Nat.reduceAdd]
  refine Wc.seq ?_
  refine Wc.reg fun K hK => ?_; simp only [go_sem, ti3, ti9, ti4, ti35, ti22, ti23, ti24, ti26, ti32, ti34, ti45, ti48, ti53, ti55, ti57, ti64]; refine hK _ _ ?_; clear hK K
  refine Wc.seq (Wc.seq ?_)
  refine Wc.reg fun K hK => ?_; simp only [go_sem, ti3, ti9, ti4, ti35, ti22, ti23, ti24, ti26, ti32, ti34, ti45, ti48, ti53, ti55, ti57, ti64, d0]; refine hK _ _ ?_; clear hK K
  refine Wc.cond (t := false) (by simp only [go_sem, ti3, ti9, ti4, ti35, ti22, ti23, ti24, ti26, ti32, ti34, ti45, ti48, ti53, ti55, ti57, ti64, d0]) (fun hc => by cases hc) (fun _ => Wc.skip ?_)
  refine Wc.seqR (fun y => y.ds = [] ∧ Fs y.e 26 []) ?_ ?_
  · refine Wc.seq ?_
    refine Wc.reg fun K hK => ?_; simp only [go_sem, ti3, ti9, ti4, ti35, ti22, ti23, ti24, ti26, ti32, ti34, ti45, ti48, ti53, ti55, ti57, ti64, Int.natCast_zero]; refine hK _ _ ?_; clear hK K
    refine Wc.block (Wc.loop (fun k y => ∃ i : Nat, k = l.length - i ∧ i ≤ l.length ∧ y.ds = [] ∧ Fs y.e 26 [(0, P' (.lst l.length (l.flatMap lbP))), (1, P' (.lst l.length (l.flatMap lbP))), (12, P' (pI l.length)), (13, P' (pI i))]) ?_ (k := l.length) ?_)
    · rintro k ⟨e, ds, s1⟩ ⟨i, rfl, hi, rfl, hF⟩
      simp only [Fs] at hF
      refine Wc.seq ?_
      refine Wc.reg fun K hK => ?_; simp only [go_sem, ti3, ti9, ti4, ti35, ti22, ti23, ti24, ti26, ti32, ti34, ti45, ti48, ti53, ti55, ti57, ti64, hF]; refine hK _ _ ?_; clear hK K
      refine Wc.seq (Wc.cond (t := decide ((i : Int) < l.length)) (by simp only [go_sem, ti3, ti9, ti4, ti35, ti22, ti23, ti24, ti26, ti32, ti34, ti45, ti48, ti53, ti55, ti57, ti64, hF]) (fun hc => ?_) (fun hc => ?_))
      · have hil : i < l.length := by have : (i : Int) < l.length := by simpa using hc
                                      omega
        obtain ⟨x, hx⟩ : ∃ x, l[i]? = some x := ⟨l[i], List.getElem?_eq_getElem hil⟩
        have hix := ixA ti22 rfl ti64 (j := i) (m := l.length) (cs := l.flatMap lbP) hil hfl (by decide)
        have hca := rpA (off := i * 2) (drop_flat (f := lbP) (k := 2) (fun _ => rfl) hx) (by rw [hfl]; omega)
        refine Wc.skip (Wc.seq (Wc.block (Wc.seq ?_)))
        refine Wc.reg fun K hK => ?_; simp only [go_sem, ti3, ti9, ti4, ti35, ti22, ti23, ti24, ti26, ti32, ti34, ti45, ti48, ti53, ti55, ti57, ti64, hF]; refine hK _ _ ?_; clear hK K
        refine Wc.seq ?_
        refine Wc.regD fun K hK => ?_; simp only [go_sem, ti3, ti9, ti4, ti35, ti22, ti23, ti24, ti26, ti32, ti34, ti45, ti48, ti53, ti55, ti57, ti64, hF, hix, hca, eqL, eqS]; refine hK _ _ ?_; clear hK K
        refine Wc.cond (t := false) (by simp only [go_sem, ti3, ti9, ti4, ti35, ti22, ti23, ti24, ti26, ti32, ti34, ti45, ti48, ti53, ti55, ti57, ti64, hF]) (fun hc => by cases hc) (fun _ => Wc.skip ?_)
        refine Wc.reg fun K hK => ?_; simp only [go_sem, ti3, ti9, ti4, ti35, ti22, ti23, ti24, ti26, ti32, ti34, ti45, ti48, ti53, ti55, ti57, ti64, hF, i64n i (by omega)]; refine hK _ _ ?_; clear hK K
        exact ⟨l.length - (i + 1), by omega, i + 1, rfl, by omega, rfl, by simp only [Fs, Int.natCast_zero, go_sem, ti3, ti9, ti4, ti35, ti22, ti23, ti24, ti26, ti32, ti34, ti45, ti48, ti53, ti55, ti57, ti64, hF]⟩
      · exact Wc.exit ⟨rfl, by simp only [Fs, Int.natCast_zero, go_sem, ti3, ti9, ti4, ti35, ti22, ti23, ti24, ti26, ti32, ti34, ti45, ti48, ti53, ti55, ti57, ti64, hF]⟩
    · exact ⟨0, rfl, by omega, rfl, by simp only [Fs, Int.natCast_zero, go_sem, ti3, ti9, ti4, ti35, ti22, ti23, ti24, ti26, ti32, ti34, ti45, ti48, ti53, ti55, ti57, ti64]⟩
  rintro ⟨e, ds, s1⟩ ⟨rfl, hF⟩
  simp only [Fs] at hF
  refine Wc.seq ?_
  refine Wc.reg fun K hK => ?_; simp only [go_sem, ti3, ti9, ti4, ti35, ti22, ti23, ti24, ti26, ti32, ti34, ti45, ti48, ti53, ti55, ti57, ti64, hF]; refine hK _ _ ?_; clear hK K
  exact Wc.ret (Pf.ret [.tmp 4] [.c (.p (.bool true))] rfl rfl (by simp only [resultsD, go_sem, ti3, ti9, ti4, ti35, ti22, ti23, ti24, ti26, ti32, ti34, ti45, ti48, ti53, ti55, ti57, ti64, hF]) rfl)
/-- 38: same -/
theorem pf38 (lb : List Lb) (hlb : lb.length < 2^60) (z z' : Zo) (d d' : List UInt8) : Pf E0 38 [chV 1 (.lst lb.length (lb.flatMap lbP)) z.pd d, chV 1 (.lst lb.length (lb.flatMap lbP)) z'.pd d'] (P' (.bool (decide (d = d' ∧ z = z')))) := by
  refine Pf.body (fn := Tryz.f38) (by kernel_rfl) rfl ?_; simp only [List.map_cons, List.map_nil, List.cons_append, List.nil_append, List.length_cons, List.length_nil, Tryz.ntmps38, List.replicate, Nat.reduceSub, Nat.reduceAdd]
  refine Wc.seq ?_
  refine Wc.reg fun K hK => ?_; simp only [go_sem, ti3, ti9, ti4, ti35, ti22, ti23, ti24, ti26, ti32, ti34, ti45, ti48, ti53, ti55, ti57, ti64]; refine hK _ _ ?_; clear hK K
  refine Wc.seq ?_
  by_cases hz : z = z'
  · subst hz
    have e : decide (d = d' ∧ z = z) = (d == d') := by
      by_cases h : d = d'
      · simp [h]
      · simp [h]
    rw [e]
    refine Wc.reg fun K hK => ?_; simp only [go_sem, ti3, ti9, ti4, ti35, ti22, ti23, ti24, ti26, ti32, ti34, ti45, ti48, ti53, ti55, ti57, ti64]
    refine wpCall.pf (pf82 lb hlb) (by kernel_rfl) (by kernel_rfl) rfl rfl ?_
    simp only [go_sem, ti3, ti9, ti4, ti35, ti22, ti23, ti24, ti26, ti32, ti34, ti45, ti48, ti53, ti55, ti57, ti64, eqL, eqS]; refine hK _ _ ?_; clear hK K
    exact Wc.ret (Pf.ret [.tmp 4] [.c (.p (.bool (d == d')))] rfl rfl (by simp only [resultsD, go_sem, ti3, ti9, ti4, ti35, ti22, ti23, ti24, ti26, ti32, ti34, ti45, ti48, ti53, ti55, ti57, ti64]) rfl)
  · have e : decide (d = d' ∧ z = z') = false := by simp [hz]
    rw [e]
    have hne : ((z.c == z'.c) && ((z.t1 == z'.t1) && ((z.t2 == z'.t2) && ((z.v1 == z'.v1) && (z.v2 == z'.v2))))) = false := by
      cases hh : ((z.c == z'.c) && ((z.t1 == z'.t1) && ((z.t2 == z'.t2) && ((z.v1 == z'.v1) && (z.v2 == z'.v2))))) with
      | false => rfl
      | true =>
        exfalso
        simp only [Bool.and_eq_true, beq_iff_eq] at hh
        apply hz
        cases z
        cases z'
        simp only [Zo.mk.injEq]
        exact hh
    refine Wc.reg fun K hK => ?_; simp only [go_sem, ti3, ti9, ti4, ti35, ti22, ti23, ti24, ti26, ti32, ti34, ti45, ti48, ti53, ti55, ti57, ti64]
    refine wpCall.pf (pf82 lb hlb) (by kernel_rfl) (by kernel_rfl) rfl rfl ?_
    simp only [go_sem, ti3, ti9, ti4, ti35, ti22, ti23, ti24, ti26, ti32, ti34, ti45, ti48, ti53, ti55, ti57, ti64, eqL, eqS, hne]; refine hK _ _ ?_; clear hK K
    exact Wc.ret (Pf.ret [.tmp 4] [.c (.p (.bool false))] rfl rfl (by simp only [resultsD, go_sem, ti3, ti9, ti4, ti35, ti22, ti23, ti24, ti26, ti32, ti34, ti45, ti48, ti53, ti55, ti57, ti64]) rfl)
theorem distH_bs : ∀ {l : List HSm} {ns ss : List Int} {bs : List I2} {r : List HSm}, distH l ns ss bs = some r → r.length ≤ l.length ∧ ∀ y ∈ r, y.h.bs.length ≤ bs.length
  | x :: l, n :: ns, s :: ss, bs, r, h => by
    rw [distH] at h
    split at h
    · cases h
    · cases hr : distH l ns ss (bs.drop n.toNat) with
      | none => rw [hr] at h; cases h
      | some q =>
        rw [hr] at h; cases h
        obtain ⟨h1, h2⟩ := distH_bs hr
        refine ⟨by simp only [List.length_cons]; omega, fun y hy => ?_⟩
        rcases List.mem_cons.1 hy with rfl | hy
        · simp only [List.length_take]; omega
        · have := h2 y hy
          rw [List.length_drop] at this; omega
  | [], ns, ss, bs, r, h => by
    simp only [distH] at h
    split at h
    · cases h; exact ⟨by simp, fun y hy => by cases hy⟩
    · cases h
  | x :: l, [], ss, bs, r, h => by
    simp only [distH] at h
    split at h
    · cases h; exact ⟨by simp, fun y hy => by cases hy⟩
    · cases h
  | x :: l, n :: ns, [], bs, r, h => by
    simp only [distH] at h
    split at h
    · cases h; exact ⟨by simp, fun y hy => by cases hy⟩
    · cases h
theorem unpH_bs {ss : List (List UInt8)} {r : List HSm} (h : unpH ss = some r) : r.length ≤ 20001 ∧ ∀ y ∈ r, y.h.bs.length ≤ 20001 := by
  unfold unpH at h
  split at h
  · split at h
    · cases h
    · rename_i l hl
      split at h
      · cases h
      · split at h
        · cases h
        · rename_i bs hb
          split at h
          · cases h
          · obtain ⟨h1, h2⟩ := distH_bs h
            have := unpk_len hl
            have := unpk_len hb
            exact ⟨by omega, fun y hy => by have := h2 y hy; omega⟩
  · cases h
theorem parse_sz {lb : List Lb} {d : List UInt8} {x : Ser} (h : parseS lb d = some x) (h1 : lb.length < 2^40) (h2 : ∀ y ∈ lb, y.1.length < 2^50 ∧ y.2.length < 2^50) : x.Sz ∧ x.lb = lb := by
  unfold parseS at h
  split at h
  · cases h
  · split at h
    · split at h
      · cases h
      · rename_i ss hss
        cases hu : unpH ss with
        | none => rw [hu] at h; cases h
        | some l =>
          rw [hu] at h; cases h
          obtain ⟨h3, h4⟩ := unpH_bs hu
          exact ⟨⟨h1, h2, by simp, by simp only; omega, fun y hy => by have := h4 y hy; omega⟩, rfl⟩
    · split at h
      · cases h
      · rename_i ss hss
        cases hu : unpk (0, 0) smpR ss with
        | none => rw [hu] at h; cases h
        | some l =>
          rw [hu] at h; cases h
          have := unpk_len hu
          exact ⟨⟨h1, h2, by simp only; omega, by simp, fun y hy => by cases hy⟩, rfl⟩
/-- What Decode returns. -/
def decD : Option Ser → D
  | none => .tup [.agg [.p (.lst 0 []), .p (pI 0), .p (.lst 0 []), .p (.lst 0 [])], .c (.p (pI 12))]
  | some x => .tup [.agg (x.pd.map .p), .c (.p (pI 0))]
/-- 12: Decode -/
theorem pf12 (lb : List Lb) (h1 : lb.length < 2^40) (h2 : ∀ y ∈ lb, y.1.length < 2^50 ∧ y.2.length < 2^50) (z : Zo) (d : List UInt8) (hd : d.length < 2^40) : Pf E0 12 [chV 1 (.lst lb.length (lb.flatMap lbP)) z.pd d] (decD (decR lb z d)) := by
  obtain ⟨D, p37, hpar⟩ := pf37 1 lb z d hd
  have d1 : ((1 : Int) != 1) = false := by decide
  have dz : ((0 : Int) != 0) = false := by decide
  generalize hR : decR lb z d = R
  unfold decR at hR
  refine Pf.body (fn := Tryz.f12) (by kernel_rfl) rfl ?_; simp only [List.map_cons, List.map_nil, List.cons_append, List.nil_append, List.length_cons, List.length_nil, Tryz.ntmps12, List.replicate, Nat.reduceSub, Nat.reduceAdd]
  refine Wc.seq ?_
  refine Wc.reg fun K hK => ?_; simp only [go_sem, ti3, ti9, ti4, ti35, ti22, ti23, ti24, ti26, ti32, ti34, ti45, ti48, ti53, ti55, ti57, ti64]; refine hK _ _ ?_; clear hK K
  refine Wc.seq (Wc.seq ?_)
  refine Wc.reg fun K hK => ?_; simp only [go_sem, ti3, ti9, ti4, ti35, ti22, ti23, ti24, ti26, ti32, ti34, ti45, ti48, ti53, ti55, ti57, ti64, d1]; refine hK _ _ ?_; clear hK K
  refine Wc.cond (t := false) (by simp only [go_sem, ti3, ti9, ti4, ti35, ti22, ti23, ti24, ti26, ti32, ti34, ti45, ti48, ti53, ti55, ti57, ti64, d1]) (fun hc => by cases hc) (fun _ => Wc.skip ?_)
  cases hp : parseS lb d with
  | none =>
    rw [hp] at hR hpar
    simp only at hR
    subst hR
    obtain ⟨q0, q1, q2, q3, rfl⟩ := hpar
    refine Wc.seq ?_
    refine Wc.reg fun K hK => ?_; simp only [go_sem, ti3, ti9, ti4, ti35, ti22, ti23, ti24, ti26, ti32, ti34, ti45, ti48, ti53, ti55, ti57, ti64]
    refine wpCall.pf p37 (by kernel_rfl) (by kernel_rfl) rfl rfl ?_
    simp only [go_sem, ti3, ti9, ti4, ti35, ti22, ti23, ti24, ti26, ti32, ti34, ti45, ti48, ti53, ti55, ti57, ti64]; refine hK _ _ ?_; clear hK K
    refine Wc.seq (Wc.seq ?_)
    refine Wc.reg fun K hK => ?_; simp only [go_sem, ti3, ti9, ti4, ti35, ti22, ti23, ti24, ti26, ti32, ti34, ti45, ti48, ti53, ti55, ti57, ti64]; refine hK _ _ ?_; clear hK K
    refine Wc.cond (t := true) (by simp only [go_sem, ti3, ti9, ti4, ti35, ti22, ti23, ti24, ti26, ti32, ti34, ti45, ti48, ti53, ti55, ti57, ti64]) (fun _ => ?_) (fun hc => by cases hc)
    refine Wc.seq ?_
    refine Wc.reg fun K hK => ?_; simp only [go_sem, ti3, ti9, ti4, ti35, ti22, ti23, ti24, ti26, ti32, ti34, ti45, ti48, ti53, ti55, ti57, ti64]; refine hK _ _ ?_; clear hK K
    exact Wc.ret (Pf.ret [.cell 2 26, .tmp 3] [.agg [.nils, .p (pI 0), .nils, .nils], .c (.p (pI 12))] rfl rfl (by simp only [resultsD, go_sem, ti3, ti9, ti4, ti35, ti22, ti23, ti24, ti26, ti32, ti34, ti45, ti48, ti53, ti55, ti57, ti64]) rfl)
  | some x =>
    obtain ⟨hz, hlb⟩ := parse_sz hp h1 h2
    rw [hp] at hR hpar
    simp only [parR] at hR hpar
    subst hpar
    have p9 := pf9 x hz
    refine Wc.seq ?_
    refine Wc.reg fun K hK => ?_; simp only [go_sem, ti3, ti9, ti4, ti35, ti22, ti23, ti24, ti26, ti32, ti34, ti45, ti48, ti53, ti55, ti57, ti64]
    refine wpCall.pf p37 (by kernel_rfl) (by kernel_rfl) rfl rfl ?_
    simp only [go_sem, ti3, ti9, ti4, ti35, ti22, ti23, ti24, ti26, ti32, ti34, ti45, ti48, ti53, ti55, ti57, ti64]; refine hK _ _ ?_; clear hK K
    refine Wc.seq (Wc.seq ?_)
    refine Wc.reg fun K hK => ?_; simp only [go_sem, ti3, ti9, ti4, ti35, ti22, ti23, ti24, ti26, ti32, ti34, ti45, ti48, ti53, ti55, ti57, ti64]; refine hK _ _ ?_; clear hK K
    refine Wc.cond (t := false) (by simp only [go_sem, ti3, ti9, ti4, ti35, ti22, ti23, ti24, ti26, ti32, ti34, ti45, ti48, ti53, ti55, ti57, ti64]) (fun hc => by cases hc) (fun _ => Wc.skip ?_)
    cases he : encO x with
    | none =>
      obtain ⟨er, hne, hes⟩ := encS_none he
      rw [hes] at p9
      rw [if_neg (by rw [he]; rintro ⟨h, _⟩; cases h)] at hR
      subst hR
      have d0 : (er != 0) = true := by simpa using hne
      refine Wc.seq ?_
      refine Wc.reg fun K hK => ?_; simp only [go_sem, ti3, ti9, ti4, ti35, ti22, ti23, ti24, ti26, ti32, ti34, ti45, ti48, ti53, ti55, ti57, ti64]
      refine wpCall.pf p9 (by kernel_rfl) (by kernel_rfl) rfl rfl ?_
      simp only [go_sem, ti3, ti9, ti4, ti35, ti22, ti23, ti24, ti26, ti32, ti34, ti45, ti48, ti53, ti55, ti57, ti64]; refine hK _ _ ?_; clear hK K
      refine Wc.seq (Wc.seq ?_)
      refine Wc.reg fun K hK => ?_; simp only [go_sem, ti3, ti9, ti4, ti35, ti22, ti23, ti24, ti26, ti32, ti34, ti45, ti48, ti53, ti55, ti57, ti64, d0]; refine hK _ _ ?_; clear hK K
      refine Wc.cond (t := true) (by simp only [go_sem, ti3, ti9, ti4, ti35, ti22, ti23, ti24, ti26, ti32, ti34, ti45, ti48, ti53, ti55, ti57, ti64]) (fun _ => ?_) (fun hc => by cases hc)
      refine Wc.seq ?_
      refine Wc.reg fun K hK => ?_; simp only [go_sem, ti3, ti9, ti4, ti35, ti22, ti23, ti24, ti26, ti32, ti34, ti45, ti48, ti53, ti55, ti57, ti64]; refine hK _ _ ?_; clear hK K
      refine Wc.ret (thenD_ret ?_)
      exact Pf.ret [.cell 2 26, .tmp 3] [.agg [.nils, .p (pI 0), .nils, .nils], .c (.p (pI 12))] rfl rfl (by simp only [resultsD, go_sem, ti3, ti9, ti4, ti35, ti22, ti23, ti24, ti26, ti32, ti34, ti45, ti48, ti53, ti55, ti57, ti64]) rfl
    | some d' =>
      rw [encS_some he, hlb] at p9
      have p38 := pf38 lb (by omega) (serZ x) z d' d
      rw [he] at hR
      simp only [Option.some.injEq] at hR
      refine Wc.seq ?_
      refine Wc.reg fun K hK => ?_; simp only [go_sem, ti3, ti9, ti4, ti35, ti22, ti23, ti24, ti26, ti32, ti34, ti45, ti48, ti53, ti55, ti57, ti64]
      refine wpCall.pf p9 (by kernel_rfl) (by kernel_rfl) rfl rfl ?_
      simp only [go_sem, ti3, ti9, ti4, ti35, ti22, ti23, ti24, ti26, ti32, ti34, ti45, ti48, ti53, ti55, ti57, ti64]; refine hK _ _ ?_; clear hK K
      refine Wc.seq (Wc.seq ?_)
      by_cases hsame : d' = d ∧ serZ x = z
      · rw [if_pos hsame] at hR
        subst hR
        have e0 : decide (d' = d ∧ serZ x = z) = true := by simpa using hsame
        rw [e0] at p38
        refine Wc.reg fun K hK => ?_; simp only [go_sem, ti3, ti9, ti4, ti35, ti22, ti23, ti24, ti26, ti32, ti34, ti45, ti48, ti53, ti55, ti57, ti64, dz]
        refine wpCall.pf p38 (by kernel_rfl) (by kernel_rfl) rfl rfl ?_
        simp only [go_sem, ti3, ti9, ti4, ti35, ti22, ti23, ti24, ti26, ti32, ti34, ti45, ti48, ti53, ti55, ti57, ti64, dz]; refine hK _ _ ?_; clear hK K
        refine Wc.cond (t := false) (by simp only [go_sem, ti3, ti9, ti4, ti35, ti22, ti23, ti24, ti26, ti32, ti34, ti45, ti48, ti53, ti55, ti57, ti64, dz]) (fun hc => by cases hc) (fun _ => Wc.skip ?_)
        refine Wc.seq ?_
        refine Wc.reg fun K hK => ?_; simp only [go_sem, ti3, ti9, ti4, ti35, ti22, ti23, ti24, ti26, ti32, ti34, ti45, ti48, ti53, ti55, ti57, ti64]; refine hK _ _ ?_; clear hK K
        exact Wc.ret (Pf.ret [.cell 2 26, .tmp 3] [.agg (x.pd.map .p), .c (.p (pI 0))] rfl rfl (by simp only [resultsD, go_sem, ti3, ti9, ti4, ti35, ti22, ti23, ti24, ti26, ti32, ti34, ti45, ti48, ti53, ti55, ti57, ti64]) rfl)
      · rw [if_neg hsame] at hR
        subst hR
        have e0 : decide (d' = d ∧ serZ x = z) = false := by simpa using hsame
        rw [e0] at p38
        refine Wc.reg fun K hK => ?_; simp only [go_sem, ti3, ti9, ti4, ti35, ti22, ti23, ti24, ti26, ti32, ti34, ti45, ti48, ti53, ti55, ti57, ti64, dz]
        refine wpCall.pf p38 (by kernel_rfl) (by kernel_rfl) rfl rfl ?_
        simp only [go_sem, ti3, ti9, ti4, ti35, ti22, ti23, ti24, ti26, ti32, ti34, ti45, ti48, ti53, ti55, ti57, ti64, dz]; refine hK _ _ ?_; clear hK K
        refine Wc.cond (t := true) (by simp only [go_sem, ti3, ti9, ti4, ti35, ti22, ti23, ti24, ti26, ti32, ti34, ti45, ti48, ti53, ti55, ti57, ti64, dz]) (fun _ => ?_) (fun hc => by cases hc)
        refine Wc.seq ?_
        refine Wc.reg fun K hK => ?_; simp only [go_sem, ti3, ti9, ti4, ti35, ti22, ti23, ti24, ti26, ti32, ti34, ti45, ti48, ti53, ti55, ti57, ti64]; refine hK _ _ ?_; clear hK K
        refine Wc.ret (thenD_ret ?_)
        exact Pf.ret [.cell 2 26, .tmp 3] [.agg [.nils, .p (pI 0), .nils, .nils], .c (.p (pI 12))] rfl rfl (by simp only [resultsD, go_sem, ti3, ti9, ti4, ti35, ti22, ti23, ti24, ti26, ti32, ti34, ti45, ti48, ti53, ti55, ti57, ti64]) rfl
end Go.Proofs.YtafaoldmemcigaaGreat.Ab
namespace Go.Proofs.YtafaoldmemcigaaGreat.Ab
set_option maxHeartbeats 8000000
set_option maxRecDepth 10000
set_option linter.unusedSimpArgs false
set_option linter.unusedVariables false
end Go.Proofs.YtafaoldmemcigaaGreat.Ab
namespace Go.Proofs.YtafaoldmemcigaaGreat.Ab
set_option maxRecDepth 100000
/-- What the closed check comes to. -/
noncomputable def aw : Option Bool := match bodyD E0 (runF E0 100) 100 8 [] { ob := [], nx := 0 } with
  | some (.v (.c (.p (.bool b))), _) => some b
  | _ => none
theorem aw_true : aw = some true := by kernel_rfl
/-- 8: the example of the chapter -/
theorem pf8 : Pf E0 8 [] (P' (.bool true)) := by
  have h := aw_true
  unfold aw at h
  split at h
  · rename_i b s hb
    cases h
    exact ⟨100, _, _, _, hb, rfl⟩
  · cases h
end Go.Proofs.YtafaoldmemcigaaGreat.Ab
namespace Go.Proofs.YtafaoldmemcigaaGreat.Ab
set_option maxHeartbeats 8000000
set_option maxRecDepth 10000
set_option linter.unusedSimpArgs false
set_option linter.unusedVariables false
end Go.Proofs.YtafaoldmemcigaaGreat.Ab
