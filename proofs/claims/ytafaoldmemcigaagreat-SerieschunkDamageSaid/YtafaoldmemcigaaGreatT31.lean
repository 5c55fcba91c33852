/- A part of the proof: an evaluator of the code, its contracts, the law. No condition. -/
import Derived.Test.YtafaoldmemcigaaGreatT30
namespace Go.Proofs.YtafaoldmemcigaaGreat.Ab
set_option maxHeartbeats 8000000
set_option maxRecDepth 10000
set_option linter.unusedSimpArgs false
set_option linter.unusedVariables false
/-- The same, the edges looked up first. -/
def trOK2 (ops : Array Oper) : List Tr → Bool
  | [] => true
  | x :: r => (r.all fun y => hasEdge ops y.i x.i || freeOK x y) && trOK2 ops r
theorem trOK_eq (ops : Array Oper) : ∀ l, trOK ops l = trOK2 ops l
  | [] => rfl
  | x :: r => by
    rw [trOK, trOK2, trOK_eq ops r]
    congr 2
    funext y
    exact Bool.or_comm _ _
theorem encO_ne {x : Ser} {d : List UInt8} (h : encO x = some d) : 0 < d.length := by
  obtain ⟨_, _, ss, _, hd, _⟩ := encO_some h
  rw [hd, List.length_append]
  have := vb_pos x.k.toNat
  omega
theorem tmodN (a b : Nat) : (a : Int).tmod (b : Int) = ((a % b : Nat) : Int) := rfl
/-- 4: the law -/
theorem law4 (x : Ser) (hh : x.hs.length < 2^60) (hlb : x.lb.length < 2^60) (q : Nat) (hq : q < 65536) (more : List UInt8) : ∃ s', Ev E0 (.o 4) [.agg (x.pd.map .p), .c (.p (.int .u16 (q : Nat))), .c (.p (.str more))] s00 (P' (.bool true)) s' := by
  have main : Wc E0 none (Tryz.f4.body.get rfl) { e := [V.agg (x.pd.map .p), V.c (.p (.int .u16 (q : Nat))), V.c (.p (.str more))].map .v ++ List.replicate (Tryz.f4.ntmps - 3) (.tup []), ds := [], s := s00 } (bodyQ E0 Tryz.f4 fun d _ => d = P' (.bool true)) := by
    show Wc E0 none _ _ _
    have o00 : OA 0 { ob := [], nx := 0 } [] [] := s00_oa
    simp only [List.map_cons, List.map_nil, List.cons_append, List.nil_append, Tryz.ntmps4, List.replicate, Nat.reduceSub, Nat.reduceAdd, s00]
    refine Wc.seq ?_
    refine Wc.reg fun K hK => ?_; simp only [go_sem, ti3, ti9, ti4, ti35, ti22, ti23, ti24, ti26, ti32, ti34, ti39, ti45, ti48, ti53, ti55, ti57, ti64]; refine hK _ _ ?_; clear hK K
    have p7 := pf7 x hh hlb
    refine Wc.seqR (fun y => (serG x = false ∧ more.length ≤ 20) ∧ y.ds = [] ∧ Fs y.e 73 [(1, P' (.int .u16 (q : Nat))), (2, P' (.str more)), (3, .v (.c (.ref 0 0)))] ∧ OA y.s.nx y.s [] [(0, .cells (x.pd.map .p) false)]) ?_ ?_
    · refine Wc.seq ?_
      cases hg : serG x with
      | true =>
        rw [hg] at p7
        refine Wc.reg fun K hK => ?_; simp only [go_sem, ti3, ti9, ti4, ti35, ti22, ti23, ti24, ti26, ti32, ti34, ti39, ti45, ti48, ti53, ti55, ti57, ti64]
        refine wpCall.pf p7 (by kernel_rfl) (by kernel_rfl) rfl rfl ?_
        simp only [go_sem, ti3, ti9, ti4, ti35, ti22, ti23, ti24, ti26, ti32, ti34, ti39, ti45, ti48, ti53, ti55, ti57, ti64]; refine hK _ _ ?_; clear hK K
        refine Wc.cond (t := true) (by simp only [go_sem, ti3, ti9, ti4, ti35, ti22, ti23, ti24, ti26, ti32, ti34, ti39, ti45, ti48, ti53, ti55, ti57, ti64]) (fun _ => ?_) (fun hc => by cases hc)
        refine Wc.seq ?_
        refine Wc.reg fun K hK => ?_; simp only [go_sem, ti3, ti9, ti4, ti35, ti22, ti23, ti24, ti26, ti32, ti34, ti39, ti45, ti48, ti53, ti55, ti57, ti64]
        refine wpCall.pf pf8 (by kernel_rfl) (by kernel_rfl) rfl rfl ?_
        simp only [go_sem, ti3, ti9, ti4, ti35, ti22, ti23, ti24, ti26, ti32, ti34, ti39, ti45, ti48, ti53, ti55, ti57, ti64]; refine hK _ _ ?_; clear hK K
        refine Wc.ret (thenD_ret ?_)
        exact Op.ret [.tmp 6] [.c (.p (.bool true))] rfl rfl (by simp only [resultsD, go_sem, ti3, ti9, ti4, ti35, ti22, ti23, ti24, ti26, ti32, ti34, ti39, ti45, ti48, ti53, ti55, ti57, ti64]) rfl
      | false =>
        rw [hg] at p7
        refine Wc.reg fun K hK => ?_; simp only [go_sem, ti3, ti9, ti4, ti35, ti22, ti23, ti24, ti26, ti32, ti34, ti39, ti45, ti48, ti53, ti55, ti57, ti64]
        refine wpCall.pf p7 (by kernel_rfl) (by kernel_rfl) rfl rfl ?_
        simp only [go_sem, ti3, ti9, ti4, ti35, ti22, ti23, ti24, ti26, ti32, ti34, ti39, ti45, ti48, ti53, ti55, ti57, ti64]; refine hK _ _ ?_; clear hK K
        refine Wc.cond (t := decide ((20 : Int) < more.length)) (by simp only [go_sem, ti3, ti9, ti4, ti35, ti22, ti23, ti24, ti26, ti32, ti34, ti39, ti45, ti48, ti53, ti55, ti57, ti64]) (fun _ => ?_) (fun hc => ?_)
        · refine Wc.seq ?_
          refine Wc.reg fun K hK => ?_; simp only [go_sem, ti3, ti9, ti4, ti35, ti22, ti23, ti24, ti26, ti32, ti34, ti39, ti45, ti48, ti53, ti55, ti57, ti64]
          refine wpCall.pf pf8 (by kernel_rfl) (by kernel_rfl) rfl rfl ?_
          simp only [go_sem, ti3, ti9, ti4, ti35, ti22, ti23, ti24, ti26, ti32, ti34, ti39, ti45, ti48, ti53, ti55, ti57, ti64]; refine hK _ _ ?_; clear hK K
          refine Wc.ret (thenD_ret ?_)
          exact Op.ret [.tmp 6] [.c (.p (.bool true))] rfl rfl (by simp only [resultsD, go_sem, ti3, ti9, ti4, ti35, ti22, ti23, ti24, ti26, ti32, ti34, ti39, ti45, ti48, ti53, ti55, ti57, ti64]) rfl
        · refine Wc.skip ⟨⟨rfl, by have := of_decide_eq_false hc; omega⟩, rfl, by simp only [Fs, Int.natCast_zero, go_sem, ti3, ti9, ti4, ti35, ti22, ti23, ti24, ti26, ti32, ti34, ti39, ti45, ti48, ti53, ti55, ti57, ti64], by (try simp only [St.nx_put, St.nx_adv]); repeat (first | exact OA.mono o00 (by omega) | refine OA.newB ?_ (by omega) rfl | refine OA.advB ?_)⟩
    rintro ⟨e, ds, s1⟩ ⟨⟨hg, hml⟩, rfl, hF, ho⟩
    simp only [Fs] at hF ho
    have hz := serG_sz hg
    have g0 := ho.at_ (0, .cells (x.pd.map .p) false) (by simp)
    simp only [List.map_cons, List.map_nil] at g0
    have p9 := pf9 x hz
    cases hd : encO x with
    | none =>
      obtain ⟨er, hne, he⟩ := encS_none hd
      rw [he] at p9
      refine Wc.seq ?_
      refine Wc.reg fun K hK => ?_; simp only [go_sem, ti3, ti9, ti4, ti35, ti22, ti23, ti24, ti26, ti32, ti34, ti39, ti45, ti48, ti53, ti55, ti57, ti64, hF, g0]
      refine wpCall.pf p9 (by kernel_rfl) (by kernel_rfl) rfl rfl ?_
      simp only [go_sem, ti3, ti9, ti4, ti35, ti22, ti23, ti24, ti26, ti32, ti34, ti39, ti45, ti48, ti53, ti55, ti57, ti64, hF, g0]; refine hK _ _ ?_; clear hK K
      refine Wc.seq (Wc.seq ?_)
      refine Wc.reg fun K hK => ?_; simp only [go_sem, ti3, ti9, ti4, ti35, ti22, ti23, ti24, ti26, ti32, ti34, ti39, ti45, ti48, ti53, ti55, ti57, ti64, hF]; refine hK _ _ ?_; clear hK K
      refine Wc.cond (t := true) (by simp only [go_sem, ti3, ti9, ti4, ti35, ti22, ti23, ti24, ti26, ti32, ti34, ti39, ti45, ti48, ti53, ti55, ti57, ti64, hF]; simp [hne]) (fun _ => ?_) (fun hc => by cases hc)
      refine Wc.seq ?_
      refine Wc.reg fun K hK => ?_; simp only [go_sem, ti3, ti9, ti4, ti35, ti22, ti23, ti24, ti26, ti32, ti34, ti39, ti45, ti48, ti53, ti55, ti57, ti64, hF]
      refine wpCall.pf pf8 (by kernel_rfl) (by kernel_rfl) rfl rfl ?_
      simp only [go_sem, ti3, ti9, ti4, ti35, ti22, ti23, ti24, ti26, ti32, ti34, ti39, ti45, ti48, ti53, ti55, ti57, ti64, hF]; refine hK _ _ ?_; clear hK K
      refine Wc.ret (thenD_ret ?_)
      exact Op.ret [.tmp 6] [.c (.p (.bool true))] rfl rfl (by simp only [resultsD, go_sem, ti3, ti9, ti4, ti35, ti22, ti23, ti24, ti26, ti32, ti34, ti39, ti45, ti48, ti53, ti55, ti57, ti64, hF]) rfl
    | some d =>
      rw [encS_some hd] at p9
      have hdp := encO_ne hd
      obtain ⟨_, _, _, _, _, hdl⟩ := encO_some hd
      have hcut := dec_cut hd (Nat.mod_lt q hdp) x.lb (serZ x)
      have hlb40 := hz.lb
      have pcut := pf12 x.lb hz.lb hz.ls (serZ x) (d.take (q % d.length)) (by rw [List.length_take]; omega)
      rw [hcut] at pcut
      have plong := pf12 x.lb hz.lb hz.ls (serZ x) (d ++ more) (by rw [List.length_append]; omega)
      obtain ⟨er2, hlong, her2⟩ : ∃ er2, (∃ y : Ser, ∃ p0 p1 p2 p3 : Pd, Pf E0 12 [chV 1 (.lst x.lb.length (x.lb.flatMap lbP)) (serZ x).pd (d ++ more)] (.tup [.agg [.p p0, .p p1, .p p2, .p p3], .c (.p (pI er2))])) ∧ (er2 == 0) = (more == []) := by
        by_cases hm : more = []
        · subst hm
          rw [List.append_nil, dec_enc hd] at plong
          rw [List.append_nil]
          exact ⟨0, ⟨x, _, _, _, _, plong⟩, rfl⟩
        · rw [dec_long hd hm] at plong
          exact ⟨12, ⟨x, _, _, _, _, plong⟩, by simp [hm]⟩
      obtain ⟨_, y0, y1, y2, y3, plong⟩ := hlong
      refine Wc.seqA (fun y => ∃ k, y.ds = [] ∧ Fs y.e 73 [(1, P' (.int .u16 (q : Nat))), (2, P' (.str more)), (3, .v (.c (.ref 0 0))), (7, .v (.c (.ref k 0))), (8, P' (pI 0))] ∧ OA y.s.nx y.s [] [(k, .cells ([.p (pI 1), .p (.lst x.lb.length (x.lb.flatMap lbP)), .p (pI (serZ x).c), .p (pI (serZ x).t1), .p (pI (serZ x).t2), .p (pI (serZ x).v1), .p (pI (serZ x).v2), .p (.int .u32 0), .p (.int .u32 0), .p (.int .u32 0), .p (.int .u32 0), .p (.int .u32 0), .p (.int .u32 0), .p (.int .u32 0), .p (.int .u32 0)] ++ [.p (.str d)]) false), (0, .cells (x.pd.map .p) false)]) ?_ ?_
      · refine Wc.reg fun K hK => ?_; simp only [go_sem, ti3, ti9, ti4, ti35, ti22, ti23, ti24, ti26, ti32, ti34, ti39, ti45, ti48, ti53, ti55, ti57, ti64, hF, g0]
        refine wpCall.pf p9 (by kernel_rfl) (by kernel_rfl) rfl rfl ?_
        simp only [go_sem, ti3, ti9, ti4, ti35, ti22, ti23, ti24, ti26, ti32, ti34, ti39, ti45, ti48, ti53, ti55, ti57, ti64, hF, g0]; refine hK _ _ ?_; clear hK K
        exact ⟨rfl, s1.nx + 5, rfl, by simp only [Fs, Int.natCast_zero, go_sem, ti3, ti9, ti4, ti35, ti22, ti23, ti24, ti26, ti32, ti34, ti39, ti45, ti48, ti53, ti55, ti57, ti64, hF], by (try simp only [St.nx_put, St.nx_adv]); repeat (first | exact OA.mono ho (by omega) | refine OA.newB ?_ (by omega) rfl | refine OA.advB ?_)⟩
      clear hF ho g0 e s1
      rintro ⟨e, ds, s1⟩ ⟨k, rfl, hF, ho⟩
      simp only [Fs] at hF ho
      have gk := ho.at_ (k, .cells ([.p (pI 1), .p (.lst x.lb.length (x.lb.flatMap lbP)), .p (pI (serZ x).c), .p (pI (serZ x).t1), .p (pI (serZ x).t2), .p (pI (serZ x).v1), .p (pI (serZ x).v2), .p (.int .u32 0), .p (.int .u32 0), .p (.int .u32 0), .p (.int .u32 0), .p (.int .u32 0), .p (.int .u32 0), .p (.int .u32 0), .p (.int .u32 0)] ++ [.p (.str d)]) false) (by simp)
      simp only [List.map_cons, List.map_nil, List.cons_append, List.nil_append] at gk
      refine Wc.seq (Wc.seq ?_)
      refine Wc.reg fun K hK => ?_; simp only [go_sem, ti3, ti9, ti4, ti35, ti22, ti23, ti24, ti26, ti32, ti34, ti39, ti45, ti48, ti53, ti55, ti57, ti64, hF]; refine hK _ _ ?_; clear hK K
      refine Wc.cond (t := false) (by simp only [go_sem, ti3, ti9, ti4, ti35, ti22, ti23, ti24, ti26, ti32, ti34, ti39, ti45, ti48, ti53, ti55, ti57, ti64, hF]; rfl) (fun hc => by cases hc) (fun _ => Wc.skip ?_)
      have hdne : (d == []) = false := by
        cases d with
        | nil => simp at hdp
        | cons a r => rfl
      refine Wc.seq (Wc.seq ?_)
      refine Wc.reg fun K hK => ?_; simp only [go_sem, ti3, ti9, ti4, ti35, ti22, ti23, ti24, ti26, ti32, ti34, ti39, ti45, ti48, ti53, ti55, ti57, ti64, hF, gk]; refine hK _ _ ?_; clear hK K
      refine Wc.cond (t := false) (by simp only [go_sem, ti3, ti9, ti4, ti35, ti22, ti23, ti24, ti26, ti32, ti34, ti39, ti45, ti48, ti53, ti55, ti57, ti64, hF, hdne]) (fun hc => by cases hc) (fun _ => Wc.skip ?_)
      refine Wc.seqA (fun y => ∃ k9 k10, y.ds = [] ∧ Fs y.e 73 [(1, P' (.int .u16 (q : Nat))), (2, P' (.str more)), (7, .v (.c (.ref k 0))), (9, .v (.c (.ref k9 0))), (10, .v (.c (.ref k10 0)))] ∧ OA y.s.nx y.s [] [(k10, .cells ([.p (pI 1), .p (.lst x.lb.length (x.lb.flatMap lbP)), .p (pI (serZ x).c), .p (pI (serZ x).t1), .p (pI (serZ x).t2), .p (pI (serZ x).v1), .p (pI (serZ x).v2), .p (.int .u32 0), .p (.int .u32 0), .p (.int .u32 0), .p (.int .u32 0), .p (.int .u32 0), .p (.int .u32 0), .p (.int .u32 0), .p (.int .u32 0)] ++ [.p (.str d)]) false), (k9, .cells ([.p (pI 1), .p (.lst x.lb.length (x.lb.flatMap lbP)), .p (pI (serZ x).c), .p (pI (serZ x).t1), .p (pI (serZ x).t2), .p (pI (serZ x).v1), .p (pI (serZ x).v2), .p (.int .u32 0), .p (.int .u32 0), .p (.int .u32 0), .p (.int .u32 0), .p (.int .u32 0), .p (.int .u32 0), .p (.int .u32 0), .p (.int .u32 0)] ++ [.p (.str d)]) false), (k, .cells ([.p (pI 1), .p (.lst x.lb.length (x.lb.flatMap lbP)), .p (pI (serZ x).c), .p (pI (serZ x).t1), .p (pI (serZ x).t2), .p (pI (serZ x).v1), .p (pI (serZ x).v2), .p (.int .u32 0), .p (.int .u32 0), .p (.int .u32 0), .p (.int .u32 0), .p (.int .u32 0), .p (.int .u32 0), .p (.int .u32 0), .p (.int .u32 0)] ++ [.p (.str d)]) false)]) ?_ ?_
      · have hlt := ho.lt gk
        have hn3 : k ≠ s1.nx + 7 := by omega
        have hn4 : k ≠ s1.nx + 8 := by omega
        have hn1 : (s1.nx + 1 = s1.nx) = False := by simp
        have hn2 : (s1.nx = s1.nx + 1) = False := by simp
        refine Wc.regT fun K hK => ?_; simp only [go_sem, ti3, ti9, ti4, ti35, ti22, ti23, ti24, ti26, ti32, ti34, ti39, ti45, ti48, ti53, ti55, ti57, ti64, hF, gk, hn1, hn2]; refine ⟨by rw [trOK_eq]; simp [trOK2, hasEdge, freeOK, keysOK, Region.binds, hn3, hn4], hK _ _ ?_⟩; clear hK K
        have hs := ho.sub (L1 := []) (M1 := [(k, .cells ([.p (pI 1), .p (.lst x.lb.length (x.lb.flatMap lbP)), .p (pI (serZ x).c), .p (pI (serZ x).t1), .p (pI (serZ x).t2), .p (pI (serZ x).v1), .p (pI (serZ x).v2), .p (.int .u32 0), .p (.int .u32 0), .p (.int .u32 0), .p (.int .u32 0), .p (.int .u32 0), .p (.int .u32 0), .p (.int .u32 0), .p (.int .u32 0)] ++ [.p (.str d)]) false)]) (List.Sublist.refl _) ((List.nil_sublist _).cons_cons _)
        refine ⟨rfl, s1.nx + 7, s1.nx + 8, rfl, by simp only [Fs, Int.natCast_zero, go_sem, ti3, ti9, ti4, ti35, ti22, ti23, ti24, ti26, ti32, ti34, ti39, ti45, ti48, ti53, ti55, ti57, ti64, hF], ?_⟩
        have oA : OA (s1.nx + 11) (((((s1.adv 2).adv 3).adv 6).put (s1.nx + 7) (.cells [.p (.int .i64 0), .nils, .p (.int .i64 0), .p (.int .i64 0), .p (.int .i64 0), .p (.int .i64 0), .p (.int .i64 0), .p (.int .u32 0), .p (.int .u32 0), .p (.int .u32 0), .p (.int .u32 0), .p (.int .u32 0), .p (.int .u32 0), .p (.int .u32 0), .p (.int .u32 0), .p (.str [])] false)).put (s1.nx + 8) (.cells [.p (.int .i64 0), .nils, .p (.int .i64 0), .p (.int .i64 0), .p (.int .i64 0), .p (.int .i64 0), .p (.int .i64 0), .p (.int .u32 0), .p (.int .u32 0), .p (.int .u32 0), .p (.int .u32 0), .p (.int .u32 0), .p (.int .u32 0), .p (.int .u32 0), .p (.int .u32 0), .p (.str [])] false)) [] [(s1.nx + 8, .cells [.p (.int .i64 0), .nils, .p (.int .i64 0), .p (.int .i64 0), .p (.int .i64 0), .p (.int .i64 0), .p (.int .i64 0), .p (.int .u32 0), .p (.int .u32 0), .p (.int .u32 0), .p (.int .u32 0), .p (.int .u32 0), .p (.int .u32 0), .p (.int .u32 0), .p (.int .u32 0), .p (.str [])] false), (s1.nx + 7, .cells [.p (.int .i64 0), .nils, .p (.int .i64 0), .p (.int .i64 0), .p (.int .i64 0), .p (.int .i64 0), .p (.int .i64 0), .p (.int .u32 0), .p (.int .u32 0), .p (.int .u32 0), .p (.int .u32 0), .p (.int .u32 0), .p (.int .u32 0), .p (.int .u32 0), .p (.int .u32 0), .p (.str [])] false), (k, .cells ([.p (pI 1), .p (.lst x.lb.length (x.lb.flatMap lbP)), .p (pI (serZ x).c), .p (pI (serZ x).t1), .p (pI (serZ x).t2), .p (pI (serZ x).v1), .p (pI (serZ x).v2), .p (.int .u32 0), .p (.int .u32 0), .p (.int .u32 0), .p (.int .u32 0), .p (.int .u32 0), .p (.int .u32 0), .p (.int .u32 0), .p (.int .u32 0)] ++ [.p (.str d)]) false)] := by (try simp only [St.nx_put, St.nx_adv]); repeat (first | exact OA.mono hs (by omega) | refine OA.newB ?_ (by omega) rfl | refine OA.advB ?_)
        have oB := OA.set (M1 := [(s1.nx + 8, .cells [.p (.int .i64 0), .nils, .p (.int .i64 0), .p (.int .i64 0), .p (.int .i64 0), .p (.int .i64 0), .p (.int .i64 0), .p (.int .u32 0), .p (.int .u32 0), .p (.int .u32 0), .p (.int .u32 0), .p (.int .u32 0), .p (.int .u32 0), .p (.int .u32 0), .p (.int .u32 0), .p (.str [])] false)]) (k := s1.nx + 7) (o' := .cells ([.p (pI 1), .p (.lst x.lb.length (x.lb.flatMap lbP)), .p (pI (serZ x).c), .p (pI (serZ x).t1), .p (pI (serZ x).t2), .p (pI (serZ x).v1), .p (pI (serZ x).v2), .p (.int .u32 0), .p (.int .u32 0), .p (.int .u32 0), .p (.int .u32 0), .p (.int .u32 0), .p (.int .u32 0), .p (.int .u32 0), .p (.int .u32 0)] ++ [.p (.str d)]) false) oA rfl
        have oC := OA.set (M1 := []) (k := s1.nx + 8) (o' := .cells ([.p (pI 1), .p (.lst x.lb.length (x.lb.flatMap lbP)), .p (pI (serZ x).c), .p (pI (serZ x).t1), .p (pI (serZ x).t2), .p (pI (serZ x).v1), .p (pI (serZ x).v2), .p (.int .u32 0), .p (.int .u32 0), .p (.int .u32 0), .p (.int .u32 0), .p (.int .u32 0), .p (.int .u32 0), .p (.int .u32 0), .p (.int .u32 0)] ++ [.p (.str d)]) false) oB rfl
        exact oC.mono (by first | (simp only [St.nx_put, St.nx_adv]; omega) | omega)
      clear hF ho gk e s1
      rintro ⟨e, ds, s1⟩ ⟨k9, k10, rfl, hF, ho⟩
      simp only [Fs] at hF ho
      have gk := ho.at_ (k, .cells ([.p (pI 1), .p (.lst x.lb.length (x.lb.flatMap lbP)), .p (pI (serZ x).c), .p (pI (serZ x).t1), .p (pI (serZ x).t2), .p (pI (serZ x).v1), .p (pI (serZ x).v2), .p (.int .u32 0), .p (.int .u32 0), .p (.int .u32 0), .p (.int .u32 0), .p (.int .u32 0), .p (.int .u32 0), .p (.int .u32 0), .p (.int .u32 0)] ++ [.p (.str d)]) false) (by simp)
      have g9 := ho.at_ (k9, .cells ([.p (pI 1), .p (.lst x.lb.length (x.lb.flatMap lbP)), .p (pI (serZ x).c), .p (pI (serZ x).t1), .p (pI (serZ x).t2), .p (pI (serZ x).v1), .p (pI (serZ x).v2), .p (.int .u32 0), .p (.int .u32 0), .p (.int .u32 0), .p (.int .u32 0), .p (.int .u32 0), .p (.int .u32 0), .p (.int .u32 0), .p (.int .u32 0)] ++ [.p (.str d)]) false) (by simp)
      simp only [List.map_cons, List.map_nil, List.cons_append, List.nil_append] at gk g9
      obtain ⟨r, hrr⟩ : ∃ r, q % d.length = r := ⟨_, rfl⟩
      have hr : r < d.length := hrr ▸ Nat.mod_lt q hdp
      rw [hrr] at hcut pcut
      have w1 : IntKind.i64.wrap (q : Int) = (q : Int) := by rw [wi64]; omega
      have d1 : ((d.length : Int) = 0) = False := by simp only [eq_iff_iff, iff_false]; omega
      have d2 : ((r : Int) ≤ (d.length : Int)) = True := by simp; omega
      refine Wc.seqA (fun y => y.ds = [] ∧ Fs y.e 73 [(2, P' (.str more)), (9, .v (.c (.ref k9 0))), (10, .v (.c (.ref k10 0)))] ∧ OA y.s.nx y.s [] [(k10, .cells ([.p (pI 1), .p (.lst x.lb.length (x.lb.flatMap lbP)), .p (pI (serZ x).c), .p (pI (serZ x).t1), .p (pI (serZ x).t2), .p (pI (serZ x).v1), .p (pI (serZ x).v2), .p (.int .u32 0), .p (.int .u32 0), .p (.int .u32 0), .p (.int .u32 0), .p (.int .u32 0), .p (.int .u32 0), .p (.int .u32 0), .p (.int .u32 0)] ++ [.p (.str d)]) false), (k9, .cells ([.p (pI 1), .p (.lst x.lb.length (x.lb.flatMap lbP)), .p (pI (serZ x).c), .p (pI (serZ x).t1), .p (pI (serZ x).t2), .p (pI (serZ x).v1), .p (pI (serZ x).v2), .p (.int .u32 0), .p (.int .u32 0), .p (.int .u32 0), .p (.int .u32 0), .p (.int .u32 0), .p (.int .u32 0), .p (.int .u32 0), .p (.int .u32 0)] ++ [.p (.str (d.take r))]) false)]) ?_ ?_
      · refine Wc.regT fun K hK => ?_; simp only [go_sem, ti3, ti9, ti4, ti35, ti22, ti23, ti24, ti26, ti32, ti34, ti39, ti45, ti48, ti53, ti55, ti57, ti64, hF, gk, g9, w1, d1, d2, tmodN, hrr, Nat.sub_zero]; refine ⟨by rw [trOK_eq]; rfl, hK _ _ ?_⟩; clear hK K
        refine ⟨rfl, rfl, by simp only [Fs, Int.natCast_zero, go_sem, ti3, ti9, ti4, ti35, ti22, ti23, ti24, ti26, ti32, ti34, ti39, ti45, ti48, ti53, ti55, ti57, ti64, hF], ?_⟩
        have hs := ho.sub (L1 := []) (M1 := [(k10, .cells ([.p (pI 1), .p (.lst x.lb.length (x.lb.flatMap lbP)), .p (pI (serZ x).c), .p (pI (serZ x).t1), .p (pI (serZ x).t2), .p (pI (serZ x).v1), .p (pI (serZ x).v2), .p (.int .u32 0), .p (.int .u32 0), .p (.int .u32 0), .p (.int .u32 0), .p (.int .u32 0), .p (.int .u32 0), .p (.int .u32 0), .p (.int .u32 0)] ++ [.p (.str d)]) false), (k9, .cells ([.p (pI 1), .p (.lst x.lb.length (x.lb.flatMap lbP)), .p (pI (serZ x).c), .p (pI (serZ x).t1), .p (pI (serZ x).t2), .p (pI (serZ x).v1), .p (pI (serZ x).v2), .p (.int .u32 0), .p (.int .u32 0), .p (.int .u32 0), .p (.int .u32 0), .p (.int .u32 0), .p (.int .u32 0), .p (.int .u32 0), .p (.int .u32 0)] ++ [.p (.str d)]) false)]) (List.Sublist.refl _) (((List.nil_sublist _).cons_cons _).cons_cons _)
        simp only [St.nx_put, St.nx_adv]; (repeat refine OA.advB ?_); refine OA.ofS (M1 := [(k10, .cells ([.p (pI 1), .p (.lst x.lb.length (x.lb.flatMap lbP)), .p (pI (serZ x).c), .p (pI (serZ x).t1), .p (pI (serZ x).t2), .p (pI (serZ x).v1), .p (pI (serZ x).v2), .p (.int .u32 0), .p (.int .u32 0), .p (.int .u32 0), .p (.int .u32 0), .p (.int .u32 0), .p (.int .u32 0), .p (.int .u32 0), .p (.int .u32 0)] ++ [.p (.str d)]) false)]) (M2 := []) (k := k9) (o' := .cells ([.p (pI 1), .p (.lst x.lb.length (x.lb.flatMap lbP)), .p (pI (serZ x).c), .p (pI (serZ x).t1), .p (pI (serZ x).t2), .p (pI (serZ x).v1), .p (pI (serZ x).v2), .p (.int .u32 0), .p (.int .u32 0), .p (.int .u32 0), .p (.int .u32 0), .p (.int .u32 0), .p (.int .u32 0), .p (.int .u32 0), .p (.int .u32 0)] ++ [.p (.str (d.take r))]) false) ?_; repeat (first | exact ⟨_, OA.mono hs (by omega)⟩ | refine OAs.adv ?_ | refine OAs.put ?_)
      clear hF ho gk g9 e s1
      rintro ⟨e, ds, s1⟩ ⟨rfl, hF, ho⟩
      simp only [Fs] at hF ho
      have g10 := ho.at_ (k10, .cells ([.p (pI 1), .p (.lst x.lb.length (x.lb.flatMap lbP)), .p (pI (serZ x).c), .p (pI (serZ x).t1), .p (pI (serZ x).t2), .p (pI (serZ x).v1), .p (pI (serZ x).v2), .p (.int .u32 0), .p (.int .u32 0), .p (.int .u32 0), .p (.int .u32 0), .p (.int .u32 0), .p (.int .u32 0), .p (.int .u32 0), .p (.int .u32 0)] ++ [.p (.str d)]) false) (by simp)
      simp only [List.map_cons, List.map_nil, List.cons_append, List.nil_append] at g10
      have d3 : (9223372036854775807 < d.length + more.length) = False := by simp; omega
      refine Wc.seqA (fun y => y.ds = [] ∧ Fs y.e 73 [(2, P' (.str more)), (9, .v (.c (.ref k9 0))), (10, .v (.c (.ref k10 0)))] ∧ OA y.s.nx y.s [] [(k10, .cells ([.p (pI 1), .p (.lst x.lb.length (x.lb.flatMap lbP)), .p (pI (serZ x).c), .p (pI (serZ x).t1), .p (pI (serZ x).t2), .p (pI (serZ x).v1), .p (pI (serZ x).v2), .p (.int .u32 0), .p (.int .u32 0), .p (.int .u32 0), .p (.int .u32 0), .p (.int .u32 0), .p (.int .u32 0), .p (.int .u32 0), .p (.int .u32 0)] ++ [.p (.str (d ++ more))]) false), (k9, .cells ([.p (pI 1), .p (.lst x.lb.length (x.lb.flatMap lbP)), .p (pI (serZ x).c), .p (pI (serZ x).t1), .p (pI (serZ x).t2), .p (pI (serZ x).v1), .p (pI (serZ x).v2), .p (.int .u32 0), .p (.int .u32 0), .p (.int .u32 0), .p (.int .u32 0), .p (.int .u32 0), .p (.int .u32 0), .p (.int .u32 0), .p (.int .u32 0)] ++ [.p (.str (d.take r))]) false)]) ?_ ?_
      · refine Wc.reg fun K hK => ?_; simp only [go_sem, ti3, ti9, ti4, ti35, ti22, ti23, ti24, ti26, ti32, ti34, ti39, ti45, ti48, ti53, ti55, ti57, ti64, hF, g10, d3]; refine hK _ _ ?_; clear hK K
        refine ⟨rfl, rfl, by simp only [Fs, Int.natCast_zero, go_sem, ti3, ti9, ti4, ti35, ti22, ti23, ti24, ti26, ti32, ti34, ti39, ti45, ti48, ti53, ti55, ti57, ti64, hF], ?_⟩
        simp only [St.nx_put, St.nx_adv]; (repeat refine OA.advB ?_); refine OA.ofS (M1 := []) ?_; repeat (first | exact ⟨_, OA.mono ho (by omega)⟩ | refine OAs.adv ?_ | refine OAs.put ?_)
      clear hF ho g10 e s1
      rintro ⟨e, ds, s1⟩ ⟨rfl, hF, ho⟩
      simp only [Fs] at hF ho
      have g9 := ho.at_ (k9, .cells ([.p (pI 1), .p (.lst x.lb.length (x.lb.flatMap lbP)), .p (pI (serZ x).c), .p (pI (serZ x).t1), .p (pI (serZ x).t2), .p (pI (serZ x).v1), .p (pI (serZ x).v2), .p (.int .u32 0), .p (.int .u32 0), .p (.int .u32 0), .p (.int .u32 0), .p (.int .u32 0), .p (.int .u32 0), .p (.int .u32 0), .p (.int .u32 0)] ++ [.p (.str (d.take r))]) false) (by simp)
      simp only [List.map_cons, List.map_nil, List.cons_append, List.nil_append] at g9
      refine Wc.seqA (fun y => y.ds = [] ∧ Fs y.e 73 [(2, P' (.str more)), (10, .v (.c (.ref k10 0))), (12, P' (pI 12))] ∧ OA y.s.nx y.s [] [(k10, .cells ([.p (pI 1), .p (.lst x.lb.length (x.lb.flatMap lbP)), .p (pI (serZ x).c), .p (pI (serZ x).t1), .p (pI (serZ x).t2), .p (pI (serZ x).v1), .p (pI (serZ x).v2), .p (.int .u32 0), .p (.int .u32 0), .p (.int .u32 0), .p (.int .u32 0), .p (.int .u32 0), .p (.int .u32 0), .p (.int .u32 0), .p (.int .u32 0)] ++ [.p (.str (d ++ more))]) false)]) ?_ ?_
      · refine Wc.reg fun K hK => ?_; simp only [go_sem, ti3, ti9, ti4, ti35, ti22, ti23, ti24, ti26, ti32, ti34, ti39, ti45, ti48, ti53, ti55, ti57, ti64, hF, g9]
        refine wpCall.pf pcut (by kernel_rfl) (by kernel_rfl) rfl rfl ?_
        simp only [decD]
        simp only [go_sem, ti3, ti9, ti4, ti35, ti22, ti23, ti24, ti26, ti32, ti34, ti39, ti45, ti48, ti53, ti55, ti57, ti64, hF, g9]; refine hK _ _ ?_; clear hK K
        refine ⟨rfl, rfl, by simp only [Fs, Int.natCast_zero, go_sem, ti3, ti9, ti4, ti35, ti22, ti23, ti24, ti26, ti32, ti34, ti39, ti45, ti48, ti53, ti55, ti57, ti64, hF], ?_⟩
        have hs := ho.sub (L1 := []) (M1 := [(k10, .cells ([.p (pI 1), .p (.lst x.lb.length (x.lb.flatMap lbP)), .p (pI (serZ x).c), .p (pI (serZ x).t1), .p (pI (serZ x).t2), .p (pI (serZ x).v1), .p (pI (serZ x).v2), .p (.int .u32 0), .p (.int .u32 0), .p (.int .u32 0), .p (.int .u32 0), .p (.int .u32 0), .p (.int .u32 0), .p (.int .u32 0), .p (.int .u32 0)] ++ [.p (.str (d ++ more))]) false)]) (List.Sublist.refl _) ((List.nil_sublist _).cons_cons _)
        exact OA.sub (M := (s1.nx + 5, .cells [.p (.lst 0 []), .p (pI 0), .p (.lst 0 []), .p (.lst 0 [])] false) :: [(k10, .cells ([.p (pI 1), .p (.lst x.lb.length (x.lb.flatMap lbP)), .p (pI (serZ x).c), .p (pI (serZ x).t1), .p (pI (serZ x).t2), .p (pI (serZ x).v1), .p (pI (serZ x).v2), .p (.int .u32 0), .p (.int .u32 0), .p (.int .u32 0), .p (.int .u32 0), .p (.int .u32 0), .p (.int .u32 0), .p (.int .u32 0), .p (.int .u32 0)] ++ [.p (.str (d ++ more))]) false)]) (by (try simp only [St.nx_put, St.nx_adv]); repeat (first | exact OA.mono hs (by omega) | refine OA.newB ?_ (by omega) rfl | refine OA.advB ?_)) (List.Sublist.refl _) (List.sublist_cons_self _ _)
      clear hF ho g9 e s1
      rintro ⟨e, ds, s1⟩ ⟨rfl, hF, ho⟩
      simp only [Fs] at hF ho
      have g10 := ho.at_ (k10, .cells ([.p (pI 1), .p (.lst x.lb.length (x.lb.flatMap lbP)), .p (pI (serZ x).c), .p (pI (serZ x).t1), .p (pI (serZ x).t2), .p (pI (serZ x).v1), .p (pI (serZ x).v2), .p (.int .u32 0), .p (.int .u32 0), .p (.int .u32 0), .p (.int .u32 0), .p (.int .u32 0), .p (.int .u32 0), .p (.int .u32 0), .p (.int .u32 0)] ++ [.p (.str (d ++ more))]) false) (by simp)
      simp only [List.map_cons, List.map_nil, List.cons_append, List.nil_append] at g10
      refine Wc.seq ?_
      refine Wc.reg fun K hK => ?_; simp only [go_sem, ti3, ti9, ti4, ti35, ti22, ti23, ti24, ti26, ti32, ti34, ti39, ti45, ti48, ti53, ti55, ti57, ti64, hF, g10]
      refine wpCall.pf plong (by kernel_rfl) (by kernel_rfl) rfl rfl ?_
      simp only [go_sem, ti3, ti9, ti4, ti35, ti22, ti23, ti24, ti26, ti32, ti34, ti39, ti45, ti48, ti53, ti55, ti57, ti64, hF, g10]; refine hK _ _ ?_; clear hK K
      refine Wc.seq ?_
      refine Wc.reg fun K hK => ?_; simp only [go_sem, ti3, ti9, ti4, ti35, ti22, ti23, ti24, ti26, ti32, ti34, ti39, ti45, ti48, ti53, ti55, ti57, ti64, hF, her2]
      refine wpCall.pf pf8 (by kernel_rfl) (by kernel_rfl) rfl rfl ?_
      simp only [go_sem, ti3, ti9, ti4, ti35, ti22, ti23, ti24, ti26, ti32, ti34, ti39, ti45, ti48, ti53, ti55, ti57, ti64, hF]; refine hK _ _ ?_; clear hK K
      exact Wc.ret (Op.ret [.tmp 6] [.c (.p (.bool true))] rfl rfl (by simp only [resultsD, go_sem, ti3, ti9, ti4, ti35, ti22, ti23, ti24, ti26, ti32, ti34, ti39, ti45, ti48, ti53, ti55, ti57, ti64, hF]) rfl)
  obtain ⟨n, d, s', h1, h2⟩ := Ev.body (g := 4) (args := [V.agg (x.pd.map .p), V.c (.p (.int .u16 (q : Nat))), V.c (.p (.str more))]) (by kernel_rfl) rfl main
  subst h2
  exact ⟨s', n + 1, h1⟩
end Go.Proofs.YtafaoldmemcigaaGreat.Ab
