/- A part of the proof: an evaluator of the code, its contracts, the law. No condition. -/
import Derived.Test.YtafaoldmemcigaaGreatT27
namespace Go.Proofs.YtafaoldmemcigaaGreat.Ab
set_option maxHeartbeats 16000000
set_option maxRecDepth 10000
set_option linter.unusedSimpArgs false
set_option linter.unusedVariables false
theorem o28 : E0.opn 28 = false := by kernel_rfl
theorem x28 : E0.xt 28 = none := by kernel_rfl
theorem o29 : E0.opn 29 = false := by kernel_rfl
theorem x29 : E0.xt 29 = none := by kernel_rfl
theorem o30 : E0.opn 30 = false := by kernel_rfl
theorem x30 : E0.xt 30 = none := by kernel_rfl
theorem o32 : E0.opn 32 = false := by kernel_rfl
theorem x32 : E0.xt 32 = none := by kernel_rfl
theorem o33 : E0.opn 33 = false := by kernel_rfl
theorem x33 : E0.xt 33 = none := by kernel_rfl
theorem o34 : E0.opn 34 = false := by kernel_rfl
theorem x34 : E0.xt 34 = none := by kernel_rfl
theorem o35 : E0.opn 35 = false := by kernel_rfl
theorem x35 : E0.xt 35 = none := by kernel_rfl
/-- A slice of numbers of one's own. -/
abbrev slI (c : C) (W : List Int) : Nat × D × Nat × List Pd := (1, .v (.c c), W.length, W.map pI)
/-- One more number behind it. -/
theorem OA.appI {b : Nat} {s : St} {L1 L2 : List (Nat × D × Nat × List Pd)} {M : List (Nat × Ob)} {key k1 : Nat} {c : C} {W : List Int} {v : Int} {K : D → St → Prop} (h : OA b s (L1 ++ slI c W :: L2) M) (h1 : b ≤ k1) (h2 : k1 < key) (hb : W.length ≤ 4294967296)
    (hK : ∀ c' s', OA (key + 1) s' (L1 ++ slI c' (W ++ [v]) :: L2) M → s'.nx = s.nx → K (.v (.c c')) s') : stepK (appendD E0 key [77, 77] (.v (.c c)) (.v (.c (.own 1 [.int .i64 v] k1))) (s.put k1 (.front 1 1 0))) K := by
  refine OA.app (L1 := L1) (L2 := L2) (by_ := 8) (n := W.length) (m := 1) (ys := [pI v]) (OA.put h h1) (by omega) ⟨_, ti77, rfl⟩ ti3 rfl rfl rfl (by decide) (by decide) (by simp only [go_sem, ti3, ti9, ti4, ti35, ti22, ti23, ti24, ti26, ti32, ti34, ti45, ti48, ti53, ti55, ti57, ti75, ti77, ti83]) rfl (by omega) fun x' s' ho hnx => ?_
  obtain ⟨c', rfl⟩ := (ho.own (1, x', W.length + 1, _) (List.mem_append_right _ (List.mem_cons_self ..))).v
  refine hK c' s' ?_ hnx
  simpa only [slI, List.length_append, List.map_append, List.length_cons, List.length_nil, List.map_cons, List.map_nil] using ho
theorem Own.plain {s : St} {es n : Nat} {c : C} {cs : List Pd} (h : Own s es (.v (.c c)) n cs) : plainC c = true := by
  obtain ⟨_, h2⟩ := h
  rcases h2 with ⟨h2, _⟩ | ⟨id, h2, _⟩ <;> cases h2 <;> rfl
theorem encC_cases (sig : Int) (lab : Pd) (z : List Pd) (t : List UInt8) (cs : List (List UInt8 × Int)) : encC sig lab z t cs = .tup [noCh, .c (.p (pI 4))] ∨ ∃ d, encC sig lab z t cs = .tup [chV sig lab z d, .c (.p (pI 0))] := by
  unfold encC
  split
  · exact .inl rfl
  · unfold finE
    split
    · exact .inl rfl
    · exact .inr ⟨_, rfl⟩
theorem appV_le (t : List UInt8) (n : Int) : (appV t n).1.length ≤ t.length + 10 := by
  unfold appV
  split
  · simp
  · have := vb_len10 (n := n.toNat) (by omega)
    show (t ++ vb n.toNat).length ≤ _
    rw [List.length_append]; omega
theorem partW_le (w : List UInt8 × Int) (t : List UInt8) (e : Int) : (partW w t e).1.length ≤ w.1.length + t.length + 10 := by
  unfold partW
  split
  · omega
  · split
    · simp
    · have := appV_le w.1 t.length
      show ((appV w.1 t.length).1 ++ t).length ≤ _
      rw [List.length_append]; omega
theorem encT_le (l : List Int) : (encT l).1.length ≤ 40 + 20 * l.length := by
  by_cases h : (encT l).2 = 0
  · exact encT_len h
  · unfold encT at *
    split
    · rename_i h1; rw [if_pos h1] at h; exact absurd rfl h
    · simp
theorem encV_le (l : List Int) : (encV l).1.length ≤ 40 + 20 * l.length := by
  by_cases h : (encV l).2 = 0
  · exact encV_len2 h
  · unfold encV at *
    split
    · simp
    · rename_i h1
      rw [if_neg h1] at h
      split
      · rename_i h2; rw [if_pos h2] at h; exact absurd rfl h
      · simp
theorem encI_le (l : List Int) : (encI l).1.length ≤ 40 + 20 * l.length := by
  by_cases h : (encI l).2 = 0
  · exact encI_len2 h
  · unfold encI at *
    split
    · simp
    · rename_i h1
      rw [if_neg h1] at h
      split
      · rename_i h2; rw [if_pos h2] at h; exact absurd rfl h
      · simp
def trOKe (ops : Array Oper) : List Tr → Bool
  | [] => true
  | x :: r => r.all (fun y => (x.cls == 0 || y.cls == 0 || (decide (x.cls ≤ 3) && decide (y.cls ≤ 3))) || hasEdge ops y.i x.i) && trOKe ops r
theorem trOK_of {ops : Array Oper} : ∀ {t : List Tr}, trOKe ops t = true → trOK ops t = true
  | [], _ => rfl
  | x :: r, h => by
    simp only [trOKe, Bool.and_eq_true, List.all_eq_true] at h
    simp only [trOK, Bool.and_eq_true, List.all_eq_true]
    refine ⟨fun y hy => ?_, trOK_of h.2⟩
    have h1 := h.1 y hy
    unfold pairOK freeOK
    rw [Bool.or_eq_true] at h1 ⊢
    rcases h1 with h1 | h1
    · left; rw [h1, Bool.true_or]
    · exact .inr h1
/-- 10: the reference's Encode -/
theorem pf10 (x : Ser) (z : x.Sz) : Pf E0 10 [.agg (x.pd.map .p)] (encS x) := by
  have hflh : (x.hs.flatMap HSm.pd).length = x.hs.length * 7 := flat_len (k := 7) (fun _ => rfl) x.hs
  have hfls : (x.sm.flatMap p2).length = x.sm.length * 2 := flat_len (k := 2) (fun _ => rfl) x.sm
  refine Pf.body (fn := Tryz.f10) (by kernel_rfl) rfl ?_; simp only [List.map_cons, List.map_nil, List.cons_append, List.nil_append, List.length_cons, List.length_nil, Tryz.ntmps10, List.replicate, Nat.reduceSub, Nat.reduceAdd]
  refine Wc.seq ?_
  refine Wc.reg fun K hK => ?_; simp only [go_sem, ti3, ti9, ti4, ti35, ti22, ti23, ti24, ti26, ti32, ti34, ti45, ti48, ti53, ti55, ti57, ti75, ti77, ti83]; refine hK _ _ ?_; clear hK K
  refine Wc.seqR (fun y => serOK x = true ∧ y.ds = [] ∧ y.e.length = 215 ∧ y.e.getD 1 .junk = .v (.c (.ref 0 0)) ∧ y.e.getD 2 .junk = .v (.c (.ref 1 0)) ∧ OA y.s.nx y.s [] [(1, .cells [.p (pI 0), .nils, .p (pI 0), .p (pI 0), .p (pI 0), .p (pI 0), .p (pI 0), .p (.int .u32 0), .p (.int .u32 0), .p (.int .u32 0), .p (.int .u32 0), .p (.int .u32 0), .p (.int .u32 0), .p (.int .u32 0), .p (.int .u32 0), .p (.str [])] false), (0, .cells (x.pd.map .p) false)] ∧ y.s.nx = 6) ?_ ?_
  · refine Wc.seq ?_
    refine Wc.reg fun K hK => ?_; simp only [go_sem, ti3, ti9, ti4, ti35, ti22, ti23, ti24, ti26, ti32, ti34, ti45, ti48, ti53, ti55, ti57, ti75, ti77, ti83]
    refine wpCall.pf (pf28 x z) (by kernel_rfl) (by kernel_rfl) rfl rfl ?_
    simp only [go_sem, ti3, ti9, ti4, ti35, ti22, ti23, ti24, ti26, ti32, ti34, ti45, ti48, ti53, ti55, ti57, ti75, ti77, ti83]; refine hK _ _ ?_; clear hK K
    refine Wc.cond (t := !(serOK x)) (by simp only [go_sem, ti3, ti9, ti4, ti35, ti22, ti23, ti24, ti26, ti32, ti34, ti45, ti48, ti53, ti55, ti57, ti75, ti77, ti83]) (fun hc => ?_) (fun hc => ?_)
    · have hb : serOK x = false := by simpa using hc
      have e : encS x = .tup [noCh, .c (.p (pI 1))] := by unfold encS; rw [if_pos hb]
      rw [e]
      refine Wc.seq ?_
      refine Wc.reg fun K hK => ?_; simp only [go_sem, ti3, ti9, ti4, ti35, ti22, ti23, ti24, ti26, ti32, ti34, ti45, ti48, ti53, ti55, ti57, ti75, ti77, ti83]; refine hK _ _ ?_; clear hK K
      exact Wc.ret (Pf.ret [.cell 2 34, .tmp 3] [.agg ([.p (pI 0), .nils] ++ zz0.map .p ++ [.p (.str [])]), .c (.p (pI 1))] rfl rfl (by simp only [resultsD, go_sem, ti3, ti9, ti4, ti35, ti22, ti23, ti24, ti26, ti32, ti34, ti45, ti48, ti53, ti55, ti57, ti75, ti77, ti83]) rfl)
    · have hb : serOK x = true := by simpa using hc
      refine Wc.skip ⟨hb, rfl, rfl, rfl, rfl, ?_, by simp only [St.nx_adv, St.nx_put]⟩
      have o0 := ((s00_oa.adv (n := 3)).new (k := 0) (o := .cells (x.pd.map .p) false) (Nat.le_refl _) rfl).new (k := 1) (o := .cells [.p (pI 0), .nils, .p (pI 0), .p (pI 0), .p (pI 0), .p (pI 0), .p (pI 0), .p (.int .u32 0), .p (.int .u32 0), .p (.int .u32 0), .p (.int .u32 0), .p (.int .u32 0), .p (.int .u32 0), .p (.int .u32 0), .p (.int .u32 0), .p (.str [])] false) (by decide) rfl
      refine OA.mono (b := 1 + 1) ?_ (by simp only [St.nx_adv, St.nx_put]; omega)
      repeat refine OA.adv ?_
      exact o0
  rintro ⟨e, ds, s1⟩ ⟨hok, rfl, hlen, h1, h2, ho, hn⟩
  simp only at hlen h1 h2 ho hn
  have eS : encS x = encC 1 (.lst x.lb.length (x.lb.flatMap lbP)) (serZ x).pd (appV [] x.k).1 (serCs x) := by unfold encS; rw [if_neg (by rw [hok]; decide)]
  rw [eS]
  have a10 := appV_le [] x.k
  simp only [List.length_nil, Nat.zero_add] at a10
  refine Wc.seqA (fun y => y.ds = [] ∧ y.e.length = 215 ∧ y.e.getD 1 .junk = .v (.c (.ref 0 0)) ∧ y.e.getD 2 .junk = .v (.c (.ref 1 0)) ∧ y.e.getD 4 .junk = .v (.c (.ref 7 0)) ∧ OA y.s.nx y.s [] [(7, .cells ((Zo.none).pd.map .p) false), (1, .cells [.p (pI 0), .nils, .p (pI 0), .p (pI 0), .p (pI 0), .p (pI 0), .p (pI 0), .p (.int .u32 0), .p (.int .u32 0), .p (.int .u32 0), .p (.int .u32 0), .p (.int .u32 0), .p (.int .u32 0), .p (.int .u32 0), .p (.int .u32 0), .p (.str [])] false), (0, .cells (x.pd.map .p) false)] ∧ y.s.nx = 9) ?_ ?_
  · refine Wc.reg fun K hK => ?_; simp only [go_sem, ti3, ti9, ti4, ti35, ti22, ti23, ti24, ti26, ti32, ti34, ti45, ti48, ti53, ti55, ti57, ti75, ti77, ti83, hlen, h1, h2, hn]; refine hK _ _ ?_; clear hK K
    refine ⟨rfl, rfl, by simp only [go_sem, ti3, ti9, ti4, ti35, ti22, ti23, ti24, ti26, ti32, ti34, ti45, ti48, ti53, ti55, ti57, ti75, ti77, ti83, hlen], by simp only [go_sem, ti3, ti9, ti4, ti35, ti22, ti23, ti24, ti26, ti32, ti34, ti45, ti48, ti53, ti55, ti57, ti75, ti77, ti83, hlen, h1], by simp only [go_sem, ti3, ti9, ti4, ti35, ti22, ti23, ti24, ti26, ti32, ti34, ti45, ti48, ti53, ti55, ti57, ti75, ti77, ti83, hlen, h2], by simp only [go_sem, ti3, ti9, ti4, ti35, ti22, ti23, ti24, ti26, ti32, ti34, ti45, ti48, ti53, ti55, ti57, ti75, ti77, ti83, hlen], ?_, by simp only [St.nx_put, St.nx_adv, hn]⟩
    have q1 := OA.set (M1 := []) (o' := .cells (Zo.none.pd.map .p) false) ((ho.adv (n := 3)).new (k := 7) (o := .cells (Zo.none.pd.map .p) false) (by omega) rfl) rfl
    exact q1.mono (by simp only [St.nx_put, St.nx_adv]; omega)
  clear hlen h1 h2 ho hn e s1
  rintro ⟨e, ds, s1⟩ ⟨rfl, hlen, h1, h2, h4, ho, hn⟩
  simp only at hlen h1 h2 h4 ho hn
  refine Wc.seqA (fun y => y.ds = [] ∧ y.e.length = 215 ∧ y.e.getD 1 .junk = .v (.c (.ref 0 0)) ∧ y.e.getD 2 .junk = .v (.c (.ref 1 0)) ∧ y.e.getD 4 .junk = .v (.c (.ref 7 0)) ∧ y.e.getD 5 .junk = .v (.c (.ref 13 0)) ∧ OA y.s.nx y.s [] [(13, .cells [.p (.str (appV [] x.k).1), .p (pI 0)] false), (7, .cells ((Zo.none).pd.map .p) false), (1, .cells [.p (pI 0), .nils, .p (pI 0), .p (pI 0), .p (pI 0), .p (pI 0), .p (pI 0), .p (.int .u32 0), .p (.int .u32 0), .p (.int .u32 0), .p (.int .u32 0), .p (.int .u32 0), .p (.int .u32 0), .p (.int .u32 0), .p (.int .u32 0), .p (.str [])] false), (0, .cells (x.pd.map .p) false)]) ?_ ?_
  · have g0 := ho.at_ (0, .cells (x.pd.map .p) false) (by simp)
    simp only [List.map_cons, List.map_nil] at g0
    refine Wc.reg fun K hK => ?_; simp only [go_sem, ti3, ti9, ti4, ti35, ti22, ti23, ti24, ti26, ti32, ti34, ti45, ti48, ti53, ti55, ti57, ti75, ti77, ti83, hlen, h1, h2, h4, g0, hn]
    refine wpCall.pf (pf29 [] 0 x.k (by simp)) (by kernel_rfl) (by kernel_rfl) rfl rfl ?_
    simp only [go_sem, ti3, ti9, ti4, ti35, ti22, ti23, ti24, ti26, ti32, ti34, ti45, ti48, ti53, ti55, ti57, ti75, ti77, ti83, hlen, h1, h2, h4, g0, hn]; refine hK _ _ ?_; clear hK K
    refine ⟨rfl, rfl, by simp only [go_sem, ti3, ti9, ti4, ti35, ti22, ti23, ti24, ti26, ti32, ti34, ti45, ti48, ti53, ti55, ti57, ti75, ti77, ti83, hlen], by simp only [go_sem, ti3, ti9, ti4, ti35, ti22, ti23, ti24, ti26, ti32, ti34, ti45, ti48, ti53, ti55, ti57, ti75, ti77, ti83, hlen, h1], by simp only [go_sem, ti3, ti9, ti4, ti35, ti22, ti23, ti24, ti26, ti32, ti34, ti45, ti48, ti53, ti55, ti57, ti75, ti77, ti83, hlen, h2], by simp only [go_sem, ti3, ti9, ti4, ti35, ti22, ti23, ti24, ti26, ti32, ti34, ti45, ti48, ti53, ti55, ti57, ti75, ti77, ti83, hlen, h4], by simp only [go_sem, ti3, ti9, ti4, ti35, ti22, ti23, ti24, ti26, ti32, ti34, ti45, ti48, ti53, ti55, ti57, ti75, ti77, ti83, hlen], ?_⟩
    have q1 := OA.set (M1 := []) (o' := .cells [.p (.str (appV [] x.k).1), .p (pI 0)] false) ((ho.adv (n := 6)).new (k := 13) (o := .cells [.p (.str []), .p (.int .i64 0)] false) (by omega) rfl) rfl
    exact q1.mono (by simp only [St.nx_put, St.nx_adv]; omega)
  clear hlen h1 h2 h4 ho hn e s1
  rintro ⟨e, ds, s1⟩ ⟨rfl, hlen, h1, h2, h4, h5, ho⟩
  simp only at hlen h1 h2 h4 h5 ho
  refine Wc.seqA (fun y => ∃ c6, y.ds = [] ∧ y.e.length = 215 ∧ y.e.getD 1 .junk = .v (.c (.ref 0 0)) ∧ y.e.getD 2 .junk = .v (.c (.ref 1 0)) ∧ y.e.getD 4 .junk = .v (.c (.ref 7 0)) ∧ y.e.getD 5 .junk = .v (.c (.ref 13 0)) ∧ y.e.getD 6 .junk = .v (.c c6) ∧ OA y.s.nx y.s [slI c6 []] [(13, .cells [.p (.str (appV [] x.k).1), .p (pI 0)] false), (7, .cells ((Zo.none).pd.map .p) false), (1, .cells [.p (pI 0), .nils, .p (pI 0), .p (pI 0), .p (pI 0), .p (pI 0), .p (pI 0), .p (.int .u32 0), .p (.int .u32 0), .p (.int .u32 0), .p (.int .u32 0), .p (.int .u32 0), .p (.int .u32 0), .p (.int .u32 0), .p (.int .u32 0), .p (.str [])] false), (0, .cells (x.pd.map .p) false)]) ?_ ?_
  · refine Wc.reg fun K hK => ?_; simp only [go_sem, ti3, ti9, ti4, ti35, ti22, ti23, ti24, ti26, ti32, ti34, ti45, ti48, ti53, ti55, ti57, ti75, ti77, ti83, hlen, h1, h2, h4, h5]; refine hK _ _ ?_; clear hK K
    refine ⟨rfl, .own 0 [] s1.nx, rfl, by simp only [go_sem, ti3, ti9, ti4, ti35, ti22, ti23, ti24, ti26, ti32, ti34, ti45, ti48, ti53, ti55, ti57, ti75, ti77, ti83, hlen], by simp only [go_sem, ti3, ti9, ti4, ti35, ti22, ti23, ti24, ti26, ti32, ti34, ti45, ti48, ti53, ti55, ti57, ti75, ti77, ti83, hlen, h1], by simp only [go_sem, ti3, ti9, ti4, ti35, ti22, ti23, ti24, ti26, ti32, ti34, ti45, ti48, ti53, ti55, ti57, ti75, ti77, ti83, hlen, h2], by simp only [go_sem, ti3, ti9, ti4, ti35, ti22, ti23, ti24, ti26, ti32, ti34, ti45, ti48, ti53, ti55, ti57, ti75, ti77, ti83, hlen, h4], by simp only [go_sem, ti3, ti9, ti4, ti35, ti22, ti23, ti24, ti26, ti32, ti34, ti45, ti48, ti53, ti55, ti57, ti75, ti77, ti83, hlen, h5], by simp only [go_sem, ti3, ti9, ti4, ti35, ti22, ti23, ti24, ti26, ti32, ti34, ti45, ti48, ti53, ti55, ti57, ti75, ti77, ti83, hlen], ?_⟩
    exact ((ho.adv (n := 2)).front (k := s1.nx) (es := 1) (n := 0) (cs := []) (Nat.le_refl _) rfl).mono (by simp only [St.nx_put, St.nx_adv]; omega)
  clear hlen h1 h2 h4 h5 ho e s1
  rintro ⟨e, ds, s1⟩ ⟨c6, rfl, hlen, h1, h2, h4, h5, h6, ho⟩
  simp only at hlen h1 h2 h4 h5 h6 ho
  have g0 := ho.at_ (0, .cells (x.pd.map .p) false) (by simp)
  simp only [List.map_cons, List.map_nil] at g0
  refine Wc.seqR (fun y => x.k = 3 ∧ y.ds = [] ∧ y.e.length = 215 ∧ y.e.getD 1 .junk = .v (.c (.ref 0 0)) ∧ y.e.getD 2 .junk = .v (.c (.ref 1 0)) ∧ y.e.getD 4 .junk = .v (.c (.ref 7 0)) ∧ y.e.getD 5 .junk = .v (.c (.ref 13 0)) ∧ y.e.getD 6 .junk = .v (.c c6) ∧ OA y.s.nx y.s [slI c6 []] [(13, .cells [.p (.str (appV [] x.k).1), .p (pI 0)] false), (7, .cells ((Zo.none).pd.map .p) false), (1, .cells [.p (pI 0), .nils, .p (pI 0), .p (pI 0), .p (pI 0), .p (pI 0), .p (pI 0), .p (.int .u32 0), .p (.int .u32 0), .p (.int .u32 0), .p (.int .u32 0), .p (.int .u32 0), .p (.int .u32 0), .p (.int .u32 0), .p (.int .u32 0), .p (.str [])] false), (0, .cells (x.pd.map .p) false)]) ?_ ?_
  · refine Wc.seq ?_
    refine Wc.reg fun K hK => ?_; simp only [go_sem, ti3, ti9, ti4, ti35, ti22, ti23, ti24, ti26, ti32, ti34, ti45, ti48, ti53, ti55, ti57, ti75, ti77, ti83, hlen, h1, h2, h4, h5, h6, g0]; refine hK _ _ ?_; clear hK K
    refine Wc.cond (t := (x.k != 3)) (by simp only [go_sem, ti3, ti9, ti4, ti35, ti22, ti23, ti24, ti26, ti32, ti34, ti45, ti48, ti53, ti55, ti57, ti75, ti77, ti83, hlen]) (fun hc => ?_) (fun hc => ?_)
    · have hk : ¬ x.k = 3 := by simpa using hc
      obtain ⟨_, vl, vy⟩ := serOK_s hok hk
      have eC : serCs x = smpCs x.sm := by unfold serCs; rw [if_neg hk]
      have eZ : serZ x = zfold x.sm := by unfold serZ; rw [if_neg hk]
      refine Wc.seqA (fun y => ∃ c7, y.ds = [] ∧ y.e.length = 215 ∧ y.e.getD 1 .junk = .v (.c (.ref 0 0)) ∧ y.e.getD 2 .junk = .v (.c (.ref 1 0)) ∧ y.e.getD 4 .junk = .v (.c (.ref 7 0)) ∧ y.e.getD 5 .junk = .v (.c (.ref 13 0)) ∧ y.e.getD 6 .junk = .v (.c c6) ∧ y.e.getD 7 .junk = .v (.c c7) ∧ OA y.s.nx y.s [slI c7 [], slI c6 []] [(13, .cells [.p (.str (appV [] x.k).1), .p (pI 0)] false), (7, .cells ((Zo.none).pd.map .p) false), (1, .cells [.p (pI 0), .nils, .p (pI 0), .p (pI 0), .p (pI 0), .p (pI 0), .p (pI 0), .p (.int .u32 0), .p (.int .u32 0), .p (.int .u32 0), .p (.int .u32 0), .p (.int .u32 0), .p (.int .u32 0), .p (.int .u32 0), .p (.int .u32 0), .p (.str [])] false), (0, .cells (x.pd.map .p) false)]) ?_ ?_
      · refine Wc.reg fun K hK => ?_; simp only [go_sem, ti3, ti9, ti4, ti35, ti22, ti23, ti24, ti26, ti32, ti34, ti45, ti48, ti53, ti55, ti57, ti75, ti77, ti83, hlen, h1, h2, h4, h5, h6]; refine hK _ _ ?_; clear hK K
        refine ⟨rfl, .own 0 [] (s1.nx + 3), rfl, by simp only [go_sem, ti3, ti9, ti4, ti35, ti22, ti23, ti24, ti26, ti32, ti34, ti45, ti48, ti53, ti55, ti57, ti75, ti77, ti83, hlen], by simp only [go_sem, ti3, ti9, ti4, ti35, ti22, ti23, ti24, ti26, ti32, ti34, ti45, ti48, ti53, ti55, ti57, ti75, ti77, ti83, hlen, h1], by simp only [go_sem, ti3, ti9, ti4, ti35, ti22, ti23, ti24, ti26, ti32, ti34, ti45, ti48, ti53, ti55, ti57, ti75, ti77, ti83, hlen, h2], by simp only [go_sem, ti3, ti9, ti4, ti35, ti22, ti23, ti24, ti26, ti32, ti34, ti45, ti48, ti53, ti55, ti57, ti75, ti77, ti83, hlen, h4], by simp only [go_sem, ti3, ti9, ti4, ti35, ti22, ti23, ti24, ti26, ti32, ti34, ti45, ti48, ti53, ti55, ti57, ti75, ti77, ti83, hlen, h5], by simp only [go_sem, ti3, ti9, ti4, ti35, ti22, ti23, ti24, ti26, ti32, ti34, ti45, ti48, ti53, ti55, ti57, ti75, ti77, ti83, hlen, h6], by simp only [go_sem, ti3, ti9, ti4, ti35, ti22, ti23, ti24, ti26, ti32, ti34, ti45, ti48, ti53, ti55, ti57, ti75, ti77, ti83, hlen], ?_⟩
        exact (((ho.adv (n := 3)).adv (n := 2)).front (k := s1.nx + 3) (es := 1) (n := 0) (cs := []) (by omega) rfl).mono (by simp only [St.nx_put, St.nx_adv]; omega)
      clear hlen h1 h2 h4 h5 h6 ho g0 e s1
      rintro ⟨e, ds, s1⟩ ⟨c7, rfl, hlen, h1, h2, h4, h5, h6, h7, ho⟩
      simp only at hlen h1 h2 h4 h5 h6 h7 ho
      refine Wc.seqA (fun y => ∃ c6 c7, y.ds = [] ∧ y.e.length = 215 ∧ y.e.getD 1 .junk = .v (.c (.ref 0 0)) ∧ y.e.getD 2 .junk = .v (.c (.ref 1 0)) ∧ y.e.getD 4 .junk = .v (.c (.ref 7 0)) ∧ y.e.getD 5 .junk = .v (.c (.ref 13 0)) ∧ y.e.getD 6 .junk = .v (.c c6) ∧ y.e.getD 7 .junk = .v (.c c7) ∧ OA y.s.nx y.s [slI c7 (x.sm.map (·.2)), slI c6 (x.sm.map (·.1))] [(13, .cells [.p (.str (appV [] x.k).1), .p (pI 0)] false), (7, .cells ((serZ x).pd.map .p) false), (1, .cells [.p (pI 0), .nils, .p (pI 0), .p (pI 0), .p (pI 0), .p (pI 0), .p (pI 0), .p (.int .u32 0), .p (.int .u32 0), .p (.int .u32 0), .p (.int .u32 0), .p (.int .u32 0), .p (.int .u32 0), .p (.int .u32 0), .p (.int .u32 0), .p (.str [])] false), (0, .cells (x.pd.map .p) false)]) ?_ ?_
      · refine Wc.seq ?_
        refine Wc.reg fun K hK => ?_; simp only [go_sem, ti3, ti9, ti4, ti35, ti22, ti23, ti24, ti26, ti32, ti34, ti45, ti48, ti53, ti55, ti57, ti75, ti77, ti83, hlen, h1, h2, h4, h5, h6, h7, Int.natCast_zero]; refine hK _ _ ?_; clear hK K
        refine Wc.block (Wc.loop (fun k y => ∃ (i : Nat) (c6 c7 : C), k = x.sm.length - i ∧ i ≤ x.sm.length ∧ y.ds = [] ∧ y.e.length = 215 ∧ y.e.getD 1 .junk = .v (.c (.ref 0 0)) ∧ y.e.getD 2 .junk = .v (.c (.ref 1 0)) ∧ y.e.getD 4 .junk = .v (.c (.ref 7 0)) ∧ y.e.getD 5 .junk = .v (.c (.ref 13 0)) ∧ y.e.getD 6 .junk = .v (.c c6) ∧ y.e.getD 7 .junk = .v (.c c7) ∧ y.e.getD 8 .junk = P' (pI i) ∧ OA y.s.nx y.s [slI c7 ((x.sm.take i).map (·.2)), slI c6 ((x.sm.take i).map (·.1))] [(13, .cells [.p (.str (appV [] x.k).1), .p (pI 0)] false), (7, .cells ((zfold (x.sm.take i)).pd.map .p) false), (1, .cells [.p (pI 0), .nils, .p (pI 0), .p (pI 0), .p (pI 0), .p (pI 0), .p (pI 0), .p (.int .u32 0), .p (.int .u32 0), .p (.int .u32 0), .p (.int .u32 0), .p (.int .u32 0), .p (.int .u32 0), .p (.int .u32 0), .p (.int .u32 0), .p (.str [])] false), (0, .cells (x.pd.map .p) false)]) ?_ (k := x.sm.length) ?_)
        · clear hlen h1 h2 h4 h5 h6 h7 ho e s1 c6 c7
          rintro k ⟨e, ds, s1⟩ ⟨i, c6, c7, rfl, hi, rfl, hlen, h1, h2, h4, h5, h6, h7, h8, ho⟩
          simp only at hlen h1 h2 h4 h5 h6 h7 h8 ho
          have g0 := ho.at_ (0, .cells (x.pd.map .p) false) (by simp)
          simp only [List.map_cons, List.map_nil] at g0
          refine Wc.seq (Wc.seq ?_)
          refine Wc.reg fun K hK => ?_; simp only [go_sem, ti3, ti9, ti4, ti35, ti22, ti23, ti24, ti26, ti32, ti34, ti45, ti48, ti53, ti55, ti57, ti75, ti77, ti83, hlen, h1, h2, h4, h5, h6, h7, h8, g0]; refine hK _ _ ?_; clear hK K
          refine Wc.cond (t := decide ((i : Int) < x.sm.length)) (by simp only [go_sem, ti3, ti9, ti4, ti35, ti22, ti23, ti24, ti26, ti32, ti34, ti45, ti48, ti53, ti55, ti57, ti75, ti77, ti83, hlen]) (fun hc => ?_) (fun hc => ?_)
          · have hil : i < x.sm.length := by have h9 : (i : Int) < x.sm.length := (by simpa using hc); omega
            obtain ⟨u, hu⟩ : ∃ u, x.sm[i]? = some u := ⟨x.sm[i], List.getElem?_eq_getElem hil⟩
            have hix := ixA ti23 rfl ti45 (j := i) (m := x.sm.length) (cs := x.sm.flatMap p2) hil hfls (by decide)
            have hca := rpA (off := i * 2) (drop_flat (f := p2) (k := 2) (fun _ => rfl) hu) (by rw [hfls]; omega)
            have hce := rpA (off := i * 2 + 1) (cs := x.sm.flatMap p2) (pre := [pI u.2]) (rest := (x.sm.drop (i + 1)).flatMap p2) (by rw [← List.drop_drop, drop_flat (f := p2) (k := 2) (fun _ => rfl) hu]; rfl) (by rw [hfls]; omega)
            have hzs : zfold (x.sm.take (i + 1)) = (zfold (x.sm.take i)).add u.1 u.2 := by rw [take_snoc hu, zfold_snoc]
            have hzok := zfold_ok i (x.sm.take i) (by simp; omega) (by omega) fun p hp => vy p (List.mem_of_mem_take hp)
            have htv := vy u (List.mem_of_getElem? hu)
            have padd := (pfAdd (z := zfold (x.sm.take i)) hzok.1 (by rw [hzok.2]; omega) htv.1 htv.2).2
            rw [← hzs] at padd
            have e1 : (x.sm.take (i + 1)).map (·.1) = (x.sm.take i).map (·.1) ++ [u.1] := by rw [take_snoc hu]; simp
            have e2 : (x.sm.take (i + 1)).map (·.2) = (x.sm.take i).map (·.2) ++ [u.2] := by rw [take_snoc hu]; simp
            have l1 : ((x.sm.take i).map (·.1)).length ≤ 2000 := by simp; omega
            have l2 : ((x.sm.take i).map (·.2)).length ≤ 2000 := by simp; omega
            generalize (x.sm.take i).map (·.1) = W6 at *
            generalize (x.sm.take i).map (·.2) = W7 at *
            generalize zfold (x.sm.take i) = Z at *
            generalize hZ1 : zfold (x.sm.take (i + 1)) = Z1 at *
            refine Wc.skip (Wc.seq (Wc.block (Wc.seq ?_)))
            refine Wc.reg fun K hK => ?_; simp only [go_sem, ti3, ti9, ti4, ti35, ti22, ti23, ti24, ti26, ti32, ti34, ti45, ti48, ti53, ti55, ti57, ti75, ti77, ti83, hlen, h1, h2, h4, h5, h6, h7, h8, g0, hix, hca]
            refine OA.appI (L1 := [slI c7 W7]) (L2 := []) (c := c6) (W := W6) (v := u.1) ((ho.adv (n := 5)).adv (n := 10)) (by omega) (by omega) (by omega) fun d6 s2 o2 n2 => ?_
            have o2 : OA s2.nx s2 [slI c7 W7, slI d6 (W6 ++ [u.1])] [(13, .cells [.p (.str (appV [] x.k).1), .p (pI 0)] false), (7, .cells (Z.pd.map .p) false), (1, .cells [.p (pI 0), .nils, .p (pI 0), .p (pI 0), .p (pI 0), .p (pI 0), .p (pI 0), .p (.int .u32 0), .p (.int .u32 0), .p (.int .u32 0), .p (.int .u32 0), .p (.int .u32 0), .p (.int .u32 0), .p (.int .u32 0), .p (.int .u32 0), .p (.str [])] false), (0, .cells (x.pd.map .p) false)] := o2.mono (b' := s2.nx) (by rw [n2]; simp only [St.nx_adv]; omega)
            simp only [go_sem, ti3, ti9, ti4, ti35, ti22, ti23, ti24, ti26, ti32, ti34, ti45, ti48, ti53, ti55, ti57, ti75, ti77, ti83, hlen, h1, h2, h4, h5, h6, h7, h8, g0, hix, hca]; refine hK _ _ ?_; clear hK K
            have g2 := o2.at_ (0, .cells (x.pd.map .p) false) (by simp)
            simp only [List.map_cons, List.map_nil] at g2
            refine Wc.seq ?_
            refine Wc.reg fun K hK => ?_; simp only [go_sem, ti3, ti9, ti4, ti35, ti22, ti23, ti24, ti26, ti32, ti34, ti45, ti48, ti53, ti55, ti57, ti75, ti77, ti83, hlen, h1, h2, h4, h5, h6, h7, h8, g2, hix, hca, hce]
            refine OA.appI (L1 := []) (L2 := [slI d6 (W6 ++ [u.1])]) (c := c7) (W := W7) (v := u.2) (o2.adv (n := 10)) (by omega) (by omega) (by omega) fun d7 s3 o3 n3 => ?_
            have o3 : OA s3.nx s3 [slI d7 (W7 ++ [u.2]), slI d6 (W6 ++ [u.1])] [(13, .cells [.p (.str (appV [] x.k).1), .p (pI 0)] false), (7, .cells (Z.pd.map .p) false), (1, .cells [.p (pI 0), .nils, .p (pI 0), .p (pI 0), .p (pI 0), .p (pI 0), .p (pI 0), .p (.int .u32 0), .p (.int .u32 0), .p (.int .u32 0), .p (.int .u32 0), .p (.int .u32 0), .p (.int .u32 0), .p (.int .u32 0), .p (.int .u32 0), .p (.str [])] false), (0, .cells (x.pd.map .p) false)] := o3.mono (b' := s3.nx) (by rw [n3]; simp only [St.nx_adv]; omega)
            simp only [go_sem, ti3, ti9, ti4, ti35, ti22, ti23, ti24, ti26, ti32, ti34, ti45, ti48, ti53, ti55, ti57, ti75, ti77, ti83, hlen, h1, h2, h4, h5, h6, h7, h8, g2, hix, hca, hce]; refine hK _ _ ?_; clear hK K
            have g3 := o3.at_ (0, .cells (x.pd.map .p) false) (by simp)
            have gz := o3.at_ (7, .cells (Z.pd.map .p) false) (by simp)
            simp only [List.map_cons, List.map_nil] at g3 gz
            refine Wc.regT fun K hK => ?_
            simp only [go_sem, ti3, ti9, ti4, ti35, ti22, ti23, ti24, ti26, ti32, ti34, ti45, ti48, ti53, ti55, ti57, ti75, ti77, ti83, hlen, h1, h2, h4, h5, h6, h7, h8, g3, gz, hix, hca, hce, o30, x30]
            refine wpCall.pf padd (by kernel_rfl) (by kernel_rfl) rfl rfl ?_
            simp only [go_sem, ti3, ti9, ti4, ti35, ti22, ti23, ti24, ti26, ti32, ti34, ti45, ti48, ti53, ti55, ti57, ti75, ti77, ti83, hlen, h1, h2, h4, h5, h6, h7, h8, g3, gz, hix, hca, hce, o30, x30]
            refine ⟨by rfl, hK _ _ ?_⟩
            clear hK K
            refine Wc.reg fun K hK => ?_; simp only [go_sem, ti3, ti9, ti4, ti35, ti22, ti23, ti24, ti26, ti32, ti34, ti45, ti48, ti53, ti55, ti57, ti75, ti77, ti83, hlen, h1, h2, h4, h5, h6, h7, h8, i64n i (by omega)]; refine hK _ _ ?_; clear hK K
            refine ⟨x.sm.length - (i + 1), by omega, i + 1, d6, d7, rfl, by omega, rfl, by simp only [go_sem, ti3, ti9, ti4, ti35, ti22, ti23, ti24, ti26, ti32, ti34, ti45, ti48, ti53, ti55, ti57, ti75, ti77, ti83, hlen], by simp only [go_sem, ti3, ti9, ti4, ti35, ti22, ti23, ti24, ti26, ti32, ti34, ti45, ti48, ti53, ti55, ti57, ti75, ti77, ti83, hlen, h1], by simp only [go_sem, ti3, ti9, ti4, ti35, ti22, ti23, ti24, ti26, ti32, ti34, ti45, ti48, ti53, ti55, ti57, ti75, ti77, ti83, hlen, h2], by simp only [go_sem, ti3, ti9, ti4, ti35, ti22, ti23, ti24, ti26, ti32, ti34, ti45, ti48, ti53, ti55, ti57, ti75, ti77, ti83, hlen, h4], by simp only [go_sem, ti3, ti9, ti4, ti35, ti22, ti23, ti24, ti26, ti32, ti34, ti45, ti48, ti53, ti55, ti57, ti75, ti77, ti83, hlen, h5], by simp only [go_sem, ti3, ti9, ti4, ti35, ti22, ti23, ti24, ti26, ti32, ti34, ti45, ti48, ti53, ti55, ti57, ti75, ti77, ti83, hlen], by simp only [go_sem, ti3, ti9, ti4, ti35, ti22, ti23, ti24, ti26, ti32, ti34, ti45, ti48, ti53, ti55, ti57, ti75, ti77, ti83, hlen], by simp only [go_sem, ti3, ti9, ti4, ti35, ti22, ti23, ti24, ti26, ti32, ti34, ti45, ti48, ti53, ti55, ti57, ti75, ti77, ti83, hlen], ?_⟩
            rw [e1, e2, hZ1]
            have q1 := OA.set (M1 := [(13, .cells [.p (.str (appV [] x.k).1), .p (pI 0)] false)]) (o' := .cells (Z1.pd.map .p) false) (o3.adv (n := 15)) rfl
            have q2 := q1.adv (n := 3)
            exact q2.mono (by simp only [St.nx_put, St.nx_adv]; omega)
          · have hil : i = x.sm.length := by have h9 : ¬ (i : Int) < x.sm.length := (by simpa using hc); omega
            subst hil
            rw [List.take_length, ← eZ] at ho
            exact Wc.exit ⟨rfl, c6, c7, rfl, by simp only [go_sem, ti3, ti9, ti4, ti35, ti22, ti23, ti24, ti26, ti32, ti34, ti45, ti48, ti53, ti55, ti57, ti75, ti77, ti83, hlen], by simp only [go_sem, ti3, ti9, ti4, ti35, ti22, ti23, ti24, ti26, ti32, ti34, ti45, ti48, ti53, ti55, ti57, ti75, ti77, ti83, hlen, h1], by simp only [go_sem, ti3, ti9, ti4, ti35, ti22, ti23, ti24, ti26, ti32, ti34, ti45, ti48, ti53, ti55, ti57, ti75, ti77, ti83, hlen, h2], by simp only [go_sem, ti3, ti9, ti4, ti35, ti22, ti23, ti24, ti26, ti32, ti34, ti45, ti48, ti53, ti55, ti57, ti75, ti77, ti83, hlen, h4], by simp only [go_sem, ti3, ti9, ti4, ti35, ti22, ti23, ti24, ti26, ti32, ti34, ti45, ti48, ti53, ti55, ti57, ti75, ti77, ti83, hlen, h5], by simp only [go_sem, ti3, ti9, ti4, ti35, ti22, ti23, ti24, ti26, ti32, ti34, ti45, ti48, ti53, ti55, ti57, ti75, ti77, ti83, hlen, h6], by simp only [go_sem, ti3, ti9, ti4, ti35, ti22, ti23, ti24, ti26, ti32, ti34, ti45, ti48, ti53, ti55, ti57, ti75, ti77, ti83, hlen, h7], (ho.mono (Nat.le_add_right _ 5)).adv⟩
        · refine ⟨0, c6, c7, rfl, by omega, rfl, by simp only [go_sem, ti3, ti9, ti4, ti35, ti22, ti23, ti24, ti26, ti32, ti34, ti45, ti48, ti53, ti55, ti57, ti75, ti77, ti83, hlen], by simp only [go_sem, ti3, ti9, ti4, ti35, ti22, ti23, ti24, ti26, ti32, ti34, ti45, ti48, ti53, ti55, ti57, ti75, ti77, ti83, hlen, h1], by simp only [go_sem, ti3, ti9, ti4, ti35, ti22, ti23, ti24, ti26, ti32, ti34, ti45, ti48, ti53, ti55, ti57, ti75, ti77, ti83, hlen, h2], by simp only [go_sem, ti3, ti9, ti4, ti35, ti22, ti23, ti24, ti26, ti32, ti34, ti45, ti48, ti53, ti55, ti57, ti75, ti77, ti83, hlen, h4], by simp only [go_sem, ti3, ti9, ti4, ti35, ti22, ti23, ti24, ti26, ti32, ti34, ti45, ti48, ti53, ti55, ti57, ti75, ti77, ti83, hlen, h5], by simp only [go_sem, ti3, ti9, ti4, ti35, ti22, ti23, ti24, ti26, ti32, ti34, ti45, ti48, ti53, ti55, ti57, ti75, ti77, ti83, hlen, h6], by simp only [go_sem, ti3, ti9, ti4, ti35, ti22, ti23, ti24, ti26, ti32, ti34, ti45, ti48, ti53, ti55, ti57, ti75, ti77, ti83, hlen, h7], by simp only [go_sem, ti3, ti9, ti4, ti35, ti22, ti23, ti24, ti26, ti32, ti34, ti45, ti48, ti53, ti55, ti57, ti75, ti77, ti83, hlen]; rfl, ?_⟩
          exact (ho.mono (Nat.le_add_right _ 1)).adv
      clear hlen h1 h2 h4 h5 h6 h7 ho e s1 c7
      rintro ⟨e, ds, s1⟩ ⟨c6, c7, rfl, hlen, h1, h2, h4, h5, h6, h7, ho⟩
      simp only at hlen h1 h2 h4 h5 h6 h7 ho
      have g0 := ho.at_ (0, .cells (x.pd.map .p) false) (by simp)
      have g1 := ho.at_ (1, .cells [.p (pI 0), .nils, .p (pI 0), .p (pI 0), .p (pI 0), .p (pI 0), .p (pI 0), .p (.int .u32 0), .p (.int .u32 0), .p (.int .u32 0), .p (.int .u32 0), .p (.int .u32 0), .p (.int .u32 0), .p (.int .u32 0), .p (.int .u32 0), .p (.str [])] false) (by simp)
      have gz := ho.at_ (7, .cells ((serZ x).pd.map .p) false) (by simp)
      have gw := ho.at_ (13, .cells [.p (.str (appV [] x.k).1), .p (pI 0)] false) (by simp)
      simp only [List.map_cons, List.map_nil] at g0 g1 gz gw
      have w6 := ho.own (slI c6 (x.sm.map (·.1))) (by simp)
      have w7 := ho.own (slI c7 (x.sm.map (·.2))) (by simp)
      have p6 := w6.plain
      have p7 := w7.plain
      have eT := encT_le (x.sm.map (·.1))
      have eV := encV_le (x.sm.map (·.2))
      simp only [List.length_map] at eT eV
      have q1 := partW_le ((appV [] x.k).1, 0) (encT (x.sm.map (·.1))).1 (encT (x.sm.map (·.1))).2
      simp only at q1
      have p34 := pf34 (partW (partW ((appV [] x.k).1, 0) (encT (x.sm.map (·.1))).1 (encT (x.sm.map (·.1))).2) (encV (x.sm.map (·.2))).1 (encV (x.sm.map (·.2))).2) 1 x.lb.length (x.lb.flatMap lbP) (pI (serZ x).c) (pI (serZ x).t1) (pI (serZ x).t2) (pI (serZ x).v1) (pI (serZ x).v2) (.int .u32 0) (.int .u32 0) (.int .u32 0) (.int .u32 0) (.int .u32 0) (.int .u32 0) (.int .u32 0) (.int .u32 0)
      rw [encC_w (cs := serCs x) (t := (appV [] x.k).1) (by omega) (by rw [eC]; intro c hc; simp only [smpCs, List.mem_cons, List.not_mem_nil, or_false] at hc; rcases hc with rfl | rfl <;> omega) (by rw [eC]; rfl)] at p34
      refine Wc.seq ?_
      refine Wc.regT fun K hK => ?_
      simp only [go_sem, ti3, ti9, ti4, ti35, ti22, ti23, ti24, ti26, ti32, ti34, ti45, ti48, ti53, ti55, ti57, ti75, ti77, ti83, hlen, h1, h2, h4, h5, h6, h7, g0, g1, gz, gw, o32, x32, o31, x31, o33, x33, o34, x34, o35, x35, plainD, plainV, p6, p7, List.all_cons, List.all_nil]
      refine wpCall.pf (pf32 (x.sm.map (·.1)) (by simp; omega)) (by kernel_rfl) (by kernel_rfl) rfl (w6.vs1 _) ?_
      simp only [go_sem, ti3, ti9, ti4, ti35, ti22, ti23, ti24, ti26, ti32, ti34, ti45, ti48, ti53, ti55, ti57, ti75, ti77, ti83, hlen, h1, h2, h4, h5, h6, h7, g0, g1, gz, gw, o32, x32, o31, x31, o33, x33, o34, x34, o35, x35, plainD, plainV, p6, p7, List.all_cons, List.all_nil]
      refine wpCall.pf (pf31 ((appV [] x.k).1, 0) (encT (x.sm.map (·.1))).1 (encT (x.sm.map (·.1))).2 (by show (appV [] x.k).1.length ≤ 2^60; omega) (by omega)) (by kernel_rfl) (by kernel_rfl) rfl rfl ?_
      simp only [go_sem, ti3, ti9, ti4, ti35, ti22, ti23, ti24, ti26, ti32, ti34, ti45, ti48, ti53, ti55, ti57, ti75, ti77, ti83, hlen, h1, h2, h4, h5, h6, h7, g0, g1, gz, gw, o32, x32, o31, x31, o33, x33, o34, x34, o35, x35, plainD, plainV, p6, p7, List.all_cons, List.all_nil]
      refine wpCall.pf (pf33 (partW ((appV [] x.k).1, 0) (encT (x.sm.map (·.1))).1 (encT (x.sm.map (·.1))).2) (x.sm.map (·.2)) (by omega) (by simp; omega)) (by kernel_rfl) (by kernel_rfl) rfl (purVs_last w7.vs1 [_] (by intro v hv s; simp only [List.mem_cons, List.not_mem_nil, or_false] at hv; rcases hv with rfl; rfl) _) ?_
      simp only [go_sem, ti3, ti9, ti4, ti35, ti22, ti23, ti24, ti26, ti32, ti34, ti45, ti48, ti53, ti55, ti57, ti75, ti77, ti83, hlen, h1, h2, h4, h5, h6, h7, g0, g1, gz, gw, o32, x32, o31, x31, o33, x33, o34, x34, o35, x35, plainD, plainV, p6, p7, List.all_cons, List.all_nil]
      refine wpCall.pf p34 (by kernel_rfl) (by kernel_rfl) rfl rfl ?_
      rcases encC_cases 1 (.lst x.lb.length (x.lb.flatMap lbP)) (serZ x).pd (appV [] x.k).1 (serCs x) with e9 | ⟨d, e9⟩
      · rw [e9]
        simp only [go_sem, ti3, ti9, ti4, ti35, ti22, ti23, ti24, ti26, ti32, ti34, ti45, ti48, ti53, ti55, ti57, ti75, ti77, ti83, hlen, h1, h2, h4, h5, h6, h7, g0, g1, gz, gw, o32, x32, o31, x31, o33, x33, o34, x34, o35, x35, plainD, plainV, p6, p7, List.all_cons, List.all_nil]
        refine ⟨by rfl, hK _ _ ?_⟩
        clear hK K
        rw [e9]
        exact Wc.ret (Pf.ret [.cell 2 34, .tmp 3] [noCh, .c (.p (pI 4))] rfl rfl (by simp only [resultsD, go_sem, ti3, ti9, ti4, ti35, ti22, ti23, ti24, ti26, ti32, ti34, ti45, ti48, ti53, ti55, ti57, ti75, ti77, ti83, hlen, h2]; rfl) rfl)
      · rw [e9]
        simp only [go_sem, ti3, ti9, ti4, ti35, ti22, ti23, ti24, ti26, ti32, ti34, ti45, ti48, ti53, ti55, ti57, ti75, ti77, ti83, hlen, h1, h2, h4, h5, h6, h7, g0, g1, gz, gw, o32, x32, o31, x31, o33, x33, o34, x34, o35, x35, plainD, plainV, p6, p7, List.all_cons, List.all_nil]
        refine ⟨by rfl, hK _ _ ?_⟩
        clear hK K
        rw [e9]
        exact Wc.ret (Pf.ret [.cell 2 34, .tmp 3] [chV 1 (.lst x.lb.length (x.lb.flatMap lbP)) (serZ x).pd d, .c (.p (pI 0))] rfl rfl (by simp only [resultsD, go_sem, ti3, ti9, ti4, ti35, ti22, ti23, ti24, ti26, ti32, ti34, ti45, ti48, ti53, ti55, ti57, ti75, ti77, ti83, hlen, h2]; rfl) rfl)
    · have hk : x.k = 3 := by simpa using hc
      exact Wc.skip ⟨hk, rfl, by simp only [go_sem, ti3, ti9, ti4, ti35, ti22, ti23, ti24, ti26, ti32, ti34, ti45, ti48, ti53, ti55, ti57, ti75, ti77, ti83, hlen], by simp only [go_sem, ti3, ti9, ti4, ti35, ti22, ti23, ti24, ti26, ti32, ti34, ti45, ti48, ti53, ti55, ti57, ti75, ti77, ti83, hlen, h1], by simp only [go_sem, ti3, ti9, ti4, ti35, ti22, ti23, ti24, ti26, ti32, ti34, ti45, ti48, ti53, ti55, ti57, ti75, ti77, ti83, hlen, h2], by simp only [go_sem, ti3, ti9, ti4, ti35, ti22, ti23, ti24, ti26, ti32, ti34, ti45, ti48, ti53, ti55, ti57, ti75, ti77, ti83, hlen, h4], by simp only [go_sem, ti3, ti9, ti4, ti35, ti22, ti23, ti24, ti26, ti32, ti34, ti45, ti48, ti53, ti55, ti57, ti75, ti77, ti83, hlen, h5], by simp only [go_sem, ti3, ti9, ti4, ti35, ti22, ti23, ti24, ti26, ti32, ti34, ti45, ti48, ti53, ti55, ti57, ti75, ti77, ti83, hlen, h6], (ho.mono (Nat.le_add_right _ 3)).adv⟩
  clear hlen h1 h2 h4 h5 h6 ho g0 e s1
  rintro ⟨e, ds, s1⟩ ⟨hk, rfl, hlen, h1, h2, h4, h5, h6, ho⟩
  simp only at hlen h1 h2 h4 h5 h6 ho
  obtain ⟨vl, vy⟩ := serOK_h hok hk
  have eC : serCs x = hstCs x.hs := by unfold serCs; rw [if_pos hk]
  have eZ : serZ x = zfold (x.hs.map fun y => (y.t, y.h.c)) := by unfold serZ; rw [if_pos hk]
  refine Wc.seqA (fun y => ∃ c6 c9 c10 c11 c12 c13 c14 c15 c16, y.ds = [] ∧ y.e.length = 215 ∧ y.e.getD 1 .junk = .v (.c (.ref 0 0)) ∧ y.e.getD 2 .junk = .v (.c (.ref 1 0)) ∧ y.e.getD 4 .junk = .v (.c (.ref 7 0)) ∧ y.e.getD 5 .junk = .v (.c (.ref 13 0)) ∧ y.e.getD 6 .junk = .v (.c c6) ∧ y.e.getD 9 .junk = .v (.c c9) ∧ y.e.getD 10 .junk = .v (.c c10) ∧ y.e.getD 11 .junk = .v (.c c11) ∧ y.e.getD 12 .junk = .v (.c c12) ∧ y.e.getD 13 .junk = .v (.c c13) ∧ y.e.getD 14 .junk = .v (.c c14) ∧ y.e.getD 15 .junk = .v (.c c15) ∧ y.e.getD 16 .junk = .v (.c c16) ∧ OA y.s.nx y.s [slI c16 ([]), slI c15 ([]), slI c14 ([]), slI c13 ([]), slI c12 ([]), slI c11 ([]), slI c10 ([]), slI c9 ([]), slI c6 ([])] [(13, .cells [.p (.str (appV [] x.k).1), .p (pI 0)] false), (7, .cells ((Zo.none).pd.map .p) false), (1, .cells [.p (pI 0), .nils, .p (pI 0), .p (pI 0), .p (pI 0), .p (pI 0), .p (pI 0), .p (.int .u32 0), .p (.int .u32 0), .p (.int .u32 0), .p (.int .u32 0), .p (.int .u32 0), .p (.int .u32 0), .p (.int .u32 0), .p (.int .u32 0), .p (.str [])] false), (0, .cells (x.pd.map .p) false)]) ?_ ?_
  · refine Wc.reg fun K hK => ?_; simp only [go_sem, ti3, ti9, ti4, ti35, ti22, ti23, ti24, ti26, ti32, ti34, ti45, ti48, ti53, ti55, ti57, ti75, ti77, ti83, hlen, h1, h2, h4, h5, h6]; refine hK _ _ ?_; clear hK K
    refine ⟨rfl, c6, .own 0 [] s1.nx, .own 0 [] (s1.nx + 1), .own 0 [] (s1.nx + 2), .own 0 [] (s1.nx + 3), .own 0 [] (s1.nx + 4), .own 0 [] (s1.nx + 5), .own 0 [] (s1.nx + 6), .own 0 [] (s1.nx + 7), rfl, by simp only [go_sem, ti3, ti9, ti4, ti35, ti22, ti23, ti24, ti26, ti32, ti34, ti45, ti48, ti53, ti55, ti57, ti75, ti77, ti83, hlen], by simp only [go_sem, ti3, ti9, ti4, ti35, ti22, ti23, ti24, ti26, ti32, ti34, ti45, ti48, ti53, ti55, ti57, ti75, ti77, ti83, hlen, h1], by simp only [go_sem, ti3, ti9, ti4, ti35, ti22, ti23, ti24, ti26, ti32, ti34, ti45, ti48, ti53, ti55, ti57, ti75, ti77, ti83, hlen, h2], by simp only [go_sem, ti3, ti9, ti4, ti35, ti22, ti23, ti24, ti26, ti32, ti34, ti45, ti48, ti53, ti55, ti57, ti75, ti77, ti83, hlen, h4], by simp only [go_sem, ti3, ti9, ti4, ti35, ti22, ti23, ti24, ti26, ti32, ti34, ti45, ti48, ti53, ti55, ti57, ti75, ti77, ti83, hlen, h5], by simp only [go_sem, ti3, ti9, ti4, ti35, ti22, ti23, ti24, ti26, ti32, ti34, ti45, ti48, ti53, ti55, ti57, ti75, ti77, ti83, hlen, h6], by simp only [go_sem, ti3, ti9, ti4, ti35, ti22, ti23, ti24, ti26, ti32, ti34, ti45, ti48, ti53, ti55, ti57, ti75, ti77, ti83, hlen], by simp only [go_sem, ti3, ti9, ti4, ti35, ti22, ti23, ti24, ti26, ti32, ti34, ti45, ti48, ti53, ti55, ti57, ti75, ti77, ti83, hlen], by simp only [go_sem, ti3, ti9, ti4, ti35, ti22, ti23, ti24, ti26, ti32, ti34, ti45, ti48, ti53, ti55, ti57, ti75, ti77, ti83, hlen], by simp only [go_sem, ti3, ti9, ti4, ti35, ti22, ti23, ti24, ti26, ti32, ti34, ti45, ti48, ti53, ti55, ti57, ti75, ti77, ti83, hlen], by simp only [go_sem, ti3, ti9, ti4, ti35, ti22, ti23, ti24, ti26, ti32, ti34, ti45, ti48, ti53, ti55, ti57, ti75, ti77, ti83, hlen], by simp only [go_sem, ti3, ti9, ti4, ti35, ti22, ti23, ti24, ti26, ti32, ti34, ti45, ti48, ti53, ti55, ti57, ti75, ti77, ti83, hlen], by simp only [go_sem, ti3, ti9, ti4, ti35, ti22, ti23, ti24, ti26, ti32, ti34, ti45, ti48, ti53, ti55, ti57, ti75, ti77, ti83, hlen], by simp only [go_sem, ti3, ti9, ti4, ti35, ti22, ti23, ti24, ti26, ti32, ti34, ti45, ti48, ti53, ti55, ti57, ti75, ti77, ti83, hlen], ?_⟩
    exact (((((((((ho.adv (n := 16)).front (k := s1.nx) (es := 1) (n := 0) (cs := []) (by omega) rfl).front (k := s1.nx + 1) (es := 1) (n := 0) (cs := []) (by omega) rfl).front (k := s1.nx + 2) (es := 1) (n := 0) (cs := []) (by omega) rfl).front (k := s1.nx + 3) (es := 1) (n := 0) (cs := []) (by omega) rfl).front (k := s1.nx + 4) (es := 1) (n := 0) (cs := []) (by omega) rfl).front (k := s1.nx + 5) (es := 1) (n := 0) (cs := []) (by omega) rfl).front (k := s1.nx + 6) (es := 1) (n := 0) (cs := []) (by omega) rfl).front (k := s1.nx + 7) (es := 1) (n := 0) (cs := []) (by omega) rfl).mono (by simp only [St.nx_put, St.nx_adv]; omega)
  clear hlen h1 h2 h4 h5 h6 ho e s1 c6
  rintro ⟨e, ds, s1⟩ ⟨c6, c9, c10, c11, c12, c13, c14, c15, c16, rfl, hlen, h1, h2, h4, h5, h6, h9, h10, h11, h12, h13, h14, h15, h16, ho⟩
  simp only at hlen h1 h2 h4 h5 h6 h9 h10 h11 h12 h13 h14 h15 h16 ho
  refine Wc.seqA (fun y => ∃ c6 c9 c10 c11 c12 c13 c14 c15 c16, y.ds = [] ∧ y.e.length = 215 ∧ y.e.getD 1 .junk = .v (.c (.ref 0 0)) ∧ y.e.getD 2 .junk = .v (.c (.ref 1 0)) ∧ y.e.getD 4 .junk = .v (.c (.ref 7 0)) ∧ y.e.getD 5 .junk = .v (.c (.ref 13 0)) ∧ y.e.getD 6 .junk = .v (.c c6) ∧ y.e.getD 9 .junk = .v (.c c9) ∧ y.e.getD 10 .junk = .v (.c c10) ∧ y.e.getD 11 .junk = .v (.c c11) ∧ y.e.getD 12 .junk = .v (.c c12) ∧ y.e.getD 13 .junk = .v (.c c13) ∧ y.e.getD 14 .junk = .v (.c c14) ∧ y.e.getD 15 .junk = .v (.c c15) ∧ y.e.getD 16 .junk = .v (.c c16) ∧ OA y.s.nx y.s [slI c16 ((x.hs).map (·.h.s)), slI c15 (((x.hs).flatMap (·.h.bs)).map (·.2)), slI c14 (((x.hs).flatMap (·.h.bs)).map (·.1)), slI c13 ((x.hs).map (fun y => (y.h.bs.length : Int))), slI c12 ((x.hs).map (·.h.mx)), slI c11 ((x.hs).map (·.h.mn)), slI c10 ((x.hs).map (·.h.c)), slI c9 ((x.hs).map (·.h.p)), slI c6 ((x.hs).map (·.t))] [(13, .cells [.p (.str (appV [] x.k).1), .p (pI 0)] false), (7, .cells ((serZ x).pd.map .p) false), (1, .cells [.p (pI 0), .nils, .p (pI 0), .p (pI 0), .p (pI 0), .p (pI 0), .p (pI 0), .p (.int .u32 0), .p (.int .u32 0), .p (.int .u32 0), .p (.int .u32 0), .p (.int .u32 0), .p (.int .u32 0), .p (.int .u32 0), .p (.int .u32 0), .p (.str [])] false), (0, .cells (x.pd.map .p) false)]) ?_ ?_
  · refine Wc.seq ?_
    refine Wc.reg fun K hK => ?_; simp only [go_sem, ti3, ti9, ti4, ti35, ti22, ti23, ti24, ti26, ti32, ti34, ti45, ti48, ti53, ti55, ti57, ti75, ti77, ti83, hlen, h1, h2, h4, h5, h6, h9, h10, h11, h12, h13, h14, h15, h16, Int.natCast_zero]; refine hK _ _ ?_; clear hK K
    refine Wc.block (Wc.loop (fun k y => ∃ (i : Nat) (c6 c9 c10 c11 c12 c13 c14 c15 c16 : C), k = x.hs.length - i ∧ i ≤ x.hs.length ∧ y.ds = [] ∧ y.e.length = 215 ∧ y.e.getD 1 .junk = .v (.c (.ref 0 0)) ∧ y.e.getD 2 .junk = .v (.c (.ref 1 0)) ∧ y.e.getD 4 .junk = .v (.c (.ref 7 0)) ∧ y.e.getD 5 .junk = .v (.c (.ref 13 0)) ∧ y.e.getD 6 .junk = .v (.c c6) ∧ y.e.getD 9 .junk = .v (.c c9) ∧ y.e.getD 10 .junk = .v (.c c10) ∧ y.e.getD 11 .junk = .v (.c c11) ∧ y.e.getD 12 .junk = .v (.c c12) ∧ y.e.getD 13 .junk = .v (.c c13) ∧ y.e.getD 14 .junk = .v (.c c14) ∧ y.e.getD 15 .junk = .v (.c c15) ∧ y.e.getD 16 .junk = .v (.c c16) ∧ y.e.getD 17 .junk = P' (pI i) ∧ OA y.s.nx y.s [slI c16 ((x.hs.take i).map (·.h.s)), slI c15 (((x.hs.take i).flatMap (·.h.bs)).map (·.2)), slI c14 (((x.hs.take i).flatMap (·.h.bs)).map (·.1)), slI c13 ((x.hs.take i).map (fun y => (y.h.bs.length : Int))), slI c12 ((x.hs.take i).map (·.h.mx)), slI c11 ((x.hs.take i).map (·.h.mn)), slI c10 ((x.hs.take i).map (·.h.c)), slI c9 ((x.hs.take i).map (·.h.p)), slI c6 ((x.hs.take i).map (·.t))] [(13, .cells [.p (.str (appV [] x.k).1), .p (pI 0)] false), (7, .cells ((zfold ((x.hs.map fun y => (y.t, y.h.c)).take i)).pd.map .p) false), (1, .cells [.p (pI 0), .nils, .p (pI 0), .p (pI 0), .p (pI 0), .p (pI 0), .p (pI 0), .p (.int .u32 0), .p (.int .u32 0), .p (.int .u32 0), .p (.int .u32 0), .p (.int .u32 0), .p (.int .u32 0), .p (.int .u32 0), .p (.int .u32 0), .p (.str [])] false), (0, .cells (x.pd.map .p) false)]) ?_ (k := x.hs.length) ?_)
    · clear hlen h1 h2 h4 h5 h6 h9 h10 h11 h12 h13 h14 h15 h16 ho e s1 c6 c9 c10 c11 c12 c13 c14 c15 c16
      rintro k ⟨e, ds, s1⟩ ⟨i, c6, c9, c10, c11, c12, c13, c14, c15, c16, rfl, hi, rfl, hlen, h1, h2, h4, h5, h6, h9, h10, h11, h12, h13, h14, h15, h16, h17, ho⟩
      simp only at hlen h1 h2 h4 h5 h6 h9 h10 h11 h12 h13 h14 h15 h16 h17 ho
      have g0 := ho.at_ (0, .cells (x.pd.map .p) false) (by simp)
      simp only [List.map_cons, List.map_nil] at g0
      refine Wc.seq (Wc.seq ?_)
      refine Wc.reg fun K hK => ?_; simp only [go_sem, ti3, ti9, ti4, ti35, ti22, ti23, ti24, ti26, ti32, ti34, ti45, ti48, ti53, ti55, ti57, ti75, ti77, ti83, hlen, h1, h2, h4, h5, h6, h9, h10, h11, h12, h13, h14, h15, h16, h17, g0]; refine hK _ _ ?_; clear hK K
      refine Wc.cond (t := decide ((i : Int) < x.hs.length)) (by simp only [go_sem, ti3, ti9, ti4, ti35, ti22, ti23, ti24, ti26, ti32, ti34, ti45, ti48, ti53, ti55, ti57, ti75, ti77, ti83, hlen]) (fun hc => ?_) (fun hc => ?_)
      · have hil : i < x.hs.length := by have h9 : (i : Int) < x.hs.length := (by simpa using hc); omega
        obtain ⟨u, hu⟩ : ∃ u, x.hs[i]? = some u := ⟨x.hs[i], List.getElem?_eq_getElem hil⟩
        have hum := List.mem_of_getElem? hu
        obtain ⟨v1, v2, v3⟩ := vy u hum
        have hix := ixA ti24 rfl ti57 (j := i) (m := x.hs.length) (cs := x.hs.flatMap HSm.pd) hil hflh (by decide)
        have hca := rpA (off := i * 7) (drop_flat (f := HSm.pd) (k := 7) (fun _ => rfl) hu) (by rw [hflh]; omega)
        have hcc := rpA (off := i * 7 + 1) (cs := x.hs.flatMap HSm.pd) (pre := u.h.pd) (rest := (x.hs.drop (i + 1)).flatMap HSm.pd) (by rw [← List.drop_drop, drop_flat (f := HSm.pd) (k := 7) (fun _ => rfl) hu]; rfl) (by rw [hflh]; omega)
        have hpu2 : (x.hs.map fun y => (y.t, y.h.c))[i]? = some (u.t, u.h.c) := by simp [hu]
        have okp : ∀ p ∈ (x.hs.map fun y => (y.t, y.h.c)), isT p.1 = true ∧ isVl p.2 = true := fun p hp => by
          obtain ⟨y, hy, rfl⟩ := List.mem_map.1 hp
          exact ⟨(vy y hy).1, (vy y hy).2.1⟩
        have hzs : zfold ((x.hs.map fun y => (y.t, y.h.c)).take (i + 1)) = (zfold ((x.hs.map fun y => (y.t, y.h.c)).take i)).add u.t u.h.c := by rw [take_snoc hpu2, zfold_snoc]
        have hzok := zfold_ok i ((x.hs.map fun y => (y.t, y.h.c)).take i) (by simp; omega) (by omega) fun p hp => okp p (List.mem_of_mem_take hp)
        have padd := (pfAdd (z := zfold ((x.hs.map fun y => (y.t, y.h.c)).take i)) hzok.1 (by rw [hzok.2]; omega) v1 v2).2
        rw [← hzs] at padd
        have hft : ((x.hs.take i).flatMap (·.h.bs)).length ≤ (x.hs.take i).length * 500 := flat_le _ fun y hy => (vy y (List.mem_of_mem_take hy)).2.2
        have hft2 : (x.hs.take i).length ≤ 2000 := by simp; omega
        have e6 : (x.hs.take (i + 1)).map (·.t) = (x.hs.take i).map (·.t) ++ [u.t] := by rw [take_snoc hu]; simp
        have l6 : ((x.hs.take i).map (·.t)).length ≤ 2000 := by rw [List.length_map]; exact hft2
        have e9 : (x.hs.take (i + 1)).map (·.h.p) = (x.hs.take i).map (·.h.p) ++ [u.h.p] := by rw [take_snoc hu]; simp
        have l9 : ((x.hs.take i).map (·.h.p)).length ≤ 2000 := by rw [List.length_map]; exact hft2
        have e10 : (x.hs.take (i + 1)).map (·.h.c) = (x.hs.take i).map (·.h.c) ++ [u.h.c] := by rw [take_snoc hu]; simp
        have l10 : ((x.hs.take i).map (·.h.c)).length ≤ 2000 := by rw [List.length_map]; exact hft2
        have e11 : (x.hs.take (i + 1)).map (·.h.mn) = (x.hs.take i).map (·.h.mn) ++ [u.h.mn] := by rw [take_snoc hu]; simp
        have l11 : ((x.hs.take i).map (·.h.mn)).length ≤ 2000 := by rw [List.length_map]; exact hft2
        have e12 : (x.hs.take (i + 1)).map (·.h.mx) = (x.hs.take i).map (·.h.mx) ++ [u.h.mx] := by rw [take_snoc hu]; simp
        have l12 : ((x.hs.take i).map (·.h.mx)).length ≤ 2000 := by rw [List.length_map]; exact hft2
        have e13 : (x.hs.take (i + 1)).map (fun y => (y.h.bs.length : Int)) = (x.hs.take i).map (fun y => (y.h.bs.length : Int)) ++ [(u.h.bs.length : Int)] := by rw [take_snoc hu]; simp
        have l13 : ((x.hs.take i).map (fun y => (y.h.bs.length : Int))).length ≤ 2000 := by rw [List.length_map]; exact hft2
        have e14 : ((x.hs.take (i + 1)).flatMap (·.h.bs)).map (·.1) = ((x.hs.take i).flatMap (·.h.bs)).map (·.1) ++ u.h.bs.map (·.1) := by rw [flat_take hu]; simp
        have l14 : (((x.hs.take i).flatMap (·.h.bs)).map (·.1)).length ≤ 1000000 := by rw [List.length_map]; omega
        have e15 : ((x.hs.take (i + 1)).flatMap (·.h.bs)).map (·.2) = ((x.hs.take i).flatMap (·.h.bs)).map (·.2) ++ u.h.bs.map (·.2) := by rw [flat_take hu]; simp
        have l15 : (((x.hs.take i).flatMap (·.h.bs)).map (·.2)).length ≤ 1000000 := by rw [List.length_map]; omega
        have e16 : (x.hs.take (i + 1)).map (·.h.s) = (x.hs.take i).map (·.h.s) ++ [u.h.s] := by rw [take_snoc hu]; simp
        have l16 : ((x.hs.take i).map (·.h.s)).length ≤ 2000 := by rw [List.length_map]; exact hft2
        generalize (x.hs.take i).map (·.t) = W6 at *
        generalize (x.hs.take i).map (·.h.p) = W9 at *
        generalize (x.hs.take i).map (·.h.c) = W10 at *
        generalize (x.hs.take i).map (·.h.mn) = W11 at *
        generalize (x.hs.take i).map (·.h.mx) = W12 at *
        generalize (x.hs.take i).map (fun y => (y.h.bs.length : Int)) = W13 at *
        generalize ((x.hs.take i).flatMap (·.h.bs)).map (·.1) = W14 at *
        generalize ((x.hs.take i).flatMap (·.h.bs)).map (·.2) = W15 at *
        generalize (x.hs.take i).map (·.h.s) = W16 at *
        generalize zfold ((x.hs.map fun y => (y.t, y.h.c)).take i) = Z at *
        generalize hZ1 : zfold ((x.hs.map fun y => (y.t, y.h.c)).take (i + 1)) = Z1 at *
        refine Wc.skip (Wc.seq (Wc.block (Wc.seqA (fun y => ∃ k18, y.ds = [] ∧ y.e.length = 215 ∧ y.e.getD 1 .junk = .v (.c (.ref 0 0)) ∧ y.e.getD 2 .junk = .v (.c (.ref 1 0)) ∧ y.e.getD 4 .junk = .v (.c (.ref 7 0)) ∧ y.e.getD 5 .junk = .v (.c (.ref 13 0)) ∧ y.e.getD 6 .junk = .v (.c c6) ∧ y.e.getD 9 .junk = .v (.c c9) ∧ y.e.getD 10 .junk = .v (.c c10) ∧ y.e.getD 11 .junk = .v (.c c11) ∧ y.e.getD 12 .junk = .v (.c c12) ∧ y.e.getD 13 .junk = .v (.c c13) ∧ y.e.getD 14 .junk = .v (.c c14) ∧ y.e.getD 15 .junk = .v (.c c15) ∧ y.e.getD 16 .junk = .v (.c c16) ∧ y.e.getD 17 .junk = P' (pI i) ∧ y.e.getD 18 .junk = .v (.c (.ref k18 0)) ∧ OA y.s.nx y.s [slI c16 (W16), slI c15 (W15), slI c14 (W14), slI c13 (W13), slI c12 (W12), slI c11 (W11), slI c10 (W10), slI c9 (W9), slI c6 (W6)] [(k18, .cells (u.h.pd.map .p) false), (13, .cells [.p (.str (appV [] x.k).1), .p (pI 0)] false), (7, .cells ((Z).pd.map .p) false), (1, .cells [.p (pI 0), .nils, .p (pI 0), .p (pI 0), .p (pI 0), .p (pI 0), .p (pI 0), .p (.int .u32 0), .p (.int .u32 0), .p (.int .u32 0), .p (.int .u32 0), .p (.int .u32 0), .p (.int .u32 0), .p (.int .u32 0), .p (.int .u32 0), .p (.str [])] false), (0, .cells (x.pd.map .p) false)]) ?_ ?_)))
        · refine Wc.reg fun K hK => ?_; simp only [go_sem, ti3, ti9, ti4, ti35, ti22, ti23, ti24, ti26, ti32, ti34, ti45, ti48, ti53, ti55, ti57, ti75, ti77, ti83, hlen, h1, h2, h4, h5, h6, h9, h10, h11, h12, h13, h14, h15, h16, h17, g0, hix, hca, hcc]; refine hK _ _ ?_; clear hK K
          refine ⟨rfl, s1.nx + 11, rfl, by simp only [go_sem, ti3, ti9, ti4, ti35, ti22, ti23, ti24, ti26, ti32, ti34, ti45, ti48, ti53, ti55, ti57, ti75, ti77, ti83, hlen], by simp only [go_sem, ti3, ti9, ti4, ti35, ti22, ti23, ti24, ti26, ti32, ti34, ti45, ti48, ti53, ti55, ti57, ti75, ti77, ti83, hlen, h1], by simp only [go_sem, ti3, ti9, ti4, ti35, ti22, ti23, ti24, ti26, ti32, ti34, ti45, ti48, ti53, ti55, ti57, ti75, ti77, ti83, hlen, h2], by simp only [go_sem, ti3, ti9, ti4, ti35, ti22, ti23, ti24, ti26, ti32, ti34, ti45, ti48, ti53, ti55, ti57, ti75, ti77, ti83, hlen, h4], by simp only [go_sem, ti3, ti9, ti4, ti35, ti22, ti23, ti24, ti26, ti32, ti34, ti45, ti48, ti53, ti55, ti57, ti75, ti77, ti83, hlen, h5], by simp only [go_sem, ti3, ti9, ti4, ti35, ti22, ti23, ti24, ti26, ti32, ti34, ti45, ti48, ti53, ti55, ti57, ti75, ti77, ti83, hlen, h6], by simp only [go_sem, ti3, ti9, ti4, ti35, ti22, ti23, ti24, ti26, ti32, ti34, ti45, ti48, ti53, ti55, ti57, ti75, ti77, ti83, hlen, h9], by simp only [go_sem, ti3, ti9, ti4, ti35, ti22, ti23, ti24, ti26, ti32, ti34, ti45, ti48, ti53, ti55, ti57, ti75, ti77, ti83, hlen, h10], by simp only [go_sem, ti3, ti9, ti4, ti35, ti22, ti23, ti24, ti26, ti32, ti34, ti45, ti48, ti53, ti55, ti57, ti75, ti77, ti83, hlen, h11], by simp only [go_sem, ti3, ti9, ti4, ti35, ti22, ti23, ti24, ti26, ti32, ti34, ti45, ti48, ti53, ti55, ti57, ti75, ti77, ti83, hlen, h12], by simp only [go_sem, ti3, ti9, ti4, ti35, ti22, ti23, ti24, ti26, ti32, ti34, ti45, ti48, ti53, ti55, ti57, ti75, ti77, ti83, hlen, h13], by simp only [go_sem, ti3, ti9, ti4, ti35, ti22, ti23, ti24, ti26, ti32, ti34, ti45, ti48, ti53, ti55, ti57, ti75, ti77, ti83, hlen, h14], by simp only [go_sem, ti3, ti9, ti4, ti35, ti22, ti23, ti24, ti26, ti32, ti34, ti45, ti48, ti53, ti55, ti57, ti75, ti77, ti83, hlen, h15], by simp only [go_sem, ti3, ti9, ti4, ti35, ti22, ti23, ti24, ti26, ti32, ti34, ti45, ti48, ti53, ti55, ti57, ti75, ti77, ti83, hlen, h16], by simp only [go_sem, ti3, ti9, ti4, ti35, ti22, ti23, ti24, ti26, ti32, ti34, ti45, ti48, ti53, ti55, ti57, ti75, ti77, ti83, hlen, h17], by simp only [go_sem, ti3, ti9, ti4, ti35, ti22, ti23, ti24, ti26, ti32, ti34, ti45, ti48, ti53, ti55, ti57, ti75, ti77, ti83, hlen], ?_⟩
          have q1 := OA.set (M1 := []) (o' := .cells (u.h.pd.map .p) false) (((ho.adv (n := 5)).adv (n := 8)).new (k := s1.nx + 11) (o := .cells [.p (.int .i64 0), .p (.int .i64 0), .p (.int .i64 0), .p (.int .i64 0), .p (.int .i64 0), .nils] false) (by omega) rfl) rfl
          exact q1.mono (by simp only [St.nx_put, St.nx_adv]; omega)
        clear hlen h1 h2 h4 h5 h6 h9 h10 h11 h12 h13 h14 h15 h16 h17 g0 ho e s1 hc
        rintro ⟨e, ds, s1⟩ ⟨k18, rfl, hlen, h1, h2, h4, h5, h6, h9, h10, h11, h12, h13, h14, h15, h16, h17, h18, ho⟩
        simp only at hlen h1 h2 h4 h5 h6 h9 h10 h11 h12 h13 h14 h15 h16 h17 h18 ho
        have g0 := ho.at_ (0, .cells (x.pd.map .p) false) (by simp)
        have g18 := ho.at_ (k18, .cells (u.h.pd.map .p) false) (by simp)
        simp only [List.map_cons, List.map_nil] at g0 g18
        refine Wc.seq ?_
        refine Wc.reg fun K hK => ?_; simp only [go_sem, ti3, ti9, ti4, ti35, ti22, ti23, ti24, ti26, ti32, ti34, ti45, ti48, ti53, ti55, ti57, ti75, ti77, ti83, hlen, h1, h2, h4, h5, h6, h9, h10, h11, h12, h13, h14, h15, h16, h17, h18, g0, g18, hix, hca]
        refine OA.appI (L1 := [slI c16 (W16), slI c15 (W15), slI c14 (W14), slI c13 (W13), slI c12 (W12), slI c11 (W11), slI c10 (W10), slI c9 (W9)]) (L2 := []) (c := c6) (W := W6) (v := u.t) (ho.adv (n := 10)) (by omega) (by omega) (by first | omega | (simp only [List.length_append, List.length_map, List.length_take, List.length_cons, List.length_nil]; omega)) fun d6 s2 os2 ns2 => ?_
        have os2 : OA s2.nx s2 [slI c16 (W16), slI c15 (W15), slI c14 (W14), slI c13 (W13), slI c12 (W12), slI c11 (W11), slI c10 (W10), slI c9 (W9), slI d6 (W6 ++ [u.t])] [(k18, .cells (u.h.pd.map .p) false), (13, .cells [.p (.str (appV [] x.k).1), .p (pI 0)] false), (7, .cells ((Z).pd.map .p) false), (1, .cells [.p (pI 0), .nils, .p (pI 0), .p (pI 0), .p (pI 0), .p (pI 0), .p (pI 0), .p (.int .u32 0), .p (.int .u32 0), .p (.int .u32 0), .p (.int .u32 0), .p (.int .u32 0), .p (.int .u32 0), .p (.int .u32 0), .p (.int .u32 0), .p (.str [])] false), (0, .cells (x.pd.map .p) false)] := os2.mono (b' := s2.nx) (by rw [ns2]; simp only [St.nx_adv]; omega)
        simp only [go_sem, ti3, ti9, ti4, ti35, ti22, ti23, ti24, ti26, ti32, ti34, ti45, ti48, ti53, ti55, ti57, ti75, ti77, ti83, hlen, h1, h2, h4, h5, h6, h9, h10, h11, h12, h13, h14, h15, h16, h17, h18, g0, g18, hix, hca]; refine hK _ _ ?_; clear hK K
        have g18 := os2.at_ (k18, .cells (u.h.pd.map .p) false) (by simp)
        simp only [List.map_cons, List.map_nil] at g18
        refine Wc.seq ?_
        refine Wc.regD fun K hK => ?_; simp only [go_sem, ti3, ti9, ti4, ti35, ti22, ti23, ti24, ti26, ti32, ti34, ti45, ti48, ti53, ti55, ti57, ti75, ti77, ti83, hlen, h1, h2, h4, h5, h6, h9, h10, h11, h12, h13, h14, h15, h16, h17, h18, g18]
        refine OA.appI (L1 := [slI c16 (W16), slI c15 (W15), slI c14 (W14), slI c13 (W13), slI c12 (W12), slI c11 (W11), slI c10 (W10)]) (L2 := [slI d6 (W6 ++ [u.t])]) (c := c9) (W := W9) (v := u.h.p) (os2.adv (n := 24)) (by omega) (by omega) (by first | omega | (simp only [List.length_append, List.length_map, List.length_take, List.length_cons, List.length_nil]; omega)) fun d9 s3 os3 ns3 => ?_
        have os3 : OA _ s3 [slI c16 (W16), slI c15 (W15), slI c14 (W14), slI c13 (W13), slI c12 (W12), slI c11 (W11), slI c10 (W10), slI d9 (W9 ++ [u.h.p]), slI d6 (W6 ++ [u.t])] [(k18, .cells (u.h.pd.map .p) false), (13, .cells [.p (.str (appV [] x.k).1), .p (pI 0)] false), (7, .cells ((Z).pd.map .p) false), (1, .cells [.p (pI 0), .nils, .p (pI 0), .p (pI 0), .p (pI 0), .p (pI 0), .p (pI 0), .p (.int .u32 0), .p (.int .u32 0), .p (.int .u32 0), .p (.int .u32 0), .p (.int .u32 0), .p (.int .u32 0), .p (.int .u32 0), .p (.int .u32 0), .p (.str [])] false), (0, .cells (x.pd.map .p) false)] := os3
        have g18 := os3.at_ (k18, .cells (u.h.pd.map .p) false) (by simp)
        simp only [List.map_cons, List.map_nil] at g18
        simp only [go_sem, ti3, ti9, ti4, ti35, ti22, ti23, ti24, ti26, ti32, ti34, ti45, ti48, ti53, ti55, ti57, ti75, ti77, ti83, hlen, h1, h2, h4, h5, h6, h9, h10, h11, h12, h13, h14, h15, h16, h17, h18, g18]
        refine OA.appI (L1 := [slI c16 (W16), slI c15 (W15), slI c14 (W14), slI c13 (W13), slI c12 (W12), slI c11 (W11)]) (L2 := [slI d9 (W9 ++ [u.h.p]), slI d6 (W6 ++ [u.t])]) (c := c10) (W := W10) (v := u.h.c) os3 (by omega) (by omega) (by first | omega | (simp only [List.length_append, List.length_map, List.length_take, List.length_cons, List.length_nil]; omega)) fun d10 s4 os4 ns4 => ?_
        have os4 : OA _ s4 [slI c16 (W16), slI c15 (W15), slI c14 (W14), slI c13 (W13), slI c12 (W12), slI c11 (W11), slI d10 (W10 ++ [u.h.c]), slI d9 (W9 ++ [u.h.p]), slI d6 (W6 ++ [u.t])] [(k18, .cells (u.h.pd.map .p) false), (13, .cells [.p (.str (appV [] x.k).1), .p (pI 0)] false), (7, .cells ((Z).pd.map .p) false), (1, .cells [.p (pI 0), .nils, .p (pI 0), .p (pI 0), .p (pI 0), .p (pI 0), .p (pI 0), .p (.int .u32 0), .p (.int .u32 0), .p (.int .u32 0), .p (.int .u32 0), .p (.int .u32 0), .p (.int .u32 0), .p (.int .u32 0), .p (.int .u32 0), .p (.str [])] false), (0, .cells (x.pd.map .p) false)] := os4
        have g18 := os4.at_ (k18, .cells (u.h.pd.map .p) false) (by simp)
        simp only [List.map_cons, List.map_nil] at g18
        simp only [go_sem, ti3, ti9, ti4, ti35, ti22, ti23, ti24, ti26, ti32, ti34, ti45, ti48, ti53, ti55, ti57, ti75, ti77, ti83, hlen, h1, h2, h4, h5, h6, h9, h10, h11, h12, h13, h14, h15, h16, h17, h18, g18]
        refine OA.appI (L1 := [slI c16 (W16), slI c15 (W15), slI c14 (W14), slI c13 (W13), slI c12 (W12)]) (L2 := [slI d10 (W10 ++ [u.h.c]), slI d9 (W9 ++ [u.h.p]), slI d6 (W6 ++ [u.t])]) (c := c11) (W := W11) (v := u.h.mn) os4 (by omega) (by omega) (by first | omega | (simp only [List.length_append, List.length_map, List.length_take, List.length_cons, List.length_nil]; omega)) fun d11 s5 os5 ns5 => ?_
        have os5 : OA _ s5 [slI c16 (W16), slI c15 (W15), slI c14 (W14), slI c13 (W13), slI c12 (W12), slI d11 (W11 ++ [u.h.mn]), slI d10 (W10 ++ [u.h.c]), slI d9 (W9 ++ [u.h.p]), slI d6 (W6 ++ [u.t])] [(k18, .cells (u.h.pd.map .p) false), (13, .cells [.p (.str (appV [] x.k).1), .p (pI 0)] false), (7, .cells ((Z).pd.map .p) false), (1, .cells [.p (pI 0), .nils, .p (pI 0), .p (pI 0), .p (pI 0), .p (pI 0), .p (pI 0), .p (.int .u32 0), .p (.int .u32 0), .p (.int .u32 0), .p (.int .u32 0), .p (.int .u32 0), .p (.int .u32 0), .p (.int .u32 0), .p (.int .u32 0), .p (.str [])] false), (0, .cells (x.pd.map .p) false)] := os5
        have g18 := os5.at_ (k18, .cells (u.h.pd.map .p) false) (by simp)
        simp only [List.map_cons, List.map_nil] at g18
        simp only [go_sem, ti3, ti9, ti4, ti35, ti22, ti23, ti24, ti26, ti32, ti34, ti45, ti48, ti53, ti55, ti57, ti75, ti77, ti83, hlen, h1, h2, h4, h5, h6, h9, h10, h11, h12, h13, h14, h15, h16, h17, h18, g18]
        refine OA.appI (L1 := [slI c16 (W16), slI c15 (W15), slI c14 (W14), slI c13 (W13)]) (L2 := [slI d11 (W11 ++ [u.h.mn]), slI d10 (W10 ++ [u.h.c]), slI d9 (W9 ++ [u.h.p]), slI d6 (W6 ++ [u.t])]) (c := c12) (W := W12) (v := u.h.mx) os5 (by omega) (by omega) (by first | omega | (simp only [List.length_append, List.length_map, List.length_take, List.length_cons, List.length_nil]; omega)) fun d12 s6 os6 ns6 => ?_
        have os6 : OA _ s6 [slI c16 (W16), slI c15 (W15), slI c14 (W14), slI c13 (W13), slI d12 (W12 ++ [u.h.mx]), slI d11 (W11 ++ [u.h.mn]), slI d10 (W10 ++ [u.h.c]), slI d9 (W9 ++ [u.h.p]), slI d6 (W6 ++ [u.t])] [(k18, .cells (u.h.pd.map .p) false), (13, .cells [.p (.str (appV [] x.k).1), .p (pI 0)] false), (7, .cells ((Z).pd.map .p) false), (1, .cells [.p (pI 0), .nils, .p (pI 0), .p (pI 0), .p (pI 0), .p (pI 0), .p (pI 0), .p (.int .u32 0), .p (.int .u32 0), .p (.int .u32 0), .p (.int .u32 0), .p (.int .u32 0), .p (.int .u32 0), .p (.int .u32 0), .p (.int .u32 0), .p (.str [])] false), (0, .cells (x.pd.map .p) false)] := os6
        have os6 : OA s6.nx s6 [slI c16 (W16), slI c15 (W15), slI c14 (W14), slI c13 (W13), slI d12 (W12 ++ [u.h.mx]), slI d11 (W11 ++ [u.h.mn]), slI d10 (W10 ++ [u.h.c]), slI d9 (W9 ++ [u.h.p]), slI d6 (W6 ++ [u.t])] [(k18, .cells (u.h.pd.map .p) false), (13, .cells [.p (.str (appV [] x.k).1), .p (pI 0)] false), (7, .cells ((Z).pd.map .p) false), (1, .cells [.p (pI 0), .nils, .p (pI 0), .p (pI 0), .p (pI 0), .p (pI 0), .p (pI 0), .p (.int .u32 0), .p (.int .u32 0), .p (.int .u32 0), .p (.int .u32 0), .p (.int .u32 0), .p (.int .u32 0), .p (.int .u32 0), .p (.int .u32 0), .p (.str [])] false), (0, .cells (x.pd.map .p) false)] := os6.mono (b' := s6.nx) (by rw [ns6]; simp only [St.nx_put, ns5, ns4, ns3, St.nx_adv]; omega)
        simp only [go_sem, ti3, ti9, ti4, ti35, ti22, ti23, ti24, ti26, ti32, ti34, ti45, ti48, ti53, ti55, ti57, ti75, ti77, ti83, hlen, h1, h2, h4, h5, h6, h9, h10, h11, h12, h13, h14, h15, h16, h17, h18, g18]; refine hK _ _ ?_; clear hK K
        have g18 := os6.at_ (k18, .cells (u.h.pd.map .p) false) (by simp)
        simp only [List.map_cons, List.map_nil] at g18
        refine Wc.seq ?_
        refine Wc.regD fun K hK => ?_; simp only [go_sem, ti3, ti9, ti4, ti35, ti22, ti23, ti24, ti26, ti32, ti34, ti45, ti48, ti53, ti55, ti57, ti75, ti77, ti83, hlen, h1, h2, h4, h5, h6, h9, h10, h11, h12, h13, h14, h15, h16, h17, h18, g18]
        refine OA.appI (L1 := [slI c16 (W16), slI c15 (W15), slI c14 (W14)]) (L2 := [slI d12 (W12 ++ [u.h.mx]), slI d11 (W11 ++ [u.h.mn]), slI d10 (W10 ++ [u.h.c]), slI d9 (W9 ++ [u.h.p]), slI d6 (W6 ++ [u.t])]) (c := c13) (W := W13) (v := (u.h.bs.length : Int)) (os6.adv (n := 13)) (by omega) (by omega) (by first | omega | (simp only [List.length_append, List.length_map, List.length_take, List.length_cons, List.length_nil]; omega)) fun d13 s7 os7 ns7 => ?_
        have os7 : OA _ s7 [slI c16 (W16), slI c15 (W15), slI c14 (W14), slI d13 (W13 ++ [(u.h.bs.length : Int)]), slI d12 (W12 ++ [u.h.mx]), slI d11 (W11 ++ [u.h.mn]), slI d10 (W10 ++ [u.h.c]), slI d9 (W9 ++ [u.h.p]), slI d6 (W6 ++ [u.t])] [(k18, .cells (u.h.pd.map .p) false), (13, .cells [.p (.str (appV [] x.k).1), .p (pI 0)] false), (7, .cells ((Z).pd.map .p) false), (1, .cells [.p (pI 0), .nils, .p (pI 0), .p (pI 0), .p (pI 0), .p (pI 0), .p (pI 0), .p (.int .u32 0), .p (.int .u32 0), .p (.int .u32 0), .p (.int .u32 0), .p (.int .u32 0), .p (.int .u32 0), .p (.int .u32 0), .p (.int .u32 0), .p (.str [])] false), (0, .cells (x.pd.map .p) false)] := os7
        have g18 := os7.at_ (k18, .cells (u.h.pd.map .p) false) (by simp)
        simp only [List.map_cons, List.map_nil] at g18
        simp only [go_sem, ti3, ti9, ti4, ti35, ti22, ti23, ti24, ti26, ti32, ti34, ti45, ti48, ti53, ti55, ti57, ti75, ti77, ti83, hlen, h1, h2, h4, h5, h6, h9, h10, h11, h12, h13, h14, h15, h16, h17, h18, g18]
        refine OA.appI (L1 := []) (L2 := [slI c15 (W15), slI c14 (W14), slI d13 (W13 ++ [(u.h.bs.length : Int)]), slI d12 (W12 ++ [u.h.mx]), slI d11 (W11 ++ [u.h.mn]), slI d10 (W10 ++ [u.h.c]), slI d9 (W9 ++ [u.h.p]), slI d6 (W6 ++ [u.t])]) (c := c16) (W := W16) (v := u.h.s) os7 (by omega) (by omega) (by first | omega | (simp only [List.length_append, List.length_map, List.length_take, List.length_cons, List.length_nil]; omega)) fun d16 s8 os8 ns8 => ?_
        have os8 : OA s8.nx s8 [slI d16 (W16 ++ [u.h.s]), slI c15 (W15), slI c14 (W14), slI d13 (W13 ++ [(u.h.bs.length : Int)]), slI d12 (W12 ++ [u.h.mx]), slI d11 (W11 ++ [u.h.mn]), slI d10 (W10 ++ [u.h.c]), slI d9 (W9 ++ [u.h.p]), slI d6 (W6 ++ [u.t])] [(k18, .cells (u.h.pd.map .p) false), (13, .cells [.p (.str (appV [] x.k).1), .p (pI 0)] false), (7, .cells ((Z).pd.map .p) false), (1, .cells [.p (pI 0), .nils, .p (pI 0), .p (pI 0), .p (pI 0), .p (pI 0), .p (pI 0), .p (.int .u32 0), .p (.int .u32 0), .p (.int .u32 0), .p (.int .u32 0), .p (.int .u32 0), .p (.int .u32 0), .p (.int .u32 0), .p (.int .u32 0), .p (.str [])] false), (0, .cells (x.pd.map .p) false)] := os8.mono (b' := s8.nx) (by rw [ns8]; simp only [St.nx_put, ns7, St.nx_adv]; omega)
        simp only [go_sem, ti3, ti9, ti4, ti35, ti22, ti23, ti24, ti26, ti32, ti34, ti45, ti48, ti53, ti55, ti57, ti75, ti77, ti83, hlen, h1, h2, h4, h5, h6, h9, h10, h11, h12, h13, h14, h15, h16, h17, h18, g18]; refine hK _ _ ?_; clear hK K
        refine Wc.seqA (fun y => ∃ a14 a15, y.ds = [] ∧ y.e.length = 215 ∧ y.e.getD 1 .junk = .v (.c (.ref 0 0)) ∧ y.e.getD 2 .junk = .v (.c (.ref 1 0)) ∧ y.e.getD 4 .junk = .v (.c (.ref 7 0)) ∧ y.e.getD 5 .junk = .v (.c (.ref 13 0)) ∧ y.e.getD 6 .junk = .v (.c d6) ∧ y.e.getD 9 .junk = .v (.c d9) ∧ y.e.getD 10 .junk = .v (.c d10) ∧ y.e.getD 11 .junk = .v (.c d11) ∧ y.e.getD 12 .junk = .v (.c d12) ∧ y.e.getD 13 .junk = .v (.c d13) ∧ y.e.getD 14 .junk = .v (.c a14) ∧ y.e.getD 15 .junk = .v (.c a15) ∧ y.e.getD 16 .junk = .v (.c d16) ∧ y.e.getD 17 .junk = P' (pI i) ∧ y.e.getD 18 .junk = .v (.c (.ref k18 0)) ∧ OA y.s.nx y.s [slI d16 (W16 ++ [u.h.s]), slI a15 (W15 ++ u.h.bs.map (·.2)), slI a14 (W14 ++ u.h.bs.map (·.1)), slI d13 (W13 ++ [(u.h.bs.length : Int)]), slI d12 (W12 ++ [u.h.mx]), slI d11 (W11 ++ [u.h.mn]), slI d10 (W10 ++ [u.h.c]), slI d9 (W9 ++ [u.h.p]), slI d6 (W6 ++ [u.t])] [(k18, .cells (u.h.pd.map .p) false), (13, .cells [.p (.str (appV [] x.k).1), .p (pI 0)] false), (7, .cells ((Z).pd.map .p) false), (1, .cells [.p (pI 0), .nils, .p (pI 0), .p (pI 0), .p (pI 0), .p (pI 0), .p (pI 0), .p (.int .u32 0), .p (.int .u32 0), .p (.int .u32 0), .p (.int .u32 0), .p (.int .u32 0), .p (.int .u32 0), .p (.int .u32 0), .p (.int .u32 0), .p (.str [])] false), (0, .cells (x.pd.map .p) false)]) ?_ ?_
        · refine Wc.seq ?_
          refine Wc.reg fun K hK => ?_; simp only [go_sem, ti3, ti9, ti4, ti35, ti22, ti23, ti24, ti26, ti32, ti34, ti45, ti48, ti53, ti55, ti57, ti75, ti77, ti83, hlen, h1, h2, h4, h5, h6, h9, h10, h11, h12, h13, h14, h15, h16, h17, h18, Int.natCast_zero]; refine hK _ _ ?_; clear hK K
          have hfb : (u.h.bs.flatMap p2).length = u.h.bs.length * 2 := flat_len (k := 2) (fun _ => rfl) _
          refine Wc.block (Wc.loop (fun k y => ∃ (j : Nat) (a14 a15 : C), k = u.h.bs.length - j ∧ j ≤ u.h.bs.length ∧ y.ds = [] ∧ y.e.length = 215 ∧ y.e.getD 1 .junk = .v (.c (.ref 0 0)) ∧ y.e.getD 2 .junk = .v (.c (.ref 1 0)) ∧ y.e.getD 4 .junk = .v (.c (.ref 7 0)) ∧ y.e.getD 5 .junk = .v (.c (.ref 13 0)) ∧ y.e.getD 6 .junk = .v (.c d6) ∧ y.e.getD 9 .junk = .v (.c d9) ∧ y.e.getD 10 .junk = .v (.c d10) ∧ y.e.getD 11 .junk = .v (.c d11) ∧ y.e.getD 12 .junk = .v (.c d12) ∧ y.e.getD 13 .junk = .v (.c d13) ∧ y.e.getD 14 .junk = .v (.c a14) ∧ y.e.getD 15 .junk = .v (.c a15) ∧ y.e.getD 16 .junk = .v (.c d16) ∧ y.e.getD 17 .junk = P' (pI i) ∧ y.e.getD 18 .junk = .v (.c (.ref k18 0)) ∧ y.e.getD 19 .junk = P' (pI j) ∧ OA y.s.nx y.s [slI d16 (W16 ++ [u.h.s]), slI a15 (W15 ++ (u.h.bs.take j).map (·.2)), slI a14 (W14 ++ (u.h.bs.take j).map (·.1)), slI d13 (W13 ++ [(u.h.bs.length : Int)]), slI d12 (W12 ++ [u.h.mx]), slI d11 (W11 ++ [u.h.mn]), slI d10 (W10 ++ [u.h.c]), slI d9 (W9 ++ [u.h.p]), slI d6 (W6 ++ [u.t])] [(k18, .cells (u.h.pd.map .p) false), (13, .cells [.p (.str (appV [] x.k).1), .p (pI 0)] false), (7, .cells ((Z).pd.map .p) false), (1, .cells [.p (pI 0), .nils, .p (pI 0), .p (pI 0), .p (pI 0), .p (pI 0), .p (pI 0), .p (.int .u32 0), .p (.int .u32 0), .p (.int .u32 0), .p (.int .u32 0), .p (.int .u32 0), .p (.int .u32 0), .p (.int .u32 0), .p (.int .u32 0), .p (.str [])] false), (0, .cells (x.pd.map .p) false)]) ?_ (k := u.h.bs.length) ?_)
          · clear hlen h1 h2 h4 h5 h6 h9 h10 h11 h12 h13 h14 h15 h16 h17 h18 g18 e os8 os7 os6 os5 os4 os3 os2 ho ns2 ns3 ns4 ns5 ns6 ns7 ns8
            rintro k ⟨e, ds, s9⟩ ⟨j, a14, a15, rfl, hj, rfl, hlen, h1, h2, h4, h5, h6, h9, h10, h11, h12, h13, h14, h15, h16, h17, h18, h19, ho⟩
            simp only at hlen h1 h2 h4 h5 h6 h9 h10 h11 h12 h13 h14 h15 h16 h17 h18 h19 ho
            have g18 := ho.at_ (k18, .cells (u.h.pd.map .p) false) (by simp)
            simp only [List.map_cons, List.map_nil] at g18
            refine Wc.seq (Wc.seq ?_)
            refine Wc.reg fun K hK => ?_; simp only [go_sem, ti3, ti9, ti4, ti35, ti22, ti23, ti24, ti26, ti32, ti34, ti45, ti48, ti53, ti55, ti57, ti75, ti77, ti83, hlen, h1, h2, h4, h5, h6, h9, h10, h11, h12, h13, h14, h15, h16, h17, h18, h19, g18]; refine hK _ _ ?_; clear hK K
            refine Wc.cond (t := decide ((j : Int) < u.h.bs.length)) (by simp only [go_sem, ti3, ti9, ti4, ti35, ti22, ti23, ti24, ti26, ti32, ti34, ti45, ti48, ti53, ti55, ti57, ti75, ti77, ti83, hlen]) (fun hc => ?_) (fun hc => ?_)
            · have hjl : j < u.h.bs.length := by have h9 : (j : Int) < u.h.bs.length := (by simpa using hc); omega
              obtain ⟨b, hb⟩ : ∃ b, u.h.bs[j]? = some b := ⟨u.h.bs[j], List.getElem?_eq_getElem hjl⟩
              have hjx := ixA ti53 rfl ti83 (j := j) (m := u.h.bs.length) (cs := u.h.bs.flatMap p2) hjl hfb (by decide)
              have hja := rpA (off := j * 2) (drop_flat (f := p2) (k := 2) (fun _ => rfl) hb) (by rw [hfb]; omega)
              have hje := rpA (off := j * 2 + 1) (cs := u.h.bs.flatMap p2) (pre := [pI b.2]) (rest := (u.h.bs.drop (j + 1)).flatMap p2) (by rw [← List.drop_drop, drop_flat (f := p2) (k := 2) (fun _ => rfl) hb]; rfl) (by rw [hfb]; omega)
              have t14 : (u.h.bs.take (j + 1)).map (·.1) = (u.h.bs.take j).map (·.1) ++ [b.1] := by rw [take_snoc hb]; simp
              have t15 : (u.h.bs.take (j + 1)).map (·.2) = (u.h.bs.take j).map (·.2) ++ [b.2] := by rw [take_snoc hb]; simp
              refine Wc.skip (Wc.seq (Wc.block ?_))
              refine Wc.regD fun K hK => ?_; simp only [go_sem, ti3, ti9, ti4, ti35, ti22, ti23, ti24, ti26, ti32, ti34, ti45, ti48, ti53, ti55, ti57, ti75, ti77, ti83, hlen, h1, h2, h4, h5, h6, h9, h10, h11, h12, h13, h14, h15, h16, h17, h18, h19, g18, hjx, hja, hje]
              refine OA.appI (L1 := [slI d16 (W16 ++ [u.h.s]), slI a15 (W15 ++ (u.h.bs.take j).map (·.2))]) (L2 := [slI d13 (W13 ++ [(u.h.bs.length : Int)]), slI d12 (W12 ++ [u.h.mx]), slI d11 (W11 ++ [u.h.mn]), slI d10 (W10 ++ [u.h.c]), slI d9 (W9 ++ [u.h.p]), slI d6 (W6 ++ [u.t])]) (c := a14) (W := W14 ++ (u.h.bs.take j).map (·.1)) (v := b.1) ((ho.adv (n := 5)).adv (n := 20)) (by omega) (by omega) (by first | omega | (simp only [List.length_append, List.length_map, List.length_take, List.length_cons, List.length_nil]; omega)) fun d14x q1 oq1 nq1 => ?_
              have oq1 : OA _ q1 [slI d16 (W16 ++ [u.h.s]), slI a15 (W15 ++ (u.h.bs.take j).map (·.2)), slI d14x (W14 ++ (u.h.bs.take j).map (·.1) ++ [b.1]), slI d13 (W13 ++ [(u.h.bs.length : Int)]), slI d12 (W12 ++ [u.h.mx]), slI d11 (W11 ++ [u.h.mn]), slI d10 (W10 ++ [u.h.c]), slI d9 (W9 ++ [u.h.p]), slI d6 (W6 ++ [u.t])] [(k18, .cells (u.h.pd.map .p) false), (13, .cells [.p (.str (appV [] x.k).1), .p (pI 0)] false), (7, .cells ((Z).pd.map .p) false), (1, .cells [.p (pI 0), .nils, .p (pI 0), .p (pI 0), .p (pI 0), .p (pI 0), .p (pI 0), .p (.int .u32 0), .p (.int .u32 0), .p (.int .u32 0), .p (.int .u32 0), .p (.int .u32 0), .p (.int .u32 0), .p (.int .u32 0), .p (.int .u32 0), .p (.str [])] false), (0, .cells (x.pd.map .p) false)] := oq1
              have g18 := oq1.at_ (k18, .cells (u.h.pd.map .p) false) (by simp)
              simp only [List.map_cons, List.map_nil] at g18
              simp only [go_sem, ti3, ti9, ti4, ti35, ti22, ti23, ti24, ti26, ti32, ti34, ti45, ti48, ti53, ti55, ti57, ti75, ti77, ti83, hlen, h1, h2, h4, h5, h6, h9, h10, h11, h12, h13, h14, h15, h16, h17, h18, h19, g18, hjx, hja, hje]
              refine OA.appI (L1 := [slI d16 (W16 ++ [u.h.s])]) (L2 := [slI d14x (W14 ++ (u.h.bs.take j).map (·.1) ++ [b.1]), slI d13 (W13 ++ [(u.h.bs.length : Int)]), slI d12 (W12 ++ [u.h.mx]), slI d11 (W11 ++ [u.h.mn]), slI d10 (W10 ++ [u.h.c]), slI d9 (W9 ++ [u.h.p]), slI d6 (W6 ++ [u.t])]) (c := a15) (W := W15 ++ (u.h.bs.take j).map (·.2)) (v := b.2) oq1 (by omega) (by omega) (by first | omega | (simp only [List.length_append, List.length_map, List.length_take, List.length_cons, List.length_nil]; omega)) fun d15x q2 oq2 nq2 => ?_
              have oq2 : OA q2.nx q2 [slI d16 (W16 ++ [u.h.s]), slI d15x (W15 ++ (u.h.bs.take j).map (·.2) ++ [b.2]), slI d14x (W14 ++ (u.h.bs.take j).map (·.1) ++ [b.1]), slI d13 (W13 ++ [(u.h.bs.length : Int)]), slI d12 (W12 ++ [u.h.mx]), slI d11 (W11 ++ [u.h.mn]), slI d10 (W10 ++ [u.h.c]), slI d9 (W9 ++ [u.h.p]), slI d6 (W6 ++ [u.t])] [(k18, .cells (u.h.pd.map .p) false), (13, .cells [.p (.str (appV [] x.k).1), .p (pI 0)] false), (7, .cells ((Z).pd.map .p) false), (1, .cells [.p (pI 0), .nils, .p (pI 0), .p (pI 0), .p (pI 0), .p (pI 0), .p (pI 0), .p (.int .u32 0), .p (.int .u32 0), .p (.int .u32 0), .p (.int .u32 0), .p (.int .u32 0), .p (.int .u32 0), .p (.int .u32 0), .p (.int .u32 0), .p (.str [])] false), (0, .cells (x.pd.map .p) false)] := oq2.mono (b' := q2.nx) (by rw [nq2]; simp only [St.nx_put, nq1, St.nx_adv]; omega)
              simp only [go_sem, ti3, ti9, ti4, ti35, ti22, ti23, ti24, ti26, ti32, ti34, ti45, ti48, ti53, ti55, ti57, ti75, ti77, ti83, hlen, h1, h2, h4, h5, h6, h9, h10, h11, h12, h13, h14, h15, h16, h17, h18, h19, g18, hjx, hja, hje]; refine hK _ _ ?_; clear hK K
              refine Wc.reg fun K hK => ?_; simp only [go_sem, ti3, ti9, ti4, ti35, ti22, ti23, ti24, ti26, ti32, ti34, ti45, ti48, ti53, ti55, ti57, ti75, ti77, ti83, hlen, h1, h2, h4, h5, h6, h9, h10, h11, h12, h13, h14, h15, h16, h17, h18, h19, i64n j (by omega)]; refine hK _ _ ?_; clear hK K
              refine ⟨u.h.bs.length - (j + 1), by omega, j + 1, d14x, d15x, rfl, by omega, rfl, by simp only [go_sem, ti3, ti9, ti4, ti35, ti22, ti23, ti24, ti26, ti32, ti34, ti45, ti48, ti53, ti55, ti57, ti75, ti77, ti83, hlen], by simp only [go_sem, ti3, ti9, ti4, ti35, ti22, ti23, ti24, ti26, ti32, ti34, ti45, ti48, ti53, ti55, ti57, ti75, ti77, ti83, hlen, h1], by simp only [go_sem, ti3, ti9, ti4, ti35, ti22, ti23, ti24, ti26, ti32, ti34, ti45, ti48, ti53, ti55, ti57, ti75, ti77, ti83, hlen, h2], by simp only [go_sem, ti3, ti9, ti4, ti35, ti22, ti23, ti24, ti26, ti32, ti34, ti45, ti48, ti53, ti55, ti57, ti75, ti77, ti83, hlen, h4], by simp only [go_sem, ti3, ti9, ti4, ti35, ti22, ti23, ti24, ti26, ti32, ti34, ti45, ti48, ti53, ti55, ti57, ti75, ti77, ti83, hlen, h5], by simp only [go_sem, ti3, ti9, ti4, ti35, ti22, ti23, ti24, ti26, ti32, ti34, ti45, ti48, ti53, ti55, ti57, ti75, ti77, ti83, hlen, h6], by simp only [go_sem, ti3, ti9, ti4, ti35, ti22, ti23, ti24, ti26, ti32, ti34, ti45, ti48, ti53, ti55, ti57, ti75, ti77, ti83, hlen, h9], by simp only [go_sem, ti3, ti9, ti4, ti35, ti22, ti23, ti24, ti26, ti32, ti34, ti45, ti48, ti53, ti55, ti57, ti75, ti77, ti83, hlen, h10], by simp only [go_sem, ti3, ti9, ti4, ti35, ti22, ti23, ti24, ti26, ti32, ti34, ti45, ti48, ti53, ti55, ti57, ti75, ti77, ti83, hlen, h11], by simp only [go_sem, ti3, ti9, ti4, ti35, ti22, ti23, ti24, ti26, ti32, ti34, ti45, ti48, ti53, ti55, ti57, ti75, ti77, ti83, hlen, h12], by simp only [go_sem, ti3, ti9, ti4, ti35, ti22, ti23, ti24, ti26, ti32, ti34, ti45, ti48, ti53, ti55, ti57, ti75, ti77, ti83, hlen, h13], by simp only [go_sem, ti3, ti9, ti4, ti35, ti22, ti23, ti24, ti26, ti32, ti34, ti45, ti48, ti53, ti55, ti57, ti75, ti77, ti83, hlen], by simp only [go_sem, ti3, ti9, ti4, ti35, ti22, ti23, ti24, ti26, ti32, ti34, ti45, ti48, ti53, ti55, ti57, ti75, ti77, ti83, hlen], by simp only [go_sem, ti3, ti9, ti4, ti35, ti22, ti23, ti24, ti26, ti32, ti34, ti45, ti48, ti53, ti55, ti57, ti75, ti77, ti83, hlen, h16], by simp only [go_sem, ti3, ti9, ti4, ti35, ti22, ti23, ti24, ti26, ti32, ti34, ti45, ti48, ti53, ti55, ti57, ti75, ti77, ti83, hlen, h17], by simp only [go_sem, ti3, ti9, ti4, ti35, ti22, ti23, ti24, ti26, ti32, ti34, ti45, ti48, ti53, ti55, ti57, ti75, ti77, ti83, hlen, h18], by simp only [go_sem, ti3, ti9, ti4, ti35, ti22, ti23, ti24, ti26, ti32, ti34, ti45, ti48, ti53, ti55, ti57, ti75, ti77, ti83, hlen], ?_⟩
              rw [t14, t15, ← List.append_assoc, ← List.append_assoc]
              exact (oq2.mono (Nat.le_add_right _ 3)).adv
            · have hjl : j = u.h.bs.length := by have h9 : ¬ (j : Int) < u.h.bs.length := (by simpa using hc); omega
              subst hjl
              rw [List.take_length] at ho
              exact Wc.exit ⟨rfl, a14, a15, rfl, by simp only [go_sem, ti3, ti9, ti4, ti35, ti22, ti23, ti24, ti26, ti32, ti34, ti45, ti48, ti53, ti55, ti57, ti75, ti77, ti83, hlen], by simp only [go_sem, ti3, ti9, ti4, ti35, ti22, ti23, ti24, ti26, ti32, ti34, ti45, ti48, ti53, ti55, ti57, ti75, ti77, ti83, hlen, h1], by simp only [go_sem, ti3, ti9, ti4, ti35, ti22, ti23, ti24, ti26, ti32, ti34, ti45, ti48, ti53, ti55, ti57, ti75, ti77, ti83, hlen, h2], by simp only [go_sem, ti3, ti9, ti4, ti35, ti22, ti23, ti24, ti26, ti32, ti34, ti45, ti48, ti53, ti55, ti57, ti75, ti77, ti83, hlen, h4], by simp only [go_sem, ti3, ti9, ti4, ti35, ti22, ti23, ti24, ti26, ti32, ti34, ti45, ti48, ti53, ti55, ti57, ti75, ti77, ti83, hlen, h5], by simp only [go_sem, ti3, ti9, ti4, ti35, ti22, ti23, ti24, ti26, ti32, ti34, ti45, ti48, ti53, ti55, ti57, ti75, ti77, ti83, hlen, h6], by simp only [go_sem, ti3, ti9, ti4, ti35, ti22, ti23, ti24, ti26, ti32, ti34, ti45, ti48, ti53, ti55, ti57, ti75, ti77, ti83, hlen, h9], by simp only [go_sem, ti3, ti9, ti4, ti35, ti22, ti23, ti24, ti26, ti32, ti34, ti45, ti48, ti53, ti55, ti57, ti75, ti77, ti83, hlen, h10], by simp only [go_sem, ti3, ti9, ti4, ti35, ti22, ti23, ti24, ti26, ti32, ti34, ti45, ti48, ti53, ti55, ti57, ti75, ti77, ti83, hlen, h11], by simp only [go_sem, ti3, ti9, ti4, ti35, ti22, ti23, ti24, ti26, ti32, ti34, ti45, ti48, ti53, ti55, ti57, ti75, ti77, ti83, hlen, h12], by simp only [go_sem, ti3, ti9, ti4, ti35, ti22, ti23, ti24, ti26, ti32, ti34, ti45, ti48, ti53, ti55, ti57, ti75, ti77, ti83, hlen, h13], by simp only [go_sem, ti3, ti9, ti4, ti35, ti22, ti23, ti24, ti26, ti32, ti34, ti45, ti48, ti53, ti55, ti57, ti75, ti77, ti83, hlen, h14], by simp only [go_sem, ti3, ti9, ti4, ti35, ti22, ti23, ti24, ti26, ti32, ti34, ti45, ti48, ti53, ti55, ti57, ti75, ti77, ti83, hlen, h15], by simp only [go_sem, ti3, ti9, ti4, ti35, ti22, ti23, ti24, ti26, ti32, ti34, ti45, ti48, ti53, ti55, ti57, ti75, ti77, ti83, hlen, h16], by simp only [go_sem, ti3, ti9, ti4, ti35, ti22, ti23, ti24, ti26, ti32, ti34, ti45, ti48, ti53, ti55, ti57, ti75, ti77, ti83, hlen, h17], by simp only [go_sem, ti3, ti9, ti4, ti35, ti22, ti23, ti24, ti26, ti32, ti34, ti45, ti48, ti53, ti55, ti57, ti75, ti77, ti83, hlen, h18], (ho.mono (Nat.le_add_right _ 5)).adv⟩
          · refine ⟨0, c14, c15, rfl, by omega, rfl, by simp only [go_sem, ti3, ti9, ti4, ti35, ti22, ti23, ti24, ti26, ti32, ti34, ti45, ti48, ti53, ti55, ti57, ti75, ti77, ti83, hlen], by simp only [go_sem, ti3, ti9, ti4, ti35, ti22, ti23, ti24, ti26, ti32, ti34, ti45, ti48, ti53, ti55, ti57, ti75, ti77, ti83, hlen, h1], by simp only [go_sem, ti3, ti9, ti4, ti35, ti22, ti23, ti24, ti26, ti32, ti34, ti45, ti48, ti53, ti55, ti57, ti75, ti77, ti83, hlen, h2], by simp only [go_sem, ti3, ti9, ti4, ti35, ti22, ti23, ti24, ti26, ti32, ti34, ti45, ti48, ti53, ti55, ti57, ti75, ti77, ti83, hlen, h4], by simp only [go_sem, ti3, ti9, ti4, ti35, ti22, ti23, ti24, ti26, ti32, ti34, ti45, ti48, ti53, ti55, ti57, ti75, ti77, ti83, hlen, h5], by simp only [go_sem, ti3, ti9, ti4, ti35, ti22, ti23, ti24, ti26, ti32, ti34, ti45, ti48, ti53, ti55, ti57, ti75, ti77, ti83, hlen, h6], by simp only [go_sem, ti3, ti9, ti4, ti35, ti22, ti23, ti24, ti26, ti32, ti34, ti45, ti48, ti53, ti55, ti57, ti75, ti77, ti83, hlen, h9], by simp only [go_sem, ti3, ti9, ti4, ti35, ti22, ti23, ti24, ti26, ti32, ti34, ti45, ti48, ti53, ti55, ti57, ti75, ti77, ti83, hlen, h10], by simp only [go_sem, ti3, ti9, ti4, ti35, ti22, ti23, ti24, ti26, ti32, ti34, ti45, ti48, ti53, ti55, ti57, ti75, ti77, ti83, hlen, h11], by simp only [go_sem, ti3, ti9, ti4, ti35, ti22, ti23, ti24, ti26, ti32, ti34, ti45, ti48, ti53, ti55, ti57, ti75, ti77, ti83, hlen, h12], by simp only [go_sem, ti3, ti9, ti4, ti35, ti22, ti23, ti24, ti26, ti32, ti34, ti45, ti48, ti53, ti55, ti57, ti75, ti77, ti83, hlen, h13], by simp only [go_sem, ti3, ti9, ti4, ti35, ti22, ti23, ti24, ti26, ti32, ti34, ti45, ti48, ti53, ti55, ti57, ti75, ti77, ti83, hlen, h14], by simp only [go_sem, ti3, ti9, ti4, ti35, ti22, ti23, ti24, ti26, ti32, ti34, ti45, ti48, ti53, ti55, ti57, ti75, ti77, ti83, hlen, h15], by simp only [go_sem, ti3, ti9, ti4, ti35, ti22, ti23, ti24, ti26, ti32, ti34, ti45, ti48, ti53, ti55, ti57, ti75, ti77, ti83, hlen, h16], by simp only [go_sem, ti3, ti9, ti4, ti35, ti22, ti23, ti24, ti26, ti32, ti34, ti45, ti48, ti53, ti55, ti57, ti75, ti77, ti83, hlen, h17], by simp only [go_sem, ti3, ti9, ti4, ti35, ti22, ti23, ti24, ti26, ti32, ti34, ti45, ti48, ti53, ti55, ti57, ti75, ti77, ti83, hlen, h18], by simp only [go_sem, ti3, ti9, ti4, ti35, ti22, ti23, ti24, ti26, ti32, ti34, ti45, ti48, ti53, ti55, ti57, ti75, ti77, ti83, hlen]; rfl, ?_⟩
            have q9 := (os8.mono (Nat.le_add_right _ 1)).adv (n := 1)
            rw [List.take_zero, List.map_nil, List.map_nil, List.append_nil, List.append_nil]
            exact q9
        clear hlen h1 h2 h4 h5 h6 h9 h10 h11 h12 h13 h14 h15 h16 h17 h18 g18 e os8 os7 os6 os5 os4 os3 os2 ho ns2 ns3 ns4 ns5 ns6 ns7 ns8
        rintro ⟨e, ds, s9⟩ ⟨a14, a15, rfl, hlen, h1, h2, h4, h5, h6, h9, h10, h11, h12, h13, h14, h15, h16, h17, h18, ho⟩
        simp only at hlen h1 h2 h4 h5 h6 h9 h10 h11 h12 h13 h14 h15 h16 h17 h18 ho
        have g0 := ho.at_ (0, .cells (x.pd.map .p) false) (by simp)
        have g18 := ho.at_ (k18, .cells (u.h.pd.map .p) false) (by simp)
        have gz := ho.at_ (7, .cells (Z.pd.map .p) false) (by simp)
        simp only [List.map_cons, List.map_nil] at g0 g18 gz
        refine Wc.regT fun K hK => ?_
        simp only [go_sem, ti3, ti9, ti4, ti35, ti22, ti23, ti24, ti26, ti32, ti34, ti45, ti48, ti53, ti55, ti57, ti75, ti77, ti83, hlen, h1, h2, h4, h5, h6, h9, h10, h11, h12, h13, h14, h15, h16, h17, h18, g0, g18, gz, hix, hca, o30, x30]
        refine wpCall.pf padd (by kernel_rfl) (by kernel_rfl) rfl rfl ?_
        simp only [go_sem, ti3, ti9, ti4, ti35, ti22, ti23, ti24, ti26, ti32, ti34, ti45, ti48, ti53, ti55, ti57, ti75, ti77, ti83, hlen, h1, h2, h4, h5, h6, h9, h10, h11, h12, h13, h14, h15, h16, h17, h18, g0, g18, gz, hix, hca, o30, x30]
        refine ⟨trOK_of (by rfl), hK _ _ ?_⟩
        clear hK K
        refine Wc.reg fun K hK => ?_; simp only [go_sem, ti3, ti9, ti4, ti35, ti22, ti23, ti24, ti26, ti32, ti34, ti45, ti48, ti53, ti55, ti57, ti75, ti77, ti83, hlen, h1, h2, h4, h5, h6, h9, h10, h11, h12, h13, h14, h15, h16, h17, h18, i64n i (by omega)]; refine hK _ _ ?_; clear hK K
        refine ⟨x.hs.length - (i + 1), by omega, i + 1, d6, d9, d10, d11, d12, d13, a14, a15, d16, rfl, by omega, rfl, by simp only [go_sem, ti3, ti9, ti4, ti35, ti22, ti23, ti24, ti26, ti32, ti34, ti45, ti48, ti53, ti55, ti57, ti75, ti77, ti83, hlen], by simp only [go_sem, ti3, ti9, ti4, ti35, ti22, ti23, ti24, ti26, ti32, ti34, ti45, ti48, ti53, ti55, ti57, ti75, ti77, ti83, hlen, h1], by simp only [go_sem, ti3, ti9, ti4, ti35, ti22, ti23, ti24, ti26, ti32, ti34, ti45, ti48, ti53, ti55, ti57, ti75, ti77, ti83, hlen, h2], by simp only [go_sem, ti3, ti9, ti4, ti35, ti22, ti23, ti24, ti26, ti32, ti34, ti45, ti48, ti53, ti55, ti57, ti75, ti77, ti83, hlen, h4], by simp only [go_sem, ti3, ti9, ti4, ti35, ti22, ti23, ti24, ti26, ti32, ti34, ti45, ti48, ti53, ti55, ti57, ti75, ti77, ti83, hlen, h5], by simp only [go_sem, ti3, ti9, ti4, ti35, ti22, ti23, ti24, ti26, ti32, ti34, ti45, ti48, ti53, ti55, ti57, ti75, ti77, ti83, hlen, h6], by simp only [go_sem, ti3, ti9, ti4, ti35, ti22, ti23, ti24, ti26, ti32, ti34, ti45, ti48, ti53, ti55, ti57, ti75, ti77, ti83, hlen, h9], by simp only [go_sem, ti3, ti9, ti4, ti35, ti22, ti23, ti24, ti26, ti32, ti34, ti45, ti48, ti53, ti55, ti57, ti75, ti77, ti83, hlen, h10], by simp only [go_sem, ti3, ti9, ti4, ti35, ti22, ti23, ti24, ti26, ti32, ti34, ti45, ti48, ti53, ti55, ti57, ti75, ti77, ti83, hlen, h11], by simp only [go_sem, ti3, ti9, ti4, ti35, ti22, ti23, ti24, ti26, ti32, ti34, ti45, ti48, ti53, ti55, ti57, ti75, ti77, ti83, hlen, h12], by simp only [go_sem, ti3, ti9, ti4, ti35, ti22, ti23, ti24, ti26, ti32, ti34, ti45, ti48, ti53, ti55, ti57, ti75, ti77, ti83, hlen, h13], by simp only [go_sem, ti3, ti9, ti4, ti35, ti22, ti23, ti24, ti26, ti32, ti34, ti45, ti48, ti53, ti55, ti57, ti75, ti77, ti83, hlen, h14], by simp only [go_sem, ti3, ti9, ti4, ti35, ti22, ti23, ti24, ti26, ti32, ti34, ti45, ti48, ti53, ti55, ti57, ti75, ti77, ti83, hlen, h15], by simp only [go_sem, ti3, ti9, ti4, ti35, ti22, ti23, ti24, ti26, ti32, ti34, ti45, ti48, ti53, ti55, ti57, ti75, ti77, ti83, hlen, h16], by simp only [go_sem, ti3, ti9, ti4, ti35, ti22, ti23, ti24, ti26, ti32, ti34, ti45, ti48, ti53, ti55, ti57, ti75, ti77, ti83, hlen], ?_⟩
        rw [e6, e9, e10, e11, e12, e13, e14, e15, e16, hZ1]
        have q1 := OA.set (M1 := [(k18, .cells (u.h.pd.map .p) false), (13, .cells [.p (.str (appV [] x.k).1), .p (pI 0)] false)]) (o' := .cells (Z1.pd.map .p) false) (ho.adv (n := 11)) rfl
        have q2 := (q1.sub (List.Sublist.refl _) (List.sublist_cons_self _ _)).adv (n := 3)
        exact q2.mono (by simp only [St.nx_put, St.nx_adv]; omega)
      · have hil : i = x.hs.length := by have h9 : ¬ (i : Int) < x.hs.length := (by simpa using hc); omega
        subst hil
        have e8 : zfold ((x.hs.map fun y => (y.t, y.h.c)).take x.hs.length) = serZ x := by rw [List.take_of_length_le (by simp), eZ]
        rw [List.take_length, e8] at ho
        exact Wc.exit ⟨rfl, c6, c9, c10, c11, c12, c13, c14, c15, c16, rfl, by simp only [go_sem, ti3, ti9, ti4, ti35, ti22, ti23, ti24, ti26, ti32, ti34, ti45, ti48, ti53, ti55, ti57, ti75, ti77, ti83, hlen], by simp only [go_sem, ti3, ti9, ti4, ti35, ti22, ti23, ti24, ti26, ti32, ti34, ti45, ti48, ti53, ti55, ti57, ti75, ti77, ti83, hlen, h1], by simp only [go_sem, ti3, ti9, ti4, ti35, ti22, ti23, ti24, ti26, ti32, ti34, ti45, ti48, ti53, ti55, ti57, ti75, ti77, ti83, hlen, h2], by simp only [go_sem, ti3, ti9, ti4, ti35, ti22, ti23, ti24, ti26, ti32, ti34, ti45, ti48, ti53, ti55, ti57, ti75, ti77, ti83, hlen, h4], by simp only [go_sem, ti3, ti9, ti4, ti35, ti22, ti23, ti24, ti26, ti32, ti34, ti45, ti48, ti53, ti55, ti57, ti75, ti77, ti83, hlen, h5], by simp only [go_sem, ti3, ti9, ti4, ti35, ti22, ti23, ti24, ti26, ti32, ti34, ti45, ti48, ti53, ti55, ti57, ti75, ti77, ti83, hlen, h6], by simp only [go_sem, ti3, ti9, ti4, ti35, ti22, ti23, ti24, ti26, ti32, ti34, ti45, ti48, ti53, ti55, ti57, ti75, ti77, ti83, hlen, h9], by simp only [go_sem, ti3, ti9, ti4, ti35, ti22, ti23, ti24, ti26, ti32, ti34, ti45, ti48, ti53, ti55, ti57, ti75, ti77, ti83, hlen, h10], by simp only [go_sem, ti3, ti9, ti4, ti35, ti22, ti23, ti24, ti26, ti32, ti34, ti45, ti48, ti53, ti55, ti57, ti75, ti77, ti83, hlen, h11], by simp only [go_sem, ti3, ti9, ti4, ti35, ti22, ti23, ti24, ti26, ti32, ti34, ti45, ti48, ti53, ti55, ti57, ti75, ti77, ti83, hlen, h12], by simp only [go_sem, ti3, ti9, ti4, ti35, ti22, ti23, ti24, ti26, ti32, ti34, ti45, ti48, ti53, ti55, ti57, ti75, ti77, ti83, hlen, h13], by simp only [go_sem, ti3, ti9, ti4, ti35, ti22, ti23, ti24, ti26, ti32, ti34, ti45, ti48, ti53, ti55, ti57, ti75, ti77, ti83, hlen, h14], by simp only [go_sem, ti3, ti9, ti4, ti35, ti22, ti23, ti24, ti26, ti32, ti34, ti45, ti48, ti53, ti55, ti57, ti75, ti77, ti83, hlen, h15], by simp only [go_sem, ti3, ti9, ti4, ti35, ti22, ti23, ti24, ti26, ti32, ti34, ti45, ti48, ti53, ti55, ti57, ti75, ti77, ti83, hlen, h16], (ho.mono (Nat.le_add_right _ 5)).adv⟩
    · refine ⟨0, c6, c9, c10, c11, c12, c13, c14, c15, c16, rfl, by omega, rfl, by simp only [go_sem, ti3, ti9, ti4, ti35, ti22, ti23, ti24, ti26, ti32, ti34, ti45, ti48, ti53, ti55, ti57, ti75, ti77, ti83, hlen], by simp only [go_sem, ti3, ti9, ti4, ti35, ti22, ti23, ti24, ti26, ti32, ti34, ti45, ti48, ti53, ti55, ti57, ti75, ti77, ti83, hlen, h1], by simp only [go_sem, ti3, ti9, ti4, ti35, ti22, ti23, ti24, ti26, ti32, ti34, ti45, ti48, ti53, ti55, ti57, ti75, ti77, ti83, hlen, h2], by simp only [go_sem, ti3, ti9, ti4, ti35, ti22, ti23, ti24, ti26, ti32, ti34, ti45, ti48, ti53, ti55, ti57, ti75, ti77, ti83, hlen, h4], by simp only [go_sem, ti3, ti9, ti4, ti35, ti22, ti23, ti24, ti26, ti32, ti34, ti45, ti48, ti53, ti55, ti57, ti75, ti77, ti83, hlen, h5], by simp only [go_sem, ti3, ti9, ti4, ti35, ti22, ti23, ti24, ti26, ti32, ti34, ti45, ti48, ti53, ti55, ti57, ti75, ti77, ti83, hlen, h6], by simp only [go_sem, ti3, ti9, ti4, ti35, ti22, ti23, ti24, ti26, ti32, ti34, ti45, ti48, ti53, ti55, ti57, ti75, ti77, ti83, hlen, h9], by simp only [go_sem, ti3, ti9, ti4, ti35, ti22, ti23, ti24, ti26, ti32, ti34, ti45, ti48, ti53, ti55, ti57, ti75, ti77, ti83, hlen, h10], by simp only [go_sem, ti3, ti9, ti4, ti35, ti22, ti23, ti24, ti26, ti32, ti34, ti45, ti48, ti53, ti55, ti57, ti75, ti77, ti83, hlen, h11], by simp only [go_sem, ti3, ti9, ti4, ti35, ti22, ti23, ti24, ti26, ti32, ti34, ti45, ti48, ti53, ti55, ti57, ti75, ti77, ti83, hlen, h12], by simp only [go_sem, ti3, ti9, ti4, ti35, ti22, ti23, ti24, ti26, ti32, ti34, ti45, ti48, ti53, ti55, ti57, ti75, ti77, ti83, hlen, h13], by simp only [go_sem, ti3, ti9, ti4, ti35, ti22, ti23, ti24, ti26, ti32, ti34, ti45, ti48, ti53, ti55, ti57, ti75, ti77, ti83, hlen, h14], by simp only [go_sem, ti3, ti9, ti4, ti35, ti22, ti23, ti24, ti26, ti32, ti34, ti45, ti48, ti53, ti55, ti57, ti75, ti77, ti83, hlen, h15], by simp only [go_sem, ti3, ti9, ti4, ti35, ti22, ti23, ti24, ti26, ti32, ti34, ti45, ti48, ti53, ti55, ti57, ti75, ti77, ti83, hlen, h16], by simp only [go_sem, ti3, ti9, ti4, ti35, ti22, ti23, ti24, ti26, ti32, ti34, ti45, ti48, ti53, ti55, ti57, ti75, ti77, ti83, hlen]; rfl, ?_⟩
      exact (ho.mono (Nat.le_add_right _ 1)).adv
  clear hlen h1 h2 h4 h5 h6 h9 h10 h11 h12 h13 h14 h15 h16 ho e s1 c6 c9 c10 c11 c12 c13 c14 c15 c16
  rintro ⟨e, ds, s1⟩ ⟨c6, c9, c10, c11, c12, c13, c14, c15, c16, rfl, hlen, h1, h2, h4, h5, h6, h9, h10, h11, h12, h13, h14, h15, h16, ho⟩
  simp only at hlen h1 h2 h4 h5 h6 h9 h10 h11 h12 h13 h14 h15 h16 ho
  have g0 := ho.at_ (0, .cells (x.pd.map .p) false) (by simp)
  have g1 := ho.at_ (1, .cells [.p (pI 0), .nils, .p (pI 0), .p (pI 0), .p (pI 0), .p (pI 0), .p (pI 0), .p (.int .u32 0), .p (.int .u32 0), .p (.int .u32 0), .p (.int .u32 0), .p (.int .u32 0), .p (.int .u32 0), .p (.int .u32 0), .p (.int .u32 0), .p (.str [])] false) (by simp)
  have gz := ho.at_ (7, .cells ((serZ x).pd.map .p) false) (by simp)
  have gw := ho.at_ (13, .cells [.p (.str (appV [] x.k).1), .p (pI 0)] false) (by simp)
  simp only [List.map_cons, List.map_nil] at g0 g1 gz gw
  have hft : (x.hs.flatMap (·.h.bs)).length ≤ x.hs.length * 500 := flat_le _ fun y hy => (vy y hy).2.2
  have w6 := (ho.own (slI c6 ((x.hs).map (·.t))) (by simp))
  have p6 := w6.plain
  have w9 := (ho.own (slI c9 ((x.hs).map (·.h.p))) (by simp))
  have p9 := w9.plain
  have w10 := (ho.own (slI c10 ((x.hs).map (·.h.c))) (by simp))
  have p10 := w10.plain
  have w11 := (ho.own (slI c11 ((x.hs).map (·.h.mn))) (by simp))
  have p11 := w11.plain
  have w12 := (ho.own (slI c12 ((x.hs).map (·.h.mx))) (by simp))
  have p12 := w12.plain
  have w13 := (ho.own (slI c13 ((x.hs).map (fun y => (y.h.bs.length : Int)))) (by simp))
  have p13 := w13.plain
  have w14 := (ho.own (slI c14 (((x.hs).flatMap (·.h.bs)).map (·.1))) (by simp))
  have p14 := w14.plain
  have w15 := (ho.own (slI c15 (((x.hs).flatMap (·.h.bs)).map (·.2))) (by simp))
  have p15 := w15.plain
  have w16 := (ho.own (slI c16 ((x.hs).map (·.h.s))) (by simp))
  have p16 := w16.plain
  have l6 : ((x.hs).map (·.t)).length ≤ 1000000 := by rw [List.length_map]; omega
  have l9 : ((x.hs).map (·.h.p)).length ≤ 1000000 := by rw [List.length_map]; omega
  have l10 : ((x.hs).map (·.h.c)).length ≤ 1000000 := by rw [List.length_map]; omega
  have l11 : ((x.hs).map (·.h.mn)).length ≤ 1000000 := by rw [List.length_map]; omega
  have l12 : ((x.hs).map (·.h.mx)).length ≤ 1000000 := by rw [List.length_map]; omega
  have l13 : ((x.hs).map (fun y => (y.h.bs.length : Int))).length ≤ 1000000 := by rw [List.length_map]; omega
  have l14 : (((x.hs).flatMap (·.h.bs)).map (·.1)).length ≤ 1000000 := by rw [List.length_map]; omega
  have l15 : (((x.hs).flatMap (·.h.bs)).map (·.2)).length ≤ 1000000 := by rw [List.length_map]; omega
  have l16 : ((x.hs).map (·.h.s)).length ≤ 1000000 := by rw [List.length_map]; omega
  generalize hT6 : (x.hs).map (·.t) = T6 at *
  generalize hT9 : (x.hs).map (·.h.p) = T9 at *
  generalize hT10 : (x.hs).map (·.h.c) = T10 at *
  generalize hT11 : (x.hs).map (·.h.mn) = T11 at *
  generalize hT12 : (x.hs).map (·.h.mx) = T12 at *
  generalize hT13 : (x.hs).map (fun y => (y.h.bs.length : Int)) = T13 at *
  generalize hT14 : ((x.hs).flatMap (·.h.bs)).map (·.1) = T14 at *
  generalize hT15 : ((x.hs).flatMap (·.h.bs)).map (·.2) = T15 at *
  generalize hT16 : (x.hs).map (·.h.s) = T16 at *
  have eC2 : serCs x = [encT T6, encV T9, encV T10, encV T11, encV T12, encV T13, encV T14, encV T15, encI T16] := by rw [eC, hstCs, hT6, hT9, hT10, hT11, hT12, hT13, hT14, hT15, hT16]
  have b6 := encT_le T6
  have b9 := encV_le T9
  have b10 := encV_le T10
  have b11 := encV_le T11
  have b12 := encV_le T12
  have b13 := encV_le T13
  have b14 := encV_le T14
  have b15 := encV_le T15
  have b16 := encI_le T16
  have q6 := partW_le ((appV [] x.k).1, (0 : Int)) (encT T6).1 (encT T6).2
  simp only at q6
  have f6 := pf31 ((appV [] x.k).1, (0 : Int)) (encT T6).1 (encT T6).2 (by show (appV [] x.k).1.length ≤ 2^60; omega) (by omega)
  generalize hw6 : partW ((appV [] x.k).1, (0 : Int)) (encT T6).1 (encT T6).2 = u6 at *
  have q9 := partW_le u6 (encV T9).1 (encV T9).2
  have f9 := pf33 u6 T9 (by omega) (by omega)
  generalize hw9 : partW u6 (encV T9).1 (encV T9).2 = u9 at *
  have q10 := partW_le u9 (encV T10).1 (encV T10).2
  have f10 := pf33 u9 T10 (by omega) (by omega)
  generalize hw10 : partW u9 (encV T10).1 (encV T10).2 = u10 at *
  have q11 := partW_le u10 (encV T11).1 (encV T11).2
  have f11 := pf33 u10 T11 (by omega) (by omega)
  generalize hw11 : partW u10 (encV T11).1 (encV T11).2 = u11 at *
  have q12 := partW_le u11 (encV T12).1 (encV T12).2
  have f12 := pf33 u11 T12 (by omega) (by omega)
  generalize hw12 : partW u11 (encV T12).1 (encV T12).2 = u12 at *
  have q13 := partW_le u12 (encV T13).1 (encV T13).2
  have f13 := pf33 u12 T13 (by omega) (by omega)
  generalize hw13 : partW u12 (encV T13).1 (encV T13).2 = u13 at *
  have q14 := partW_le u13 (encV T14).1 (encV T14).2
  have f14 := pf33 u13 T14 (by omega) (by omega)
  generalize hw14 : partW u13 (encV T14).1 (encV T14).2 = u14 at *
  have q15 := partW_le u14 (encV T15).1 (encV T15).2
  have f15 := pf33 u14 T15 (by omega) (by omega)
  generalize hw15 : partW u14 (encV T15).1 (encV T15).2 = u15 at *
  have q16 := partW_le u15 (encI T16).1 (encI T16).2
  have f16 := pf31 u15 (encI T16).1 (encI T16).2 (by omega) (by omega)
  generalize hw16 : partW u15 (encI T16).1 (encI T16).2 = u16 at *
  have p34 := pf34 u16 1 x.lb.length (x.lb.flatMap lbP) (pI (serZ x).c) (pI (serZ x).t1) (pI (serZ x).t2) (pI (serZ x).v1) (pI (serZ x).v2) (.int .u32 0) (.int .u32 0) (.int .u32 0) (.int .u32 0) (.int .u32 0) (.int .u32 0) (.int .u32 0) (.int .u32 0)
  rw [encC_w (cs := serCs x) (t := (appV [] x.k).1) (by omega) (by rw [eC2]; intro c hc; simp only [List.mem_cons, List.not_mem_nil, or_false] at hc; rcases hc with rfl | rfl | rfl | rfl | rfl | rfl | rfl | rfl | rfl <;> omega) (by rw [eC2, ← hw16, ← hw15, ← hw14, ← hw13, ← hw12, ← hw11, ← hw10, ← hw9, ← hw6]; rfl)] at p34
  refine Wc.seqA (fun y => y.ds = [] ∧ y.e.length = 215 ∧ y.e.getD 1 .junk = .v (.c (.ref 0 0)) ∧ y.e.getD 2 .junk = .v (.c (.ref 1 0)) ∧ y.e.getD 4 .junk = .v (.c (.ref 7 0)) ∧ y.e.getD 5 .junk = .v (.c (.ref 13 0)) ∧ OA y.s.nx y.s [] [(13, .cells [.p (.str u16.1), .p (pI u16.2)] false), (7, .cells ((serZ x).pd.map .p) false), (1, .cells [.p (pI 0), .nils, .p (pI 0), .p (pI 0), .p (pI 0), .p (pI 0), .p (pI 0), .p (.int .u32 0), .p (.int .u32 0), .p (.int .u32 0), .p (.int .u32 0), .p (.int .u32 0), .p (.int .u32 0), .p (.int .u32 0), .p (.int .u32 0), .p (.str [])] false), (0, .cells (x.pd.map .p) false)]) ?_ ?_
  · refine Wc.regT fun K hK => ?_
    simp only [go_sem, ti3, ti9, ti4, ti35, ti22, ti23, ti24, ti26, ti32, ti34, ti45, ti48, ti53, ti55, ti57, ti75, ti77, ti83, hlen, h1, h2, h4, h5, h6, h9, h10, h11, h12, h13, h14, h15, h16, g0, g1, gz, gw, o32, x32, o31, x31, o33, x33, o35, x35, plainD, plainV, List.all_cons, List.all_nil, p6, p9, p10, p11, p12, p13, p14, p15, p16]
    refine wpCall.pf (pf32 T6 (by omega)) (by kernel_rfl) (by kernel_rfl) rfl (w6.vs1 _) ?_
    simp only [go_sem, ti3, ti9, ti4, ti35, ti22, ti23, ti24, ti26, ti32, ti34, ti45, ti48, ti53, ti55, ti57, ti75, ti77, ti83, hlen, h1, h2, h4, h5, h6, h9, h10, h11, h12, h13, h14, h15, h16, g0, g1, gz, gw, o32, x32, o31, x31, o33, x33, o35, x35, plainD, plainV, List.all_cons, List.all_nil, p6, p9, p10, p11, p12, p13, p14, p15, p16]
    refine wpCall.pf f6 (by kernel_rfl) (by kernel_rfl) rfl rfl ?_
    simp only [go_sem, ti3, ti9, ti4, ti35, ti22, ti23, ti24, ti26, ti32, ti34, ti45, ti48, ti53, ti55, ti57, ti75, ti77, ti83, hlen, h1, h2, h4, h5, h6, h9, h10, h11, h12, h13, h14, h15, h16, g0, g1, gz, gw, o32, x32, o31, x31, o33, x33, o35, x35, plainD, plainV, List.all_cons, List.all_nil, p6, p9, p10, p11, p12, p13, p14, p15, p16]
    refine wpCall.pf f9 (by kernel_rfl) (by kernel_rfl) rfl (purVs_last w9.vs1 [_] (by intro v hv s; simp only [List.mem_cons, List.not_mem_nil, or_false] at hv; rcases hv with rfl; rfl) _) ?_
    simp only [go_sem, ti3, ti9, ti4, ti35, ti22, ti23, ti24, ti26, ti32, ti34, ti45, ti48, ti53, ti55, ti57, ti75, ti77, ti83, hlen, h1, h2, h4, h5, h6, h9, h10, h11, h12, h13, h14, h15, h16, g0, g1, gz, gw, o32, x32, o31, x31, o33, x33, o35, x35, plainD, plainV, List.all_cons, List.all_nil, p6, p9, p10, p11, p12, p13, p14, p15, p16]
    refine wpCall.pf f10 (by kernel_rfl) (by kernel_rfl) rfl (purVs_last w10.vs1 [_] (by intro v hv s; simp only [List.mem_cons, List.not_mem_nil, or_false] at hv; rcases hv with rfl; rfl) _) ?_
    simp only [go_sem, ti3, ti9, ti4, ti35, ti22, ti23, ti24, ti26, ti32, ti34, ti45, ti48, ti53, ti55, ti57, ti75, ti77, ti83, hlen, h1, h2, h4, h5, h6, h9, h10, h11, h12, h13, h14, h15, h16, g0, g1, gz, gw, o32, x32, o31, x31, o33, x33, o35, x35, plainD, plainV, List.all_cons, List.all_nil, p6, p9, p10, p11, p12, p13, p14, p15, p16]
    refine wpCall.pf f11 (by kernel_rfl) (by kernel_rfl) rfl (purVs_last w11.vs1 [_] (by intro v hv s; simp only [List.mem_cons, List.not_mem_nil, or_false] at hv; rcases hv with rfl; rfl) _) ?_
    simp only [go_sem, ti3, ti9, ti4, ti35, ti22, ti23, ti24, ti26, ti32, ti34, ti45, ti48, ti53, ti55, ti57, ti75, ti77, ti83, hlen, h1, h2, h4, h5, h6, h9, h10, h11, h12, h13, h14, h15, h16, g0, g1, gz, gw, o32, x32, o31, x31, o33, x33, o35, x35, plainD, plainV, List.all_cons, List.all_nil, p6, p9, p10, p11, p12, p13, p14, p15, p16]
    refine wpCall.pf f12 (by kernel_rfl) (by kernel_rfl) rfl (purVs_last w12.vs1 [_] (by intro v hv s; simp only [List.mem_cons, List.not_mem_nil, or_false] at hv; rcases hv with rfl; rfl) _) ?_
    simp only [go_sem, ti3, ti9, ti4, ti35, ti22, ti23, ti24, ti26, ti32, ti34, ti45, ti48, ti53, ti55, ti57, ti75, ti77, ti83, hlen, h1, h2, h4, h5, h6, h9, h10, h11, h12, h13, h14, h15, h16, g0, g1, gz, gw, o32, x32, o31, x31, o33, x33, o35, x35, plainD, plainV, List.all_cons, List.all_nil, p6, p9, p10, p11, p12, p13, p14, p15, p16]
    refine wpCall.pf f13 (by kernel_rfl) (by kernel_rfl) rfl (purVs_last w13.vs1 [_] (by intro v hv s; simp only [List.mem_cons, List.not_mem_nil, or_false] at hv; rcases hv with rfl; rfl) _) ?_
    simp only [go_sem, ti3, ti9, ti4, ti35, ti22, ti23, ti24, ti26, ti32, ti34, ti45, ti48, ti53, ti55, ti57, ti75, ti77, ti83, hlen, h1, h2, h4, h5, h6, h9, h10, h11, h12, h13, h14, h15, h16, g0, g1, gz, gw, o32, x32, o31, x31, o33, x33, o35, x35, plainD, plainV, List.all_cons, List.all_nil, p6, p9, p10, p11, p12, p13, p14, p15, p16]
    refine wpCall.pf f14 (by kernel_rfl) (by kernel_rfl) rfl (purVs_last w14.vs1 [_] (by intro v hv s; simp only [List.mem_cons, List.not_mem_nil, or_false] at hv; rcases hv with rfl; rfl) _) ?_
    simp only [go_sem, ti3, ti9, ti4, ti35, ti22, ti23, ti24, ti26, ti32, ti34, ti45, ti48, ti53, ti55, ti57, ti75, ti77, ti83, hlen, h1, h2, h4, h5, h6, h9, h10, h11, h12, h13, h14, h15, h16, g0, g1, gz, gw, o32, x32, o31, x31, o33, x33, o35, x35, plainD, plainV, List.all_cons, List.all_nil, p6, p9, p10, p11, p12, p13, p14, p15, p16]
    refine wpCall.pf f15 (by kernel_rfl) (by kernel_rfl) rfl (purVs_last w15.vs1 [_] (by intro v hv s; simp only [List.mem_cons, List.not_mem_nil, or_false] at hv; rcases hv with rfl; rfl) _) ?_
    simp only [go_sem, ti3, ti9, ti4, ti35, ti22, ti23, ti24, ti26, ti32, ti34, ti45, ti48, ti53, ti55, ti57, ti75, ti77, ti83, hlen, h1, h2, h4, h5, h6, h9, h10, h11, h12, h13, h14, h15, h16, g0, g1, gz, gw, o32, x32, o31, x31, o33, x33, o35, x35, plainD, plainV, List.all_cons, List.all_nil, p6, p9, p10, p11, p12, p13, p14, p15, p16]
    refine wpCall.pf (pf35 T16 (by omega)) (by kernel_rfl) (by kernel_rfl) rfl (w16.vs1 _) ?_
    simp only [go_sem, ti3, ti9, ti4, ti35, ti22, ti23, ti24, ti26, ti32, ti34, ti45, ti48, ti53, ti55, ti57, ti75, ti77, ti83, hlen, h1, h2, h4, h5, h6, h9, h10, h11, h12, h13, h14, h15, h16, g0, g1, gz, gw, o32, x32, o31, x31, o33, x33, o35, x35, plainD, plainV, List.all_cons, List.all_nil, p6, p9, p10, p11, p12, p13, p14, p15, p16]
    refine wpCall.pf f16 (by kernel_rfl) (by kernel_rfl) rfl rfl ?_
    simp only [go_sem, ti3, ti9, ti4, ti35, ti22, ti23, ti24, ti26, ti32, ti34, ti45, ti48, ti53, ti55, ti57, ti75, ti77, ti83, hlen, h1, h2, h4, h5, h6, h9, h10, h11, h12, h13, h14, h15, h16, g0, g1, gz, gw, o32, x32, o31, x31, o33, x33, o35, x35, plainD, plainV, List.all_cons, List.all_nil, p6, p9, p10, p11, p12, p13, p14, p15, p16]
    refine ⟨trOK_of (by rfl), hK _ _ ?_⟩
    refine ⟨rfl, rfl, by simp only [go_sem, ti3, ti9, ti4, ti35, ti22, ti23, ti24, ti26, ti32, ti34, ti45, ti48, ti53, ti55, ti57, ti75, ti77, ti83, hlen], by simp only [go_sem, ti3, ti9, ti4, ti35, ti22, ti23, ti24, ti26, ti32, ti34, ti45, ti48, ti53, ti55, ti57, ti75, ti77, ti83, hlen, h1], by simp only [go_sem, ti3, ti9, ti4, ti35, ti22, ti23, ti24, ti26, ti32, ti34, ti45, ti48, ti53, ti55, ti57, ti75, ti77, ti83, hlen, h2], by simp only [go_sem, ti3, ti9, ti4, ti35, ti22, ti23, ti24, ti26, ti32, ti34, ti45, ti48, ti53, ti55, ti57, ti75, ti77, ti83, hlen, h4], by simp only [go_sem, ti3, ti9, ti4, ti35, ti22, ti23, ti24, ti26, ti32, ti34, ti45, ti48, ti53, ti55, ti57, ti75, ti77, ti83, hlen, h5], ?_⟩
    have q1 := OA.set (M1 := []) (o' := .cells [.p (.str u16.1), .p (pI u16.2)] false) ((ho.sub (L1 := []) (List.nil_sublist _) (List.Sublist.refl _)).adv (n := 26)) rfl
    exact q1.mono (by simp only [St.nx_put, St.nx_adv]; omega)
  clear hlen h1 h2 h4 h5 h6 h9 h10 h11 h12 h13 h14 h15 h16 g0 g1 gz gw w6 p6 w9 p9 w10 p10 w11 p11 w12 p12 w13 p13 w14 p14 w15 p15 w16 p16 ho
  rintro ⟨e, ds, s1⟩ ⟨rfl, hlen, h1, h2, h4, h5, ho⟩
  simp only at hlen h1 h2 h4 h5 ho
  have g0 := ho.at_ (0, .cells (x.pd.map .p) false) (by simp)
  have g1 := ho.at_ (1, .cells [.p (pI 0), .nils, .p (pI 0), .p (pI 0), .p (pI 0), .p (pI 0), .p (pI 0), .p (.int .u32 0), .p (.int .u32 0), .p (.int .u32 0), .p (.int .u32 0), .p (.int .u32 0), .p (.int .u32 0), .p (.int .u32 0), .p (.int .u32 0), .p (.str [])] false) (by simp)
  have gz := ho.at_ (7, .cells ((serZ x).pd.map .p) false) (by simp)
  have gw := ho.at_ (13, .cells [.p (.str u16.1), .p (pI u16.2)] false) (by simp)
  simp only [List.map_cons, List.map_nil] at g0 g1 gz gw
  refine Wc.seq ?_
  refine Wc.reg fun K hK => ?_; simp only [go_sem, ti3, ti9, ti4, ti35, ti22, ti23, ti24, ti26, ti32, ti34, ti45, ti48, ti53, ti55, ti57, ti75, ti77, ti83, hlen, h1, h2, h4, h5, g0, g1, gz, gw]
  refine wpCall.pf p34 (by kernel_rfl) (by kernel_rfl) rfl rfl ?_
  rcases encC_cases 1 (.lst x.lb.length (x.lb.flatMap lbP)) (serZ x).pd (appV [] x.k).1 (serCs x) with e9 | ⟨d, e9⟩
  · rw [e9]
    simp only [go_sem, ti3, ti9, ti4, ti35, ti22, ti23, ti24, ti26, ti32, ti34, ti45, ti48, ti53, ti55, ti57, ti75, ti77, ti83, hlen, h1, h2, h4, h5, g0, g1, gz, gw]; refine hK _ _ ?_; clear hK K
    rw [e9]
    exact Wc.ret (Pf.ret [.cell 2 34, .tmp 3] [noCh, .c (.p (pI 4))] rfl rfl (by simp only [resultsD, go_sem, ti3, ti9, ti4, ti35, ti22, ti23, ti24, ti26, ti32, ti34, ti45, ti48, ti53, ti55, ti57, ti75, ti77, ti83, hlen, h2]; rfl) rfl)
  · rw [e9]
    simp only [go_sem, ti3, ti9, ti4, ti35, ti22, ti23, ti24, ti26, ti32, ti34, ti45, ti48, ti53, ti55, ti57, ti75, ti77, ti83, hlen, h1, h2, h4, h5, g0, g1, gz, gw]; refine hK _ _ ?_; clear hK K
    rw [e9]
    exact Wc.ret (Pf.ret [.cell 2 34, .tmp 3] [chV 1 (.lst x.lb.length (x.lb.flatMap lbP)) (serZ x).pd d, .c (.p (pI 0))] rfl rfl (by simp only [resultsD, go_sem, ti3, ti9, ti4, ti35, ti22, ti23, ti24, ti26, ti32, ti34, ti45, ti48, ti53, ti55, ti57, ti75, ti77, ti83, hlen, h2]; rfl) rfl)

end Go.Proofs.YtafaoldmemcigaaGreat.Ab
