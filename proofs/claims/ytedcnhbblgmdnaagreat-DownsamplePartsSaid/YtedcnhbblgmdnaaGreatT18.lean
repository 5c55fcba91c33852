/- A part of the proof: an evaluator of the code, its contracts, the law. No condition. -/
import Derived.Test.YtedcnhbblgmdnaaGreatT17
namespace Go.Proofs.YtedcnhbblgmdnaaGreat.Ab
set_option maxHeartbeats 4000000
set_option maxRecDepth 10000
set_option linter.unusedSimpArgs false
set_option linter.unusedVariables false
/-- 143: counted, in its caller's state -/
theorem call249 {s : St} {L : List (Nat × D × Nat × List Pd)} {M : List (Nat × Ob)} {hh : Hst} {K : D → St → Prop} (h : OA s.nx s L M)
    (hK : ∀ s', OA s'.nx s' L ((s.nx, .cells (hh.pd.map .p) false) :: M) → s.nx < s'.nx → K (.v (.c (.fn (.func 271) [] [.ref s.nx 0]))) s') : wpCall E0 (.v (.c (.p (.fnc 249)))) [.v (.agg (hh.pd.map .p))] s K := by
  refine wpCall.opn (fn := Tryz.f249) (by kernel_rfl) (by kernel_rfl) rfl (by kernel_rfl) rfl ?_; simp only [List.map_cons, List.map_nil, List.cons_append, List.nil_append, List.length_cons, List.length_nil, Tryz.ntmps249, List.replicate, Nat.reduceSub, Nat.reduceAdd]
  refine Wc.seq ?_
  refine Wc.reg fun K hK => ?_; simp only [go_sem, ti3, ti9, ti5, ti4, ti32, ti148, ti150, ti205]; refine hK _ _ ?_; clear hK K
  refine Wc.seq ?_
  refine Wc.reg fun K hK => ?_; simp only [go_sem, ti3, ti9, ti5, ti4, ti32, ti148, ti150, ti205]; refine hK _ _ ?_; clear hK K
  refine Wc.ret (Op.ret [.tmp 2] [.c (.fn (.func 271) [] [.ref s.nx 0])] rfl rfl (by simp only [resultsD, go_sem, ti3, ti9, ti5, ti4, ti32, ti148, ti150, ti205]) (hK _ ?_ ?_))
  · have := (h.adv (n := 2)).new (k := s.nx) (o := .cells (hh.pd.map .p) false) (Nat.le_refl _) rfl
    exact (this.mono (b' := s.nx + 2 + 2) (by omega)).adv (n := 2)
  · simp only [St.nx_adv, St.nx_put]; omega
/-- 156: counted$1, the body of an iterator -/
theorem iter271 {r : Nat} {frz : Bool} {h : Hst} (hl : h.bs.length < 2^40) : IterC 271 [.ref r 0] (fun s => s.get r = some (.cells (h.pd.map .p) frz))
    (fun i k a => k = i + 1 ∧ ∃ b n, h.bs[i]? = some b ∧ a = [.agg ((p2 b).map .p), .c (.p (pI n))]) h.bs.length := by
  have hfl : (h.bs.flatMap p2).length = h.bs.length * 2 := flat_len (k := 2) (fun _ => rfl) _
  refine ⟨Tryz.f271, _, by kernel_rfl, rfl, fun l J hJ hJ2 hcap hy s hj Q hQ => ?_⟩
  simp only [List.map_cons, List.map_nil, List.cons_append, List.nil_append, List.length_cons, List.length_nil, Tryz.ntmps271, List.replicate, Nat.reduceSub, Nat.reduceAdd]
  have hg := hcap _ _ hj
  simp only [List.map_cons, List.map_nil] at hg
  refine Wc.seq ?_
  refine Wc.reg fun K hK => ?_; simp only [go_sem, ti3, ti9, ti5, ti4, ti32, ti148, ti150, ti205]; refine hK _ _ ?_; clear hK K
  refine Wc.seq ?_
  refine Wc.reg fun K hK => ?_; simp only [go_sem, ti3, ti9, ti5, ti4, ti32, ti148, ti150, ti205, hg, Int.natCast_zero]; refine hK _ _ ?_; clear hK K
  refine Wc.block (Wc.loop (fun k y => ∃ (i : Nat) (n : Int), k = h.bs.length - i ∧ i ≤ h.bs.length ∧ y.ds = [] ∧ y.e.length = 23 ∧ y.e.getD 0 .junk = .v (.c (.fn (.yield l) [] [])) ∧ y.e.getD 3 .junk = P' (pI n) ∧ y.e.getD 7 .junk = P' (.lst h.bs.length (h.bs.flatMap p2)) ∧ y.e.getD 8 .junk = P' (pI h.bs.length) ∧ y.e.getD 9 .junk = P' (pI i) ∧ J i y.s) ?_ (k := h.bs.length) ?_)
  · clear hj hg s
    rintro k ⟨e, ds, s1⟩ ⟨i, n, rfl, hi, rfl, hlen, h0, h3, h7, h8, h9, hj⟩
    simp only at hlen h0 h3 h7 h8 h9 hj
    refine Wc.seq ?_
    refine Wc.reg fun K hK => ?_; simp only [go_sem, ti3, ti9, ti5, ti4, ti32, ti148, ti150, ti205, hlen, h0, h3, h7, h8, h9]; refine hK _ _ ?_; clear hK K
    refine Wc.seq (Wc.cond (t := decide ((i : Int) < h.bs.length)) (by simp only [go_sem, ti3, ti9, ti5, ti4, ti32, ti148, ti150, ti205, hlen]) (fun hc => ?_) (fun hc => ?_))
    · have hil : i < h.bs.length := by have : (i : Int) < h.bs.length := by simpa using hc
                                       omega
      obtain ⟨b, hb⟩ : ∃ b, h.bs[i]? = some b := ⟨h.bs[i], List.getElem?_eq_getElem hil⟩
      have hix := ixA ti148 rfl ti205 (j := i) (m := h.bs.length) (cs := h.bs.flatMap p2) hil hfl (by decide)
      have hca := rpA (off := i * 2) (drop_flat (f := p2) (k := 2) (fun _ => rfl) hb) (by rw [hfl]; omega)
      refine Wc.skip (Wc.seq (Wc.block (Wc.seq ?_)))
      refine Wc.reg fun K hK => ?_; simp only [go_sem, ti3, ti9, ti5, ti4, ti32, ti148, ti150, ti205, hlen, h0, h3, h7, h8, h9, hix, hca]; refine hK _ _ ?_; clear hK K
      rw [St.put_put]
      refine Wc.seq ?_
      refine Wc.reg fun K hK => ?_; simp only [go_sem, ti3, ti9, ti5, ti4, ti32, ti148, ti150, ti205, hlen, h0, h3, h7, h8, h9]; refine hK _ _ ?_; clear hK K
      refine Wc.seq ?_
      refine Wc.reg fun K hK => ?_; simp only [go_sem, ti3, ti9, ti5, ti4, ti32, ti148, ti150, ti205, hlen, h0, h3, h7, h8, h9]
      have hjs := hJ i _ 5 (hJ i _ 5 (hJ2 i (s1.adv 1) 4 (s1.nx + 3) (.cells [.p (pI b.1), .p (pI b.2)] false) (hJ i _ 1 hj) (by simp only [St.nx_adv]; omega) (by simp only [St.nx_adv]; omega)))
      obtain ⟨m, d, s2, hc1, hd, hj2⟩ := hy i (i + 1) _ _ hjs ⟨rfl, b, IntKind.i64.wrap (n + b.2), hb, rfl⟩
      subst hd
      refine ⟨m, _, s2, hc1, ?_⟩
      simp only [go_sem, ti3, ti9, ti5, ti4, ti32, ti148, ti150, ti205, hlen, h0, h3, h7, h8, h9]; refine hK _ _ ?_; clear hK K
      refine Wc.cond (t := false) (by simp only [go_sem, ti3, ti9, ti5, ti4, ti32, ti148, ti150, ti205, hlen]) (fun hc => by cases hc) (fun _ => Wc.skip ?_)
      refine Wc.reg fun K hK => ?_; simp only [go_sem, ti3, ti9, ti5, ti4, ti32, ti148, ti150, ti205, hlen, h0, h3, h7, h8, h9, i64n i (by omega)]; refine hK _ _ ?_; clear hK K
      exact ⟨h.bs.length - (i + 1), by omega, i + 1, IntKind.i64.wrap (n + b.2), rfl, by omega, rfl, by simp only [go_sem, ti3, ti9, ti5, ti4, ti32, ti148, ti150, ti205, hlen], by simp only [go_sem, ti3, ti9, ti5, ti4, ti32, ti148, ti150, ti205, hlen, h0], by simp only [go_sem, ti3, ti9, ti5, ti4, ti32, ti148, ti150, ti205, hlen], by simp only [go_sem, ti3, ti9, ti5, ti4, ti32, ti148, ti150, ti205, hlen, h7], by simp only [go_sem, ti3, ti9, ti5, ti4, ti32, ti148, ti150, ti205, hlen, h8], by simp only [go_sem, ti3, ti9, ti5, ti4, ti32, ti148, ti150, ti205, hlen], hJ _ _ _ hj2⟩
    · have hil : i = h.bs.length := by have : ¬ (i : Int) < h.bs.length := by simpa using hc
                                       omega
      refine Wc.exit ?_
      subst hil
      exact bodyQ.normal (vs := []) rfl rfl (hQ _ _ (hJ _ _ _ hj))
  · exact ⟨0, 0, rfl, by omega, rfl, rfl, rfl, rfl, rfl, rfl, rfl, hJ _ _ _ (hJ _ _ _ hj)⟩
/-- 144: possible -/
theorem pf250 (h : Hst) (b : I2) (q i : Nat) (hq : q ≤ 8) (hp : h.p = q) (hbi : b.1 = i) (hb : i ≤ (41 - q) * 2 ^ q) : Pf E0 250 [.agg (h.pd.map .p), .agg ((p2 b).map .p)] (.tup [.c (.p (pI (max (lo q i : Int) h.mn))), .c (.p (pI (min (hi q i : Int) h.mx)))]) := by
  refine Pf.body (fn := Tryz.f250) (by kernel_rfl) rfl ?_; simp only [List.map_cons, List.map_nil, List.cons_append, List.nil_append, List.length_cons, List.length_nil, Tryz.ntmps250, List.replicate, Nat.reduceSub, Nat.reduceAdd]
  refine Wc.seq ?_
  refine Wc.reg fun K hK => ?_; simp only [go_sem, ti3, ti9, ti5, ti4, ti32, ti148, ti150, ti205]; refine hK _ _ ?_; clear hK K
  refine Wc.seq ?_
  refine Wc.reg fun K hK => ?_; simp only [go_sem, ti3, ti9, ti5, ti4, ti32, ti148, ti150, ti205, hp, hbi]
  refine wpCall.pf (pf272 q i hq hb) (by kernel_rfl) (by kernel_rfl) rfl rfl ?_
  simp only [go_sem, ti3, ti9, ti5, ti4, ti32, ti148, ti150, ti205]; refine hK _ _ ?_; clear hK K
  refine Wc.seq ?_
  refine Wc.regD fun K hK => ?_; simp only [go_sem, ti3, ti9, ti5, ti4, ti32, ti148, ti150, ti205, max2, min2]; refine hK _ _ ?_; clear hK K
  exact Wc.ret (Pf.ret [.tmp 4, .tmp 5] [.c (.p (pI (max (lo q i : Int) h.mn))), .c (.p (pI (min (hi q i : Int) h.mx)))] rfl rfl (by simp only [resultsD, go_sem, ti3, ti9, ti5, ti4, ti32, ti148, ti150, ti205]) rfl)
end Go.Proofs.YtedcnhbblgmdnaaGreat.Ab
namespace Go.Proofs.YtedcnhbblgmdnaaGreat.Ab
set_option maxHeartbeats 8000000
set_option maxRecDepth 10000
set_option linter.unusedSimpArgs false
set_option linter.unusedVariables false
/-- Whether there are values with a histogram's numbers. -/
def agrB (h : Hst) (q : Nat) (t : Int) : Bool := if h.c ≠ t then false else if t = 0 then decide (h.s = 0) && (decide (h.mn = 0) && decide (h.mx = 0)) else match h.bs[0]?, h.bs[h.bs.length - 1]? with
  | some f, some l => agr1 q h.s h.mn h.mx h.bs f l t
  | _, _ => false
theorem OA.permM {b : Nat} {s : St} {L : List (Nat × D × Nat × List Pd)} {M M' : List (Nat × Ob)} (h : OA b s L M) (hp : M.Perm M') : OA b s L M' :=
  ⟨h.free, h.own, h.dis, fun y hy => h.at_ y (hp.mem_iff.2 hy), fun y hy => h.nof y (hp.mem_iff.2 hy), (hp.pairwise_iff (fun hxy e => hxy e.symm)).1 h.dism⟩
theorem St.adv_adv (s : St) (m n : Nat) : (s.adv m).adv n = s.adv (m + n) := by simp [St.adv, Nat.add_assoc]
theorem o247 : E0.opn 247 = false := by kernel_rfl
theorem x247 : E0.xt 247 = none := by kernel_rfl
/-- 126: agrees -/
theorem pf212 (h : Hst) (t : Int) (q : Nat) (hq : q ≤ 8) (hp : h.p = q) (hb : BsOK q h.bs) (hn : h.bs.length ≤ 500) (ht : t = cnt h.bs) (ht2 : t ≤ 1048576) : Pf E0 212 [.agg (h.pd.map .p), .c (.p (pI t))] (P' (.bool (agrB h q t))) := by
  have hfl : (h.bs.flatMap p2).length = h.bs.length * 2 := flat_len (k := 2) (fun _ => rfl) _
  refine Pf.body (fn := Tryz.f212) (by kernel_rfl) rfl ?_; simp only [List.map_cons, List.map_nil, List.cons_append, List.nil_append, List.length_cons, List.length_nil, Tryz.ntmps212, List.replicate, Nat.reduceSub, Nat.reduceAdd]
  refine Wc.seq ?_
  refine Wc.reg fun K hK => ?_; simp only [go_sem, ti3, ti9, ti5, ti4, ti32, ti148, ti150, ti205]; refine hK _ _ ?_; clear hK K
  refine Wc.seq (Wc.seq ?_)
  refine Wc.reg fun K hK => ?_; simp only [go_sem, ti3, ti9, ti5, ti4, ti32, ti148, ti150, ti205]; refine hK _ _ ?_; clear hK K
  refine Wc.cond (t := (h.c != t)) (by simp only [go_sem, ti3, ti9, ti5, ti4, ti32, ti148, ti150, ti205]) (fun hc => ?_) (fun hc => ?_)
  · have hc' : h.c ≠ t := by simpa using hc
    have e : agrB h q t = false := by unfold agrB; rw [if_pos hc']
    rw [e]
    refine Wc.seq ?_
    refine Wc.reg fun K hK => ?_; simp only [go_sem, ti3, ti9, ti5, ti4, ti32, ti148, ti150, ti205]; refine hK _ _ ?_; clear hK K
    exact Wc.ret (Pf.ret [.tmp 4] [.c (.p (.bool false))] rfl rfl (by simp only [resultsD, go_sem, ti3, ti9, ti5, ti4, ti32, ti148, ti150, ti205]) rfl)
  have hc' : ¬ h.c ≠ t := by simpa using hc
  refine Wc.skip (Wc.seq (Wc.seq ?_))
  refine Wc.reg fun K hK => ?_; simp only [go_sem, ti3, ti9, ti5, ti4, ti32, ti148, ti150, ti205]; refine hK _ _ ?_; clear hK K
  refine Wc.cond (t := (t == 0)) (by simp only [go_sem, ti3, ti9, ti5, ti4, ti32, ti148, ti150, ti205]) (fun hc => ?_) (fun hc => ?_)
  · have ht0 : t = 0 := by simpa using hc
    have e : agrB h q t = (decide (h.s = 0) && (decide (h.mn = 0) && decide (h.mx = 0))) := by unfold agrB; rw [if_neg hc', if_pos ht0]
    rw [e]
    refine Wc.seq ?_
    by_cases h1 : h.s = 0
    · have b1 : (h.s == 0) = true := by simpa using h1
      by_cases h2 : h.mn = 0
      · have b2 : (h.mn == 0) = true := by simpa using h2
        refine Wc.reg fun K hK => ?_; simp only [go_sem, ti3, ti9, ti5, ti4, ti32, ti148, ti150, ti205, b1, b2]; refine hK _ _ ?_; clear hK K
        rw [show (decide (h.s = 0) && (decide (h.mn = 0) && decide (h.mx = 0))) = (h.mx == 0) by rw [decide_eq_true h1, decide_eq_true h2, Bool.true_and, Bool.true_and]; rfl]
        exact Wc.ret (Pf.ret [.tmp 4] [.c (.p (.bool (h.mx == 0)))] rfl rfl (by simp only [resultsD, go_sem, ti3, ti9, ti5, ti4, ti32, ti148, ti150, ti205, b1, b2]) rfl)
      · have b2 : (h.mn == 0) = false := by simpa using h2
        refine Wc.reg fun K hK => ?_; simp only [go_sem, ti3, ti9, ti5, ti4, ti32, ti148, ti150, ti205, b1, b2]; refine hK _ _ ?_; clear hK K
        rw [show (decide (h.s = 0) && (decide (h.mn = 0) && decide (h.mx = 0))) = false by simp [h2]]
        exact Wc.ret (Pf.ret [.tmp 4] [.c (.p (.bool false))] rfl rfl (by simp only [resultsD, go_sem, ti3, ti9, ti5, ti4, ti32, ti148, ti150, ti205, b1, b2]) rfl)
    · have b1 : (h.s == 0) = false := by simpa using h1
      refine Wc.reg fun K hK => ?_; simp only [go_sem, ti3, ti9, ti5, ti4, ti32, ti148, ti150, ti205, b1]; refine hK _ _ ?_; clear hK K
      rw [show (decide (h.s = 0) && (decide (h.mn = 0) && decide (h.mx = 0))) = false by simp [h1]]
      exact Wc.ret (Pf.ret [.tmp 4] [.c (.p (.bool false))] rfl rfl (by simp only [resultsD, go_sem, ti3, ti9, ti5, ti4, ti32, ti148, ti150, ti205, b1]) rfl)
  have ht0 : ¬ t = 0 := by simpa using hc
  have hne : h.bs ≠ [] := fun e => by rw [e] at ht; exact ht0 (by rw [ht]; rfl)
  have hl0 : 0 < h.bs.length := List.length_pos_iff.2 hne
  obtain ⟨f, hf⟩ : ∃ f, h.bs[0]? = some f := ⟨h.bs[0], List.getElem?_eq_getElem hl0⟩
  obtain ⟨l, hl⟩ : ∃ l, h.bs[h.bs.length - 1]? = some l := ⟨h.bs[h.bs.length - 1], List.getElem?_eq_getElem (by omega)⟩
  have e : agrB h q t = agr1 q h.s h.mn h.mx h.bs f l t := by unfold agrB; rw [if_neg hc', if_neg ht0, hf, hl]
  rw [e]
  clear e
  refine Wc.skip (Wc.seq ?_)
  have hif := ixA ti148 rfl ti205 (j := 0) (m := h.bs.length) (cs := h.bs.flatMap p2) hl0 hfl (by decide)
  have hcf := rpA (off := 0 * 2) (drop_flat (f := p2) (k := 2) (fun _ => rfl) hf) (by omega)
  rw [show ((0 : Nat) : Int) = 0 from rfl, Nat.zero_mul] at hif
  rw [Nat.zero_mul] at hcf
  have hil := ixA ti148 rfl ti205 (j := h.bs.length - 1) (m := h.bs.length) (cs := h.bs.flatMap p2) (by omega) hfl (by decide)
  have hcl := rpA (off := (h.bs.length - 1) * 2) (drop_flat (f := p2) (k := 2) (fun _ => rfl) hl) (by rw [hfl]; omega)
  have el1 : IntKind.i64.wrap ((h.bs.length : Int) - 1) = ((h.bs.length - 1 : Nat) : Int) := by rw [wi64]; omega
  refine Wc.reg fun K hK => ?_; simp only [go_sem, ti3, ti9, ti5, ti4, ti32, ti148, ti150, ti205, hif, hcf]; refine hK _ _ ?_; clear hK K
  refine Wc.seqA (fun y => ∃ k5 k6, y.ds = [] ∧ y.e.length = 147 ∧ y.e.getD 1 .junk = P' (pI t) ∧ y.e.getD 2 .junk = .v (.c (.ref 0 0)) ∧ y.e.getD 5 .junk = .v (.c (.ref k5 0)) ∧ y.e.getD 6 .junk = .v (.c (.ref k6 0)) ∧
    OA y.s.nx y.s [] [(k6, .cells ((p2 l).map .p) false), (k5, .cells ((p2 f).map .p) false), (0, .cells (h.pd.map .p) false)]) ?_ ?_
  · refine Wc.reg fun K hK => ?_; simp only [go_sem, ti3, ti9, ti5, ti4, ti32, ti148, ti150, ti205, hil, hcl, el1, hif, hcf]; refine hK _ _ ?_; clear hK K
    refine ⟨rfl, 12, 22, rfl, rfl, rfl, rfl, rfl, rfl, ?_⟩
    have o0 := (s00_oa.adv (n := 2)).new (k := 0) (o := .cells (h.pd.map .p) false) (Nat.le_refl _) rfl
    have o1 := (((o0.adv (n := 4)).adv (n := 2)).adv (n := 6)).new (k := 12) (o := .cells [.p (.int .i64 0), .p (.int .i64 0)] false) (by decide) rfl
    have o2 := OA.set (M1 := []) (o' := .cells ((p2 f).map .p) false) o1 rfl
    have o3 := (o2.adv (n := 10)).new (k := 22) (o := .cells [.p (.int .i64 0), .p (.int .i64 0)] false) (by decide) rfl
    have o4 := OA.set (M1 := []) (o' := .cells ((p2 l).map .p) false) o3 rfl
    exact o4.mono (by simp only [St.nx_put, St.nx_adv]; omega)
  rintro ⟨e, ds, s1⟩ ⟨k5, k6, rfl, hlen, h1, h2, h5, h6, ho⟩
  simp only at hlen h1 h2 h5 h6 ho
  have g0 := ho.at_ (0, .cells (h.pd.map .p) false) (by simp)
  have g5 := ho.at_ (k5, .cells ((p2 f).map .p) false) (by simp)
  have g6 := ho.at_ (k6, .cells ((p2 l).map .p) false) (by simp)
  simp only [List.map_cons, List.map_nil] at g0 g5 g6
  have hp0 : h.p = (q : Int) := hp
  have bad : agr1 q h.s h.mn h.mx h.bs f l t = false → ∀ {e : List D} {ro : Option Nat} {s : St} {K : Ex → Fr → Prop}, True := fun _ _ _ _ _ => trivial
  refine Wc.seqR (fun y => (0 ≤ h.mn ∧ h.mn ≤ mxv ∧ 0 ≤ h.mx ∧ h.mx ≤ mxv ∧ h.mn ≤ h.mx) ∧ y.ds = [] ∧ y.e.length = 147 ∧ y.e.getD 1 .junk = P' (pI t) ∧ y.e.getD 2 .junk = .v (.c (.ref 0 0)) ∧ y.e.getD 5 .junk = .v (.c (.ref k5 0)) ∧ y.e.getD 6 .junk = .v (.c (.ref k6 0)) ∧ ∃ n, y.s = s1.adv n) ?_ ?_
  · have b7 : ¬ (0 ≤ h.mn ∧ h.mn ≤ mxv ∧ 0 ≤ h.mx ∧ h.mx ≤ mxv ∧ h.mn ≤ h.mx) → agr1 q h.s h.mn h.mx h.bs f l t = false := fun hn7 => by
      unfold agr1; rw [if_pos (by omega)]
    have hM : mxv = 1099511627776 := rfl
    refine Wc.seq ?_
    refine Wc.reg fun K hK => ?_; simp only [go_sem, ti3, ti9, ti5, ti4, ti32, ti148, ti150, ti205, hlen, h1, h2, h5, h6, g0, g5, g6]
    refine wpCall.pf (pf248 h.mn) (by kernel_rfl) (by kernel_rfl) rfl rfl ?_
    by_cases v1 : 0 ≤ h.mn ∧ h.mn ≤ 1099511627776
    · rw [decide_eq_true v1]
      simp only [go_sem, ti3, ti9, ti5, ti4, ti32, ti148, ti150, ti205, hlen, h1, h2, h5, h6, g0, g5, g6]
      refine wpCall.pf (pf248 h.mx) (by kernel_rfl) (by kernel_rfl) rfl rfl ?_
      by_cases v2 : 0 ≤ h.mx ∧ h.mx ≤ 1099511627776
      · rw [decide_eq_true v2]
        simp only [go_sem, ti3, ti9, ti5, ti4, ti32, ti148, ti150, ti205, hlen, h1, h2, h5, h6, g0, g5, g6]; refine hK _ _ ?_; clear hK K
        refine Wc.cond (t := decide (h.mx < h.mn)) (by simp only [go_sem, ti3, ti9, ti5, ti4, ti32, ti148, ti150, ti205, hlen]) (fun hc => ?_) (fun hc => ?_)
        · have hc3 : h.mx < h.mn := by simpa using hc
          refine Wc.seq ?_
          refine Wc.reg fun K hK => ?_; simp only [go_sem, ti3, ti9, ti5, ti4, ti32, ti148, ti150, ti205, hlen]; refine hK _ _ ?_; clear hK K
          rw [b7 (by omega)]
          exact Wc.ret (Pf.ret [.tmp 4] [.c (.p (.bool false))] rfl rfl (by simp only [resultsD, go_sem, ti3, ti9, ti5, ti4, ti32, ti148, ti150, ti205, hlen]) rfl)
        · have hc3 : ¬ h.mx < h.mn := by simpa using hc
          exact Wc.skip ⟨by omega, rfl, by simp only [go_sem, ti3, ti9, ti5, ti4, ti32, ti148, ti150, ti205, hlen], by simp only [go_sem, ti3, ti9, ti5, ti4, ti32, ti148, ti150, ti205, hlen, h1], by simp only [go_sem, ti3, ti9, ti5, ti4, ti32, ti148, ti150, ti205, hlen, h2], by simp only [go_sem, ti3, ti9, ti5, ti4, ti32, ti148, ti150, ti205, hlen, h5], by simp only [go_sem, ti3, ti9, ti5, ti4, ti32, ti148, ti150, ti205, hlen, h6], _, rfl⟩
      · rw [decide_eq_false v2]
        simp only [go_sem, ti3, ti9, ti5, ti4, ti32, ti148, ti150, ti205, hlen, h1, h2, h5, h6, g0, g5, g6]; refine hK _ _ ?_; clear hK K
        refine Wc.cond (t := true) (by simp only [go_sem, ti3, ti9, ti5, ti4, ti32, ti148, ti150, ti205, hlen]) (fun _ => ?_) (fun hc => by cases hc)
        refine Wc.seq ?_
        refine Wc.reg fun K hK => ?_; simp only [go_sem, ti3, ti9, ti5, ti4, ti32, ti148, ti150, ti205, hlen]; refine hK _ _ ?_; clear hK K
        rw [b7 (by omega)]
        exact Wc.ret (Pf.ret [.tmp 4] [.c (.p (.bool false))] rfl rfl (by simp only [resultsD, go_sem, ti3, ti9, ti5, ti4, ti32, ti148, ti150, ti205, hlen]) rfl)
    · rw [decide_eq_false v1]
      simp only [go_sem, ti3, ti9, ti5, ti4, ti32, ti148, ti150, ti205, hlen, h1, h2, h5, h6, g0, g5, g6]; refine hK _ _ ?_; clear hK K
      refine Wc.cond (t := true) (by simp only [go_sem, ti3, ti9, ti5, ti4, ti32, ti148, ti150, ti205, hlen]) (fun _ => ?_) (fun hc => by cases hc)
      refine Wc.seq ?_
      refine Wc.reg fun K hK => ?_; simp only [go_sem, ti3, ti9, ti5, ti4, ti32, ti148, ti150, ti205, hlen]; refine hK _ _ ?_; clear hK K
      rw [b7 (by omega)]
      exact Wc.ret (Pf.ret [.tmp 4] [.c (.p (.bool false))] rfl rfl (by simp only [resultsD, go_sem, ti3, ti9, ti5, ti4, ti32, ti148, ti150, ti205, hlen]) rfl)
  clear bad hlen h1 h2 h5 h6 e
  rintro ⟨e, ds, s2⟩ ⟨⟨m0, m1, m2, m3, m4⟩, rfl, hlen, h1, h2, h5, h6, n1, rfl⟩
  simp only at hlen h1 h2 h5 h6
  simp only [mxv] at m1 m3
  obtain ⟨a, ea⟩ : ∃ a : Nat, h.mn = (a : Int) := ⟨h.mn.toNat, by omega⟩
  obtain ⟨b, eb⟩ : ∃ b : Nat, h.mx = (b : Int) := ⟨h.mx.toNat, by omega⟩
  have ta : h.mn.toNat = a := by omega
  have tb : h.mx.toNat = b := by omega
  have eA : agr1 q h.s h.mn h.mx h.bs f l t = if (ix q a : Int) ≠ f.1 ∨ (ix q b : Int) ≠ l.1 then false else if t = 1 ∧ h.mn ≠ h.mx then false else decide (leastP q h.mn h.mx h.bs l ≤ h.s) && decide (h.s ≤ greatP q h.mn h.mx h.bs f) := by
    have hM : mxv = 1099511627776 := rfl
    unfold agr1; rw [if_neg (by omega), ta, tb]
  have gg0 : (s1.adv n1).get 0 = _ := g0
  have gg5 : (s1.adv n1).get k5 = _ := g5
  have gg6 : (s1.adv n1).get k6 = _ := g6
  refine Wc.seqR (fun y => ((ix q a : Int) = f.1 ∧ (ix q b : Int) = l.1) ∧ y.ds = [] ∧ y.e.length = 147 ∧ y.e.getD 1 .junk = P' (pI t) ∧ y.e.getD 2 .junk = .v (.c (.ref 0 0)) ∧ y.e.getD 5 .junk = .v (.c (.ref k5 0)) ∧ y.e.getD 6 .junk = .v (.c (.ref k6 0)) ∧ ∃ n, y.s = s1.adv n) ?_ ?_
  · refine Wc.seq ?_
    refine Wc.regD fun K hK => ?_; simp only [go_sem, ti3, ti9, ti5, ti4, ti32, ti148, ti150, ti205, hlen, h1, h2, h5, h6, g0, g5, g6, hp0, ea, eb]
    refine ⟨by simp [o247, x247, plainD, plainV, plainC], ?_⟩
    refine wpCall.pf (pf247 q a hq (by omega)) (by kernel_rfl) (by kernel_rfl) rfl rfl ?_
    by_cases v1 : (ix q a : Int) = f.1
    · have b1 : ((ix q a : Int) != f.1) = false := by simpa using v1
      simp only [go_sem, ti3, ti9, ti5, ti4, ti32, ti148, ti150, ti205, hlen, h1, h2, h5, h6, g0, g5, g6, hp0, ea, eb, b1]
      refine ⟨by simp [o247, x247, plainD, plainV, plainC], ?_⟩
      refine wpCall.pf (pf247 q b hq (by omega)) (by kernel_rfl) (by kernel_rfl) rfl rfl ?_
      simp only [go_sem, ti3, ti9, ti5, ti4, ti32, ti148, ti150, ti205, hlen, h1, h2, h5, h6, g0, g5, g6, hp0, ea, eb, b1]; refine hK _ _ ?_; clear hK K
      refine Wc.cond (t := ((ix q b : Int) != l.1)) (by simp only [go_sem, ti3, ti9, ti5, ti4, ti32, ti148, ti150, ti205, hlen]) (fun hc => ?_) (fun hc => ?_)
      · have hc3 : (ix q b : Int) ≠ l.1 := by simpa using hc
        refine Wc.seq ?_
        refine Wc.reg fun K hK => ?_; simp only [go_sem, ti3, ti9, ti5, ti4, ti32, ti148, ti150, ti205, hlen]; refine hK _ _ ?_; clear hK K
        rw [eA, if_pos (.inr hc3)]
        exact Wc.ret (Pf.ret [.tmp 4] [.c (.p (.bool false))] rfl rfl (by simp only [resultsD, go_sem, ti3, ti9, ti5, ti4, ti32, ti148, ti150, ti205, hlen]) rfl)
      · have hc3 : (ix q b : Int) = l.1 := by simpa using hc
        exact Wc.skip ⟨⟨v1, hc3⟩, rfl, by simp only [go_sem, ti3, ti9, ti5, ti4, ti32, ti148, ti150, ti205, hlen], by simp only [go_sem, ti3, ti9, ti5, ti4, ti32, ti148, ti150, ti205, hlen, h1], by simp only [go_sem, ti3, ti9, ti5, ti4, ti32, ti148, ti150, ti205, hlen, h2], by simp only [go_sem, ti3, ti9, ti5, ti4, ti32, ti148, ti150, ti205, hlen, h5], by simp only [go_sem, ti3, ti9, ti5, ti4, ti32, ti148, ti150, ti205, hlen, h6], _, St.adv_adv _ _ _⟩
    · have b1 : ((ix q a : Int) != f.1) = true := by simpa using v1
      simp only [go_sem, ti3, ti9, ti5, ti4, ti32, ti148, ti150, ti205, hlen, h1, h2, h5, h6, g0, g5, g6, hp0, ea, eb, b1]; refine hK _ _ ?_; clear hK K
      refine Wc.cond (t := true) (by simp only [go_sem, ti3, ti9, ti5, ti4, ti32, ti148, ti150, ti205, hlen]) (fun _ => ?_) (fun hc => by cases hc)
      refine Wc.seq ?_
      refine Wc.reg fun K hK => ?_; simp only [go_sem, ti3, ti9, ti5, ti4, ti32, ti148, ti150, ti205, hlen]; refine hK _ _ ?_; clear hK K
      rw [eA, if_pos (.inl v1)]
      exact Wc.ret (Pf.ret [.tmp 4] [.c (.p (.bool false))] rfl rfl (by simp only [resultsD, go_sem, ti3, ti9, ti5, ti4, ti32, ti148, ti150, ti205, hlen]) rfl)
  clear hlen h1 h2 h5 h6 e gg0 gg5 gg6 n1
  rintro ⟨e, ds, s2⟩ ⟨⟨i1, i2⟩, rfl, hlen, h1, h2, h5, h6, n1, rfl⟩
  simp only at hlen h1 h2 h5 h6
  rw [if_neg (by omega)] at eA
  refine Wc.seqR (fun y => ¬ (t = 1 ∧ h.mn ≠ h.mx) ∧ y.ds = [] ∧ y.e.length = 147 ∧ y.e.getD 1 .junk = P' (pI t) ∧ y.e.getD 2 .junk = .v (.c (.ref 0 0)) ∧ y.e.getD 5 .junk = .v (.c (.ref k5 0)) ∧ y.e.getD 6 .junk = .v (.c (.ref k6 0)) ∧ ∃ n, y.s = s1.adv n) ?_ ?_
  · refine Wc.seq ?_
    by_cases v1 : t = 1
    · have b1 : (t == 1) = true := by simpa using v1
      refine Wc.reg fun K hK => ?_; simp only [go_sem, ti3, ti9, ti5, ti4, ti32, ti148, ti150, ti205, hlen, h1, h2, h5, h6, g0, g5, g6, b1]; refine hK _ _ ?_; clear hK K
      refine Wc.cond (t := (h.mn != h.mx)) (by simp only [go_sem, ti3, ti9, ti5, ti4, ti32, ti148, ti150, ti205, hlen]) (fun hc => ?_) (fun hc => ?_)
      · have hc3 : h.mn ≠ h.mx := by simpa using hc
        refine Wc.seq ?_
        refine Wc.reg fun K hK => ?_; simp only [go_sem, ti3, ti9, ti5, ti4, ti32, ti148, ti150, ti205, hlen]; refine hK _ _ ?_; clear hK K
        rw [eA, if_pos ⟨v1, hc3⟩]
        exact Wc.ret (Pf.ret [.tmp 4] [.c (.p (.bool false))] rfl rfl (by simp only [resultsD, go_sem, ti3, ti9, ti5, ti4, ti32, ti148, ti150, ti205, hlen]) rfl)
      · have hc3 : h.mn = h.mx := by simpa using hc
        exact Wc.skip ⟨by omega, rfl, by simp only [go_sem, ti3, ti9, ti5, ti4, ti32, ti148, ti150, ti205, hlen], by simp only [go_sem, ti3, ti9, ti5, ti4, ti32, ti148, ti150, ti205, hlen, h1], by simp only [go_sem, ti3, ti9, ti5, ti4, ti32, ti148, ti150, ti205, hlen, h2], by simp only [go_sem, ti3, ti9, ti5, ti4, ti32, ti148, ti150, ti205, hlen, h5], by simp only [go_sem, ti3, ti9, ti5, ti4, ti32, ti148, ti150, ti205, hlen, h6], _, St.adv_adv _ _ _⟩
    · have b1 : (t == 1) = false := by simpa using v1
      refine Wc.reg fun K hK => ?_; simp only [go_sem, ti3, ti9, ti5, ti4, ti32, ti148, ti150, ti205, hlen, h1, h2, h5, h6, g0, g5, g6, b1]; refine hK _ _ ?_; clear hK K
      refine Wc.cond (t := false) (by simp only [go_sem, ti3, ti9, ti5, ti4, ti32, ti148, ti150, ti205, hlen]) (fun hc => by cases hc) (fun _ => ?_)
      exact Wc.skip ⟨by omega, rfl, by simp only [go_sem, ti3, ti9, ti5, ti4, ti32, ti148, ti150, ti205, hlen], by simp only [go_sem, ti3, ti9, ti5, ti4, ti32, ti148, ti150, ti205, hlen, h1], by simp only [go_sem, ti3, ti9, ti5, ti4, ti32, ti148, ti150, ti205, hlen, h2], by simp only [go_sem, ti3, ti9, ti5, ti4, ti32, ti148, ti150, ti205, hlen, h5], by simp only [go_sem, ti3, ti9, ti5, ti4, ti32, ti148, ti150, ti205, hlen, h6], _, St.adv_adv _ _ _⟩
  clear hlen h1 h2 h5 h6 e n1
  rintro ⟨e, ds, s2⟩ ⟨j1, rfl, hlen, h1, h2, h5, h6, n1, rfl⟩
  simp only at hlen h1 h2 h5 h6
  rw [if_neg j1] at eA
  rw [eA]
  clear eA
  have ho2 : OA (s1.adv n1).nx (s1.adv n1) [] [(k6, .cells ((p2 l).map .p) false), (k5, .cells ((p2 f).map .p) false), (0, .cells (h.pd.map .p) false)] := (ho.mono (Nat.le_add_right _ n1)).adv
  clear g0 g5 g6 ho
  generalize s1.adv n1 = s2 at ho2
  clear n1 s1
  refine Wc.seqA (fun y => ∃ k7 k8, y.ds = [] ∧ y.e.length = 147 ∧ y.e.getD 1 .junk = P' (pI t) ∧ y.e.getD 2 .junk = .v (.c (.ref 0 0)) ∧ y.e.getD 5 .junk = .v (.c (.ref k5 0)) ∧ y.e.getD 6 .junk = .v (.c (.ref k6 0)) ∧ y.e.getD 7 .junk = .v (.c (.ref k7 0)) ∧ y.e.getD 8 .junk = .v (.c (.ref k8 0)) ∧
    OA y.s.nx y.s [] [(k8, .cells [.p (pI 0)] false), (k7, .cells [.p (pI 0)] false), (k6, .cells ((p2 l).map .p) false), (k5, .cells ((p2 f).map .p) false), (0, .cells (h.pd.map .p) false)]) ?_ ?_
  · have f1 : (s2.nx + 1 = s2.nx) = False := by simp
    have f2 : (s2.nx = s2.nx + 1) = False := by simp
    refine Wc.reg fun K hK => ?_; simp only [go_sem, ti3, ti9, ti5, ti4, ti32, ti148, ti150, ti205, hlen, h1, h2, h5, h6, f1, f2]; refine hK _ _ ?_; clear hK K
    refine ⟨rfl, s2.nx, s2.nx + 1, rfl, by simp only [go_sem, ti3, ti9, ti5, ti4, ti32, ti148, ti150, ti205, hlen], by simp only [go_sem, ti3, ti9, ti5, ti4, ti32, ti148, ti150, ti205, hlen, h1], by simp only [go_sem, ti3, ti9, ti5, ti4, ti32, ti148, ti150, ti205, hlen, h2], by simp only [go_sem, ti3, ti9, ti5, ti4, ti32, ti148, ti150, ti205, hlen, h5], by simp only [go_sem, ti3, ti9, ti5, ti4, ti32, ti148, ti150, ti205, hlen, h6], by simp only [go_sem, ti3, ti9, ti5, ti4, ti32, ti148, ti150, ti205, hlen], by simp only [go_sem, ti3, ti9, ti5, ti4, ti32, ti148, ti150, ti205, hlen], ?_⟩
    have o1 := ((ho2.adv (n := 4)).new (k := s2.nx) (o := .cells [.p (pI 0)] false) (Nat.le_refl _) rfl).new (k := s2.nx + 1) (o := .cells [.p (pI 0)] false) (Nat.le_refl _) rfl
    have o2 := OA.set (M1 := [(s2.nx + 1, .cells [.p (pI 0)] false)]) (o' := .cells [.p (pI 0)] false) o1 rfl
    have o3 := OA.set (M1 := []) (o' := .cells [.p (pI 0)] false) o2 rfl
    exact o3.mono (by simp only [St.nx_put, St.nx_adv]; omega)
  clear hlen h1 h2 h5 h6 e ho2 s2
  rintro ⟨e, ds, s1⟩ ⟨k7, k8, rfl, hlen, h1, h2, h5, h6, h7, h8, ho⟩
  simp only at hlen h1 h2 h5 h6 h7 h8 ho
  have nnc : ∀ b ∈ h.bs, 1 ≤ b.2 := hb.cn
  refine Wc.seqA (fun y => ∃ kd, y.ds = [kd] ∧ y.e.length = 147 ∧ y.e.getD 2 .junk = .v (.c (.ref 0 0)) ∧ y.e.getD 5 .junk = .v (.c (.ref k5 0)) ∧ y.e.getD 6 .junk = .v (.c (.ref k6 0)) ∧ y.e.getD 7 .junk = .v (.c (.ref k7 0)) ∧ y.e.getD 8 .junk = .v (.c (.ref k8 0)) ∧
    OA y.s.nx y.s [] ((kd, .defr) :: [(k8, .cells [.p (pI (sumI (fun _ b => min (hi q b.1.toNat : Int) h.mx * b.2) 0 h.bs))] false), (k7, .cells [.p (pI (sumI (fun _ b => max (lo q b.1.toNat : Int) h.mn * b.2) 0 h.bs))] false), (k6, .cells ((p2 l).map .p) false), (k5, .cells ((p2 f).map .p) false), (0, .cells (h.pd.map .p) false)])) ?_ ?_
  · refine Wc.seq ?_
    have g0 := ho.at_ (0, .cells (h.pd.map .p) false) (by simp)
    simp only [List.map_cons, List.map_nil] at g0
    refine Wc.reg fun K hK => ?_; simp only [go_sem, ti3, ti9, ti5, ti4, ti32, ti148, ti150, ti205, hlen, h1, h2, h5, h6, h7, h8, g0]
    refine call249 (hh := h) (ho.adv.mono ?_) fun s2 ho2 hnx2 => ?_
    · simp only [St.nx_adv]; omega
    simp only [go_sem, ti3, ti9, ti5, ti4, ti32, ti148, ti150, ti205, hlen, h1, h2, h5, h6, h7, h8]; refine hK _ _ ?_; clear hK K
    refine Wc.block ?_
    refine Wc.iter (iter271 (h := h) (r := (s1.adv 2).nx) (frz := false) (by omega)) (fun i L M => ∃ u v, L = [] ∧ M = ((s1.adv 2).nx, .cells (h.pd.map .p) false) :: [(k8, .cells [.p (pI v)] false), (k7, .cells [.p (pI u)] false), (k6, .cells ((p2 l).map .p) false), (k5, .cells ((p2 f).map .p) false), (0, .cells (h.pd.map .p) false)] ∧ u = sumI (fun _ b => max (lo q b.1.toNat : Int) h.mn * b.2) 0 (h.bs.take i) ∧ v = sumI (fun _ b => min (hi q b.1.toNat : Int) h.mx * b.2) 0 (h.bs.take i)) (by simp only [go_sem, ti3, ti9, ti5, ti4, ti32, ti148, ti150, ti205, hlen]) ho2 ⟨0, 0, rfl, rfl, rfl, rfl⟩ ?_ ?_ ?_ ?_
    · rintro i L M s ⟨u, v, rfl, rfl, _⟩ hM
      exact hM (_, _) (List.mem_cons_self ..)
    · rintro i k a ⟨_, b, n, _, rfl⟩; rfl
    · rintro i k aa lp s L M ⟨rfl, bb, n, hbb, rfl⟩ ⟨u, v, rfl, rfl, hu, hv⟩ hos
      simp only [setAll, List.zip_cons_cons, List.zip_nil_right]
      have gM : ∀ y ∈ ((s1.adv 2).nx, Ob.cells (h.pd.map .p) false) :: [(k8, .cells [.p (pI v)] false), (k7, .cells [.p (pI u)] false), (k6, .cells ((p2 l).map .p) false), (k5, .cells ((p2 f).map .p) false), (0, .cells (h.pd.map .p) false)], s.get y.1 = some y.2 := fun y hy => hos.at_ y (List.mem_cons_of_mem _ (List.mem_cons_of_mem _ hy))
      refine Wc.reg fun K hK => ?_; simp only [go_sem, ti3, ti9, ti5, ti4, ti32, ti148, ti150, ti205, hlen, h2, h5, h6, h7, h8]; refine hK _ _ ?_; clear hK K
      have q1 := OA.set (M1 := []) (o' := .cells ((p2 bb).map .p) false) ((hos.adv (n := 2)).new (k := s.nx) (o := .cells [.p (.int .i64 0), .p (.int .i64 0)] false) (Nat.le_refl _) rfl) rfl
      refine ⟨rfl, [], _, (q1.permM ((List.Perm.swap _ _ _).trans (List.Perm.cons _ (List.Perm.swap _ _ _)))).mono (by simp only [St.nx_put, St.nx_adv]; omega), fun lq s' hos' => ?_⟩
      clear q1 gM
      have hb0 := (hb.lo0 bb (List.mem_of_getElem? hbb))
      have hb1 := hb.cn bb (List.mem_of_getElem? hbb)
      have bi : bb.1.toNat ≤ (41 - q) * 2 ^ q := by omega
      have lob := lo_last hq bi
      have hib : hi q bb.1.toNat ≤ 1099511627776 := Nat.min_le_right _ _
      have tks := sumI_take (f := fun _ b => b.2) hbb
      have tb1 : cnt (h.bs.take i) + bb.2 ≤ 1048576 ∧ 0 ≤ cnt (h.bs.take i) := by
        have c1 := (cnt_le hb.cn (i + 1)).2
        have c2 := (cnt_le hb.cn i).1
        unfold cnt at *
        omega
      have bdl : ∀ (j : Nat) (c : Int × Int), (h.bs.take i)[j]? = some c → 0 ≤ max (lo q c.1.toNat : Int) h.mn * c.2 ∧ max (lo q c.1.toNat : Int) h.mn * c.2 ≤ 1099511627776 * c.2 := fun j c hc => by
        have hcm := List.mem_of_mem_take (List.mem_of_getElem? hc)
        have c0 := hb.lo0 c hcm
        have c1 := hb.cn c hcm
        have c2 := lo_last hq (i := c.1.toNat) (by omega)
        exact ⟨Int.mul_nonneg (by omega) (by omega), Int.mul_le_mul_of_nonneg_right (by omega) (by omega)⟩
      have bdg : ∀ (j : Nat) (c : Int × Int), (h.bs.take i)[j]? = some c → 0 ≤ min (hi q c.1.toNat : Int) h.mx * c.2 ∧ min (hi q c.1.toNat : Int) h.mx * c.2 ≤ 1099511627776 * c.2 := fun j c hc => by
        have hcm := List.mem_of_mem_take (List.mem_of_getElem? hc)
        have c1 := hb.cn c hcm
        exact ⟨Int.mul_nonneg (by omega) (by omega), Int.mul_le_mul_of_nonneg_right (by omega) (by omega)⟩
      have su := sumI_bound (f := fun _ b => max (lo q b.1.toNat : Int) h.mn * b.2) (i := 0) bdl
      have sv := sumI_bound (f := fun _ b => min (hi q b.1.toNat : Int) h.mx * b.2) (i := 0) bdg
      rw [← hu] at su
      rw [← hv] at sv
      change 0 ≤ u ∧ u ≤ 1099511627776 * cnt (h.bs.take i) at su
      change 0 ≤ v ∧ v ≤ 1099511627776 * cnt (h.bs.take i) at sv
      have X0 : 0 ≤ max (lo q bb.1.toNat : Int) h.mn * bb.2 := Int.mul_nonneg (by omega) (by omega)
      have X1 : max (lo q bb.1.toNat : Int) h.mn * bb.2 ≤ 1099511627776 * bb.2 := Int.mul_le_mul_of_nonneg_right (by omega) (by omega)
      have Y0 : 0 ≤ min (hi q bb.1.toNat : Int) h.mx * bb.2 := Int.mul_nonneg (by omega) (by omega)
      have Y1 : min (hi q bb.1.toNat : Int) h.mx * bb.2 ≤ 1099511627776 * bb.2 := Int.mul_le_mul_of_nonneg_right (by omega) (by omega)
      have hu' : sumI (fun _ b => max (lo q b.1.toNat : Int) h.mn * b.2) 0 (h.bs.take (i + 1)) = u + max (lo q bb.1.toNat : Int) h.mn * bb.2 := by rw [hu]; exact sumI_take hbb
      have hv' : sumI (fun _ b => min (hi q b.1.toNat : Int) h.mx * b.2) 0 (h.bs.take (i + 1)) = v + min (hi q bb.1.toNat : Int) h.mx * bb.2 := by rw [hv]; exact sumI_take hbb
      generalize hX : max (lo q bb.1.toNat : Int) h.mn = X at X0 X1 hu'
      generalize hY : min (hi q bb.1.toNat : Int) h.mx = Y at Y0 Y1 hv'
      have w1 : IntKind.i64.wrap (X * bb.2) = X * bb.2 := by rw [wi64]; omega
      have w2 : IntKind.i64.wrap (u + X * bb.2) = u + X * bb.2 := by rw [wi64]; omega
      have w3 : IntKind.i64.wrap (Y * bb.2) = Y * bb.2 := by rw [wi64]; omega
      have w4 : IntKind.i64.wrap (v + Y * bb.2) = v + Y * bb.2 := by rw [wi64]; omega
      have g9 := hos'.at_ (s.nx, .cells ((p2 bb).map .p) false) (by simp)
      have g0 := hos'.at_ (0, .cells (h.pd.map .p) false) (by simp)
      have g7 := hos'.at_ (k7, .cells [.p (pI u)] false) (by simp)
      simp only [List.map_cons, List.map_nil] at g9 g0 g7
      refine Wc.block (Wc.seq ?_)
      refine Wc.reg fun K hK => ?_; simp only [go_sem, ti3, ti9, ti5, ti4, ti32, ti148, ti150, ti205, hlen, h2, h5, h6, h7, h8, g9, g0]
      refine wpCall.pf (pf250 h bb q bb.1.toNat hq hp (by omega) bi) (by kernel_rfl) (by kernel_rfl) rfl rfl ?_
      rw [hX, hY]
      simp only [go_sem, ti3, ti9, ti5, ti4, ti32, ti148, ti150, ti205, hlen, h2, h5, h6, h7, h8, g9, g0]; refine hK _ _ ?_; clear hK K
      refine Wc.seqA (fun y => y.ds = [] ∧ y.e.length = 147 ∧ y.e.getD 8 .junk = .v (.c (.ref k8 0)) ∧ y.e.getD 9 .junk = .v (.c (.ref s.nx 0)) ∧ y.e.getD 11 .junk = P' (pI Y) ∧
        OA y.s.nx y.s [] ((s2.nx, .loop lq) :: (s2.nx + 1, .defr) :: (s.nx, .cells ((p2 bb).map .p) false) :: ((s1.adv 2).nx, .cells (h.pd.map .p) false) :: [(k8, .cells [.p (pI v)] false), (k7, .cells [.p (pI (u + X * bb.2))] false), (k6, .cells ((p2 l).map .p) false), (k5, .cells ((p2 f).map .p) false), (0, .cells (h.pd.map .p) false)])) ?_ ?_
      · refine Wc.reg fun K hK => ?_; simp only [go_sem, ti3, ti9, ti5, ti4, ti32, ti148, ti150, ti205, hlen, h2, h5, h6, h7, h8, g9, g0, g7, w1, w2]; refine hK _ _ ?_; clear hK K
        refine ⟨rfl, rfl, by simp only [go_sem, ti3, ti9, ti5, ti4, ti32, ti148, ti150, ti205, hlen], by simp only [go_sem, ti3, ti9, ti5, ti4, ti32, ti148, ti150, ti205, hlen, h8], by simp only [go_sem, ti3, ti9, ti5, ti4, ti32, ti148, ti150, ti205, hlen], by simp only [go_sem, ti3, ti9, ti5, ti4, ti32, ti148, ti150, ti205, hlen], ?_⟩
        have q2 := OA.set (M1 := (s2.nx, .loop lq) :: (s2.nx + 1, .defr) :: (s.nx, .cells ((p2 bb).map .p) false) :: ((s1.adv 2).nx, .cells (h.pd.map .p) false) :: [(k8, .cells [.p (pI v)] false)]) (o' := .cells [.p (pI (u + X * bb.2))] false) ((hos'.adv (n := 8)).adv (n := 7)) rfl
        exact q2.mono (by simp only [St.nx_put, St.nx_adv]; omega)
      · clear hos' g9 g0 g7
        rintro ⟨e3, ds3, s3⟩ ⟨rfl, hl3, h83, h93, h113, ho3⟩
        simp only at hl3 h83 h93 h113 ho3
        have g9 := ho3.at_ (s.nx, .cells ((p2 bb).map .p) false) (by simp)
        have g8 := ho3.at_ (k8, .cells [.p (pI v)] false) (by simp)
        simp only [List.map_cons, List.map_nil] at g9 g8
        refine Wc.reg fun K hK => ?_; simp only [go_sem, ti3, ti9, ti5, ti4, ti32, ti148, ti150, ti205, hl3, h83, h93, h113, g9, g8, w3, w4]; refine hK _ _ ?_; clear hK K
        refine ⟨rfl, [], _, ?_, u + X * bb.2, v + Y * bb.2, rfl, rfl, hu'.symm, hv'.symm⟩
        have q3 := OA.set (M1 := (s2.nx, .loop lq) :: (s2.nx + 1, .defr) :: (s.nx, .cells ((p2 bb).map .p) false) :: [((s1.adv 2).nx, .cells (h.pd.map .p) false)]) (o' := .cells [.p (pI (v + Y * bb.2))] false) (ho3.adv (n := 7)) rfl
        exact (q3.sub (List.Sublist.refl _) (List.Sublist.cons_cons _ (List.Sublist.cons_cons _ (List.sublist_cons_self _ _)))).mono (by simp only [St.nx_put, St.nx_adv]; omega)
    · rintro L M s3 hos ⟨u, v, rfl, rfl, hu, hv⟩
      rw [List.take_length] at hu hv
      subst hu hv
      exact ⟨rfl, s2.nx + 1, rfl, by simp only [go_sem, ti3, ti9, ti5, ti4, ti32, ti148, ti150, ti205, hlen], by simp only [go_sem, ti3, ti9, ti5, ti4, ti32, ti148, ti150, ti205, hlen, h2], by simp only [go_sem, ti3, ti9, ti5, ti4, ti32, ti148, ti150, ti205, hlen, h5], by simp only [go_sem, ti3, ti9, ti5, ti4, ti32, ti148, ti150, ti205, hlen, h6], by simp only [go_sem, ti3, ti9, ti5, ti4, ti32, ti148, ti150, ti205, hlen, h7], by simp only [go_sem, ti3, ti9, ti5, ti4, ti32, ti148, ti150, ti205, hlen, h8], hos.sub (List.Sublist.refl _) (List.Sublist.cons_cons _ (List.sublist_cons_self _ _))⟩
  · clear hlen h1 h2 h5 h6 h7 h8 ho e s1
    rintro ⟨e, ds, s1⟩ ⟨kd, rfl, hlen, h2, h5, h6, h7, h8, ho⟩
    simp only at hlen h2 h5 h6 h7 h8 ho
    have bdl : ∀ (j : Nat) (c : Int × Int), h.bs[j]? = some c → 0 ≤ max (lo q c.1.toNat : Int) h.mn * c.2 ∧ max (lo q c.1.toNat : Int) h.mn * c.2 ≤ 1099511627776 * c.2 := fun j c hc => by
      have hcm := List.mem_of_getElem? hc
      have c0 := hb.lo0 c hcm
      have c1 := hb.cn c hcm
      have c2 := lo_last hq (i := c.1.toNat) (by omega)
      exact ⟨Int.mul_nonneg (by omega) (by omega), Int.mul_le_mul_of_nonneg_right (by omega) (by omega)⟩
    have bdg : ∀ (j : Nat) (c : Int × Int), h.bs[j]? = some c → 0 ≤ min (hi q c.1.toNat : Int) h.mx * c.2 ∧ min (hi q c.1.toNat : Int) h.mx * c.2 ≤ 1099511627776 * c.2 := fun j c hc => by
      have hcm := List.mem_of_getElem? hc
      have c1 := hb.cn c hcm
      have c2 : hi q c.1.toNat ≤ 1099511627776 := Nat.min_le_right _ _
      exact ⟨Int.mul_nonneg (by omega) (by omega), Int.mul_le_mul_of_nonneg_right (by omega) (by omega)⟩
    have su := sumI_bound (f := fun _ b => max (lo q b.1.toNat : Int) h.mn * b.2) (i := 0) (by simpa using bdl)
    have sv := sumI_bound (f := fun _ b => min (hi q b.1.toNat : Int) h.mx * b.2) (i := 0) (by simpa using bdg)
    change _ ∧ _ ≤ 1099511627776 * cnt h.bs at su
    change _ ∧ _ ≤ 1099511627776 * cnt h.bs at sv
    rw [← ht] at su sv
    have eL : leastP q h.mn h.mx h.bs l = sumI (fun _ b => max (lo q b.1.toNat : Int) h.mn * b.2) 0 h.bs + (h.mx - max (lo q l.1.toNat : Int) h.mn) := rfl
    have eG : greatP q h.mn h.mx h.bs f = sumI (fun _ b => min (hi q b.1.toNat : Int) h.mx * b.2) 0 h.bs - (min (hi q f.1.toNat : Int) h.mx - h.mn) := rfl
    have f0 := hb.lo0 f (List.mem_of_getElem? hf)
    have l0 := hb.lo0 l (List.mem_of_getElem? hl)
    have lol := lo_last hq (i := l.1.toNat) (by omega)
    have hif2 : hi q f.1.toNat ≤ 1099511627776 := Nat.min_le_right _ _
    generalize sumI (fun _ b => max (lo q b.1.toNat : Int) h.mn * b.2) 0 h.bs = U at *
    generalize sumI (fun _ b => min (hi q b.1.toNat : Int) h.mx * b.2) 0 h.bs = V at *
    have g0 := ho.at_ (0, .cells (h.pd.map .p) false) (by simp)
    have g5 := ho.at_ (k5, .cells ((p2 f).map .p) false) (by simp)
    have g6 := ho.at_ (k6, .cells ((p2 l).map .p) false) (by simp)
    have g7 := ho.at_ (k7, .cells [.p (pI U)] false) (by simp)
    simp only [List.map_cons, List.map_nil] at g0 g5 g6 g7
    refine Wc.seq ?_
    refine Wc.reg fun K hK => ?_; simp only [go_sem, ti3, ti9, ti5, ti4, ti32, ti148, ti150, ti205, hlen, h2, h5, h6, h7, h8, g0, g5]
    refine wpCall.pf (pf250 h f q f.1.toNat hq hp (by omega) (by omega)) (by kernel_rfl) (by kernel_rfl) rfl rfl ?_
    generalize hX1 : max (lo q f.1.toNat : Int) h.mn = X1
    generalize hY1 : min (hi q f.1.toNat : Int) h.mx = Y1 at eG ⊢
    simp only [go_sem, ti3, ti9, ti5, ti4, ti32, ti148, ti150, ti205, hlen, h2, h5, h6, h7, h8, g0, g5]; refine hK _ _ ?_; clear hK K
    refine Wc.seq ?_
    refine Wc.reg fun K hK => ?_; simp only [go_sem, ti3, ti9, ti5, ti4, ti32, ti148, ti150, ti205, hlen, h2, h5, h6, h7, h8, g0, g6]
    refine wpCall.pf (pf250 h l q l.1.toNat hq hp (by omega) (by omega)) (by kernel_rfl) (by kernel_rfl) rfl rfl ?_
    generalize hX2 : max (lo q l.1.toNat : Int) h.mn = X2 at eL ⊢
    generalize hY2 : min (hi q l.1.toNat : Int) h.mx = Y2
    simp only [go_sem, ti3, ti9, ti5, ti4, ti32, ti148, ti150, ti205, hlen, h2, h5, h6, h7, h8, g0, g6]; refine hK _ _ ?_; clear hK K
    have w1 : IntKind.i64.wrap (h.mx - X2) = h.mx - X2 := by rw [wi64]; omega
    have w2 : IntKind.i64.wrap (U + (h.mx - X2)) = leastP q h.mn h.mx h.bs l := by rw [wi64]; omega
    have w3 : IntKind.i64.wrap (Y1 - h.mn) = Y1 - h.mn := by rw [wi64]; omega
    have w4 : IntKind.i64.wrap (V - (Y1 - h.mn)) = greatP q h.mn h.mx h.bs f := by rw [wi64]; omega
    refine Wc.seqA (fun y => y.ds = [kd] ∧ y.e.length = 147 ∧ y.e.getD 2 .junk = .v (.c (.ref 0 0)) ∧ y.e.getD 7 .junk = .v (.c (.ref k7 0)) ∧ y.e.getD 8 .junk = .v (.c (.ref k8 0)) ∧ y.e.getD 13 .junk = P' (pI Y1) ∧
      OA y.s.nx y.s [] ((kd, .defr) :: [(k8, .cells [.p (pI V)] false), (k7, .cells [.p (pI (leastP q h.mn h.mx h.bs l))] false), (k6, .cells ((p2 l).map .p) false), (k5, .cells ((p2 f).map .p) false), (0, .cells (h.pd.map .p) false)])) ?_ ?_
    · refine Wc.reg fun K hK => ?_; simp only [go_sem, ti3, ti9, ti5, ti4, ti32, ti148, ti150, ti205, hlen, h2, h5, h6, h7, h8, g0, g6, g7, w1, w2]; refine hK _ _ ?_; clear hK K
      refine ⟨rfl, rfl, by simp only [go_sem, ti3, ti9, ti5, ti4, ti32, ti148, ti150, ti205, hlen], by simp only [go_sem, ti3, ti9, ti5, ti4, ti32, ti148, ti150, ti205, hlen, h2], by simp only [go_sem, ti3, ti9, ti5, ti4, ti32, ti148, ti150, ti205, hlen, h7], by simp only [go_sem, ti3, ti9, ti5, ti4, ti32, ti148, ti150, ti205, hlen, h8], by simp only [go_sem, ti3, ti9, ti5, ti4, ti32, ti148, ti150, ti205, hlen], ?_⟩
      have q2 := OA.set (M1 := (kd, .defr) :: [(k8, .cells [.p (pI V)] false)]) (o' := .cells [.p (pI (leastP q h.mn h.mx h.bs l))] false) (((ho.adv (n := 8)).adv (n := 8)).adv (n := 7)) rfl
      exact q2.mono (by simp only [St.nx_put, St.nx_adv]; omega)
    clear hlen h2 h5 h6 h7 h8 ho e s1 g0 g5 g6 g7
    rintro ⟨e, ds, s1⟩ ⟨rfl, hlen, h2, h7, h8, h13, ho⟩
    simp only at hlen h2 h7 h8 h13 ho
    have g0 := ho.at_ (0, .cells (h.pd.map .p) false) (by simp)
    have g8 := ho.at_ (k8, .cells [.p (pI V)] false) (by simp)
    simp only [List.map_cons, List.map_nil] at g0 g8
    refine Wc.seqA (fun y => y.ds = [kd] ∧ y.e.length = 147 ∧ y.e.getD 2 .junk = .v (.c (.ref 0 0)) ∧ y.e.getD 7 .junk = .v (.c (.ref k7 0)) ∧ y.e.getD 8 .junk = .v (.c (.ref k8 0)) ∧
      OA y.s.nx y.s [] ((kd, .defr) :: [(k8, .cells [.p (pI (greatP q h.mn h.mx h.bs f))] false), (k7, .cells [.p (pI (leastP q h.mn h.mx h.bs l))] false), (k6, .cells ((p2 l).map .p) false), (k5, .cells ((p2 f).map .p) false), (0, .cells (h.pd.map .p) false)])) ?_ ?_
    · refine Wc.reg fun K hK => ?_; simp only [go_sem, ti3, ti9, ti5, ti4, ti32, ti148, ti150, ti205, hlen, h2, h7, h8, h13, g0, g8, w3, w4]; refine hK _ _ ?_; clear hK K
      refine ⟨rfl, rfl, by simp only [go_sem, ti3, ti9, ti5, ti4, ti32, ti148, ti150, ti205, hlen], by simp only [go_sem, ti3, ti9, ti5, ti4, ti32, ti148, ti150, ti205, hlen, h2], by simp only [go_sem, ti3, ti9, ti5, ti4, ti32, ti148, ti150, ti205, hlen, h7], by simp only [go_sem, ti3, ti9, ti5, ti4, ti32, ti148, ti150, ti205, hlen, h8], ?_⟩
      have q2 := OA.set (M1 := [(kd, .defr)]) (o' := .cells [.p (pI (greatP q h.mn h.mx h.bs f))] false) (ho.adv (n := 7)) rfl
      exact q2.mono (by simp only [St.nx_put, St.nx_adv]; omega)
    clear hlen h2 h7 h8 h13 ho e s1 g0 g8
    rintro ⟨e, ds, s1⟩ ⟨rfl, hlen, h2, h7, h8, ho⟩
    simp only at hlen h2 h7 h8 ho
    have g0 := ho.at_ (0, .cells (h.pd.map .p) false) (by simp)
    have g7 := ho.at_ (k7, .cells [.p (pI (leastP q h.mn h.mx h.bs l))] false) (by simp)
    have g8 := ho.at_ (k8, .cells [.p (pI (greatP q h.mn h.mx h.bs f))] false) (by simp)
    have gd := ho.at_ (kd, .defr) (List.mem_cons_self ..)
    simp only [List.map_cons, List.map_nil] at g0 g7 g8 gd
    refine Wc.seq ?_
    by_cases z1 : leastP q h.mn h.mx h.bs l ≤ h.s
    · refine Wc.reg fun K hK => ?_; simp only [go_sem, ti3, ti9, ti5, ti4, ti32, ti148, ti150, ti205, hlen, h2, h7, h8, g0, g7, g8, z1]; refine hK _ _ ?_; clear hK K
      rw [decide_eq_true z1, Bool.true_and]
      exact Wc.ret (Pf.ret1 [.tmp 4] [.c (.p (.bool (decide (h.s ≤ greatP q h.mn h.mx h.bs f))))] rfl gd rfl (by simp only [resultsD, go_sem, ti3, ti9, ti5, ti4, ti32, ti148, ti150, ti205, hlen]) rfl)
    · refine Wc.reg fun K hK => ?_; simp only [go_sem, ti3, ti9, ti5, ti4, ti32, ti148, ti150, ti205, hlen, h2, h7, h8, g0, g7, g8, z1]; refine hK _ _ ?_; clear hK K
      rw [decide_eq_false z1, Bool.false_and]
      exact Wc.ret (Pf.ret1 [.tmp 4] [.c (.p (.bool false))] rfl gd rfl (by simp only [resultsD, go_sem, ti3, ti9, ti5, ti4, ti32, ti148, ti150, ti205, hlen]) rfl)
end Go.Proofs.YtedcnhbblgmdnaaGreat.Ab
