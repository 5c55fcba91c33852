/- A part of the proof: an evaluator of the code, its contracts, the law. No condition. -/
import Derived.Test.YtedcnhbblgmdnaaGreatT24
namespace Go.Proofs.YtedcnhbblgmdnaaGreat.Ab
set_option maxHeartbeats 8000000
set_option maxRecDepth 10000
set_option linter.unusedSimpArgs false
set_option linter.unusedVariables false
/-- 118: checkChunk -/
theorem pf118 (c : Chk) (w : Int) (z : Cz c) : Pf E0 118 [.agg (c.pd.map .p), .c (.p (pI w))] (P' (pI (ckC c w))) := by
  generalize hR : ckC c w = R
  unfold ckC at hR
  have p134 := pf134 c.lb z.lb z.ls
  have p191 := pf191 c.z
  refine Pf.body (fn := Tryz.f118) (by kernel_rfl) rfl ?_; simp only [List.map_cons, List.map_nil, List.cons_append, List.nil_append, List.length_cons, List.length_nil, Tryz.ntmps118, List.replicate, Nat.reduceSub, Nat.reduceAdd]
  refine Wc.seq ?_
  refine Wc.reg fun K hK => ?_; simp only [go_sem, ti3, ti4, ti5, ti9, ti32, ti22, ti94, ti96, ti65, ti67, ti175, Int.natCast_zero]; refine hK _ _ ?_; clear hK K
  refine Wc.seq (Wc.seq ?_)
  rcases Bool.eq_false_or_eq_true (decide (c.sig < 1)) with a1 | a1
  · refine Wc.reg fun K hK => ?_; simp only [go_sem, ti3, ti4, ti5, ti9, ti32, ti22, ti94, ti96, ti65, ti67, ti175, Int.natCast_zero, a1]; refine hK _ _ ?_; clear hK K
    refine Wc.cond (t := true) (by simp only [go_sem, ti3, ti4, ti5, ti9, ti32, ti22, ti94, ti96, ti65, ti67, ti175, Int.natCast_zero, a1]) (fun _ => ?_) (fun hc => by cases hc)
    refine Wc.seq ?_
    refine Wc.reg fun K hK => ?_; simp only [go_sem, ti3, ti4, ti5, ti9, ti32, ti22, ti94, ti96, ti65, ti67, ti175, Int.natCast_zero]; refine hK _ _ ?_; clear hK K
    obtain rfl : R = 8 := by rw [← hR]; simp only [a1, Bool.or_true, Bool.true_or, Bool.or_false, Bool.false_or, Bool.and_true, Bool.true_and, Bool.false_and, Bool.and_false, Bool.not_true, Bool.not_false, cond_true, cond_false]
    exact Wc.ret (Pf.ret [.tmp 4] [.c (.p (pI 8))] rfl rfl (by simp only [resultsD, go_sem, ti3, ti4, ti5, ti9, ti32, ti22, ti94, ti96, ti65, ti67, ti175, Int.natCast_zero]) rfl)
  rcases Bool.eq_false_or_eq_true (decide (6 < c.sig)) with a2 | a2
  · refine Wc.reg fun K hK => ?_; simp only [go_sem, ti3, ti4, ti5, ti9, ti32, ti22, ti94, ti96, ti65, ti67, ti175, Int.natCast_zero, a1, a2]; refine hK _ _ ?_; clear hK K
    refine Wc.cond (t := true) (by simp only [go_sem, ti3, ti4, ti5, ti9, ti32, ti22, ti94, ti96, ti65, ti67, ti175, Int.natCast_zero, a1, a2]) (fun _ => ?_) (fun hc => by cases hc)
    refine Wc.seq ?_
    refine Wc.reg fun K hK => ?_; simp only [go_sem, ti3, ti4, ti5, ti9, ti32, ti22, ti94, ti96, ti65, ti67, ti175, Int.natCast_zero]; refine hK _ _ ?_; clear hK K
    obtain rfl : R = 8 := by rw [← hR]; simp only [a1, a2, Bool.or_true, Bool.true_or, Bool.or_false, Bool.false_or, Bool.and_true, Bool.true_and, Bool.false_and, Bool.and_false, Bool.not_true, Bool.not_false, cond_true, cond_false]
    exact Wc.ret (Pf.ret [.tmp 4] [.c (.p (pI 8))] rfl rfl (by simp only [resultsD, go_sem, ti3, ti4, ti5, ti9, ti32, ti22, ti94, ti96, ti65, ti67, ti175, Int.natCast_zero]) rfl)
  refine Wc.reg fun K hK => ?_; simp only [go_sem, ti3, ti4, ti5, ti9, ti32, ti22, ti94, ti96, ti65, ti67, ti175, Int.natCast_zero, a1, a2]; refine hK _ _ ?_; clear hK K
  refine Wc.cond (t := false) (by simp only [go_sem, ti3, ti4, ti5, ti9, ti32, ti22, ti94, ti96, ti65, ti67, ti175, Int.natCast_zero, a1, a2]) (fun hc => by cases hc) (fun _ => Wc.skip ?_)
  simp only [a1, a2, Bool.or_true, Bool.true_or, Bool.or_false, Bool.false_or, Bool.and_true, Bool.true_and, Bool.false_and, Bool.and_false, Bool.not_true, Bool.not_false, cond_true, cond_false] at hR
  refine Wc.seq (Wc.seq ?_)
  rcases Bool.eq_false_or_eq_true ((c.sig == 6) == (w != 0)) with k0 | k0
  · simp only [k0, Bool.or_true, Bool.true_or, Bool.or_false, Bool.false_or, Bool.and_true, Bool.true_and, Bool.false_and, Bool.and_false, Bool.not_true, Bool.not_false, cond_true, cond_false] at hR
    refine Wc.reg fun K hK => ?_; simp only [go_sem, ti3, ti4, ti5, ti9, ti32, ti22, ti94, ti96, ti65, ti67, ti175, Int.natCast_zero, k0]; refine hK _ _ ?_; clear hK K
    refine Wc.cond (t := false) (by simp only [go_sem, ti3, ti4, ti5, ti9, ti32, ti22, ti94, ti96, ti65, ti67, ti175, Int.natCast_zero, k0]) (fun hc => by cases hc) (fun _ => Wc.skip ?_)
    refine Wc.seq (Wc.seq ?_)
    refine Wc.reg fun K hK => ?_; simp only [go_sem, ti3, ti4, ti5, ti9, ti32, ti22, ti94, ti96, ti65, ti67, ti175, Int.natCast_zero]
    refine wpCall.pf (p134) (by kernel_rfl) (by kernel_rfl) rfl rfl ?_
    simp only [go_sem, ti3, ti4, ti5, ti9, ti32, ti22, ti94, ti96, ti65, ti67, ti175, Int.natCast_zero]; refine hK _ _ ?_; clear hK K
    refine Wc.seq ?_
    refine Wc.reg fun K hK => ?_; simp only [go_sem, ti3, ti4, ti5, ti9, ti32, ti22, ti94, ti96, ti65, ti67, ti175, Int.natCast_zero]; refine hK _ _ ?_; clear hK K
    generalize lckA c.lb = L at *
    refine Wc.cond (t := L != 0) (by simp only [go_sem, ti3, ti4, ti5, ti9, ti32, ti22, ti94, ti96, ti65, ti67, ti175, Int.natCast_zero]) (fun hc => ?_) (fun hc => ?_)
    · simp only [hc, Bool.or_true, Bool.true_or, Bool.or_false, Bool.false_or, Bool.and_true, Bool.true_and, Bool.false_and, Bool.and_false, Bool.not_true, Bool.not_false, cond_true, cond_false] at hR
      subst hR
      refine Wc.seq ?_
      refine Wc.reg fun K hK => ?_; simp only [go_sem, ti3, ti4, ti5, ti9, ti32, ti22, ti94, ti96, ti65, ti67, ti175, Int.natCast_zero]; refine hK _ _ ?_; clear hK K
      exact Wc.ret (Pf.ret [.tmp 4] [.c (.p (pI L))] rfl rfl (by simp only [resultsD, go_sem, ti3, ti4, ti5, ti9, ti32, ti22, ti94, ti96, ti65, ti67, ti175, Int.natCast_zero]) rfl)
    simp only [hc, Bool.or_true, Bool.true_or, Bool.or_false, Bool.false_or, Bool.and_true, Bool.true_and, Bool.false_and, Bool.and_false, Bool.not_true, Bool.not_false, cond_true, cond_false] at hR
    refine Wc.skip (Wc.seq ?_)
    rcases Bool.eq_false_or_eq_true (((c.sig == 3) || (c.sig == 5)) && decide (0 < (c.lb.length : Int))) with k1 | k1
    · simp only [k1, Bool.or_true, Bool.true_or, Bool.or_false, Bool.false_or, Bool.and_true, Bool.true_and, Bool.false_and, Bool.and_false, Bool.not_true, Bool.not_false, cond_true, cond_false] at hR
      subst hR
      have k2 := k1
      rw [Bool.and_eq_true] at k2
      refine Wc.seq ?_
      refine Wc.reg fun K hK => ?_; simp only [go_sem, ti3, ti4, ti5, ti9, ti32, ti22, ti94, ti96, ti65, ti67, ti175, Int.natCast_zero]
      refine wpCall.pf (pf190 c.sig) (by kernel_rfl) (by kernel_rfl) rfl rfl ?_
      simp only [go_sem, ti3, ti4, ti5, ti9, ti32, ti22, ti94, ti96, ti65, ti67, ti175, Int.natCast_zero, k2.1, k2.2]; refine hK _ _ ?_; clear hK K
      refine Wc.cond (t := true) (by simp only [go_sem, ti3, ti4, ti5, ti9, ti32, ti22, ti94, ti96, ti65, ti67, ti175, Int.natCast_zero, k2.2]) (fun _ => ?_) (fun hc => by cases hc)
      refine Wc.seq ?_
      refine Wc.reg fun K hK => ?_; simp only [go_sem, ti3, ti4, ti5, ti9, ti32, ti22, ti94, ti96, ti65, ti67, ti175, Int.natCast_zero]; refine hK _ _ ?_; clear hK K
      exact Wc.ret (Pf.ret [.tmp 4] [.c (.p (pI 1))] rfl rfl (by simp only [resultsD, go_sem, ti3, ti4, ti5, ti9, ti32, ti22, ti94, ti96, ti65, ti67, ti175, Int.natCast_zero]) rfl)
    simp only [k1, Bool.or_true, Bool.true_or, Bool.or_false, Bool.false_or, Bool.and_true, Bool.true_and, Bool.false_and, Bool.and_false, Bool.not_true, Bool.not_false, cond_true, cond_false] at hR
    have p190 := pf190 c.sig
    refine Wc.seqR (fun y => y.ds = [] ∧ Fs y.e 46 [(2, .v (.c (.ref 0 0))), (35, P' (.bool false))] ∧ OA y.s.nx y.s [] [(0, .cells (c.pd.map .p) false)]) ?_ ?_
    · cases hu : ((c.sig == 3) || (c.sig == 5)) with
      | false =>
        rw [hu] at p190
        refine Wc.reg fun K hK => ?_; simp only [go_sem, ti3, ti4, ti5, ti9, ti32, ti22, ti94, ti96, ti65, ti67, ti175, Int.natCast_zero]
        refine wpCall.pf (p190) (by kernel_rfl) (by kernel_rfl) rfl rfl ?_
        simp only [go_sem, ti3, ti4, ti5, ti9, ti32, ti22, ti94, ti96, ti65, ti67, ti175, Int.natCast_zero]; refine hK _ _ ?_; clear hK K
        exact ⟨rfl, by simp only [Fs, Int.natCast_zero, go_sem, ti3, ti4, ti5, ti9, ti32, ti22, ti94, ti96, ti65, ti67, ti175, Int.natCast_zero], by (try simp only [St.nx_put, St.nx_adv]); repeat (first | exact OA.mono s00_oa (by omega) | refine OA.newB ?_ (by omega) rfl | refine OA.advB ?_)⟩
      | true =>
        rw [hu, Bool.true_and] at k1
        rw [hu] at p190
        refine Wc.reg fun K hK => ?_; simp only [go_sem, ti3, ti4, ti5, ti9, ti32, ti22, ti94, ti96, ti65, ti67, ti175, Int.natCast_zero]
        refine wpCall.pf (p190) (by kernel_rfl) (by kernel_rfl) rfl rfl ?_
        simp only [go_sem, ti3, ti4, ti5, ti9, ti32, ti22, ti94, ti96, ti65, ti67, ti175, Int.natCast_zero, k1]; refine hK _ _ ?_; clear hK K
        exact ⟨rfl, by simp only [Fs, Int.natCast_zero, go_sem, ti3, ti4, ti5, ti9, ti32, ti22, ti94, ti96, ti65, ti67, ti175, Int.natCast_zero], by (try simp only [St.nx_put, St.nx_adv]); repeat (first | exact OA.mono s00_oa (by omega) | refine OA.newB ?_ (by omega) rfl | refine OA.advB ?_)⟩
    rintro ⟨e, ds, s1⟩ ⟨rfl, hF, ho⟩
    simp only [Fs] at hF ho
    have g0 := ho.at_ (0, .cells (c.pd.map .p) false) (by simp)
    simp only [List.map_cons, List.map_nil] at g0
    refine Wc.cond (t := false) (by simp only [go_sem, ti3, ti4, ti5, ti9, ti32, ti22, ti94, ti96, ti65, ti67, ti175, Int.natCast_zero, hF]) (fun hc => by cases hc) (fun _ => Wc.skip ?_)
    refine Wc.seq (Wc.seq ?_)
    refine Wc.reg fun K hK => ?_; simp only [go_sem, ti3, ti4, ti5, ti9, ti32, ti22, ti94, ti96, ti65, ti67, ti175, Int.natCast_zero, hF, g0]
    refine wpCall.pf (p191) (by kernel_rfl) (by kernel_rfl) rfl rfl ?_
    simp only [go_sem, ti3, ti4, ti5, ti9, ti32, ti22, ti94, ti96, ti65, ti67, ti175, Int.natCast_zero, hF]; refine hK _ _ ?_; clear hK K
    refine Wc.seq ?_
    refine Wc.reg fun K hK => ?_; simp only [go_sem, ti3, ti4, ti5, ti9, ti32, ti22, ti94, ti96, ti65, ti67, ti175, Int.natCast_zero, hF]; refine hK _ _ ?_; clear hK K
    generalize zkG c.z = Z at *
    refine Wc.cond (t := Z != 0) (by simp only [go_sem, ti3, ti4, ti5, ti9, ti32, ti22, ti94, ti96, ti65, ti67, ti175, Int.natCast_zero, hF]) (fun hc => ?_) (fun hc => ?_)
    · simp only [hc, Bool.or_true, Bool.true_or, Bool.or_false, Bool.false_or, Bool.and_true, Bool.true_and, Bool.false_and, Bool.and_false, Bool.not_true, Bool.not_false, cond_true, cond_false] at hR
      subst hR
      refine Wc.seq ?_
      refine Wc.reg fun K hK => ?_; simp only [go_sem, ti3, ti4, ti5, ti9, ti32, ti22, ti94, ti96, ti65, ti67, ti175, Int.natCast_zero, hF]; refine hK _ _ ?_; clear hK K
      exact Wc.ret (Pf.ret [.tmp 4] [.c (.p (pI Z))] rfl rfl (by simp only [resultsD, go_sem, ti3, ti4, ti5, ti9, ti32, ti22, ti94, ti96, ti65, ti67, ti175, Int.natCast_zero, hF]) rfl)
    simp only [hc, Bool.or_true, Bool.true_or, Bool.or_false, Bool.false_or, Bool.and_true, Bool.true_and, Bool.false_and, Bool.and_false, Bool.not_true, Bool.not_false, cond_true, cond_false] at hR
    refine Wc.skip (Wc.seq (Wc.seq ?_))
    refine Wc.reg fun K hK => ?_; simp only [go_sem, ti3, ti4, ti5, ti9, ti32, ti22, ti94, ti96, ti65, ti67, ti175, Int.natCast_zero, hF, g0]; refine hK _ _ ?_; clear hK K
    refine Wc.cond (t := decide (262144 < (c.d.length : Int))) (by simp only [go_sem, ti3, ti4, ti5, ti9, ti32, ti22, ti94, ti96, ti65, ti67, ti175, Int.natCast_zero, hF]) (fun hc => ?_) (fun hc => ?_)
    · simp only [hc, Bool.or_true, Bool.true_or, Bool.or_false, Bool.false_or, Bool.and_true, Bool.true_and, Bool.false_and, Bool.and_false, Bool.not_true, Bool.not_false, cond_true, cond_false] at hR
      subst hR
      refine Wc.seq ?_
      refine Wc.reg fun K hK => ?_; simp only [go_sem, ti3, ti4, ti5, ti9, ti32, ti22, ti94, ti96, ti65, ti67, ti175, Int.natCast_zero, hF]; refine hK _ _ ?_; clear hK K
      exact Wc.ret (Pf.ret [.tmp 4] [.c (.p (pI 4))] rfl rfl (by simp only [resultsD, go_sem, ti3, ti4, ti5, ti9, ti32, ti22, ti94, ti96, ti65, ti67, ti175, Int.natCast_zero, hF]) rfl)
    simp only [hc, Bool.or_true, Bool.true_or, Bool.or_false, Bool.false_or, Bool.and_true, Bool.true_and, Bool.false_and, Bool.and_false, Bool.not_true, Bool.not_false, cond_true, cond_false] at hR
    subst hR
    refine Wc.skip (Wc.seq ?_)
    refine Wc.reg fun K hK => ?_; simp only [go_sem, ti3, ti4, ti5, ti9, ti32, ti22, ti94, ti96, ti65, ti67, ti175, Int.natCast_zero, hF]; refine hK _ _ ?_; clear hK K
    exact Wc.ret (Pf.ret [.tmp 4] [.c (.p (pI 0))] rfl rfl (by simp only [resultsD, go_sem, ti3, ti4, ti5, ti9, ti32, ti22, ti94, ti96, ti65, ti67, ti175, Int.natCast_zero, hF]) rfl)
  · simp only [k0, Bool.or_true, Bool.true_or, Bool.or_false, Bool.false_or, Bool.and_true, Bool.true_and, Bool.false_and, Bool.and_false, Bool.not_true, Bool.not_false, cond_true, cond_false] at hR
    subst hR
    refine Wc.reg fun K hK => ?_; simp only [go_sem, ti3, ti4, ti5, ti9, ti32, ti22, ti94, ti96, ti65, ti67, ti175, Int.natCast_zero, k0]; refine hK _ _ ?_; clear hK K
    refine Wc.cond (t := true) (by simp only [go_sem, ti3, ti4, ti5, ti9, ti32, ti22, ti94, ti96, ti65, ti67, ti175, Int.natCast_zero, k0]) (fun _ => ?_) (fun hc => by cases hc)
    refine Wc.seq ?_
    refine Wc.reg fun K hK => ?_; simp only [go_sem, ti3, ti4, ti5, ti9, ti32, ti22, ti94, ti96, ti65, ti67, ti175, Int.natCast_zero]; refine hK _ _ ?_; clear hK K
    exact Wc.ret (Pf.ret [.tmp 4] [.c (.p (pI 8))] rfl rfl (by simp only [resultsD, go_sem, ti3, ti4, ti5, ti9, ti32, ti22, ti94, ti96, ti65, ti67, ti175, Int.natCast_zero]) rfl)
theorem o138 : E0.opn 138 = false := by kernel_rfl
theorem x138 : E0.xt 138 = none := by kernel_rfl
theorem o52 : E0.opn 52 = false := by kernel_rfl
theorem x52 : E0.xt 52 = none := by kernel_rfl
/-- 119: compare -/
theorem pf119 (a b : Chk) (ha : Cz a) (hb : Cz b) : Pf E0 119 [.agg (a.pd.map .p), .agg (b.pd.map .p)] (P' (pI (cmpC a b))) := by
  have p52 := pf52 a.lb b.lb (by have := ha.lb; omega) (by have := hb.lb; omega)
  have p138 := pf138 a.sig b.sig
  have p104 := pf104 (cmpI a.sig b.sig) (cmpL a.lb b.lb)
  unfold cmpC
  generalize cmpI a.sig b.sig = C at *
  generalize cmpL a.lb b.lb = D at *
  generalize (if C ≠ 0 then C else D) = R at *
  refine Pf.body (fn := Tryz.f119) (by kernel_rfl) rfl ?_; simp only [List.map_cons, List.map_nil, List.cons_append, List.nil_append, List.length_cons, List.length_nil, Tryz.ntmps119, List.replicate, Nat.reduceSub, Nat.reduceAdd]
  refine Wc.seq ?_
  refine Wc.reg fun K hK => ?_; simp only [go_sem, ti3, ti4, ti5, ti9, ti32, ti22, ti94, ti96, ti65, ti67, ti175, Int.natCast_zero]; refine hK _ _ ?_; clear hK K
  refine Wc.seq ?_
  refine Wc.regT fun K hK => ?_
  simp only [go_sem, ti3, ti4, ti5, ti9, ti32, ti22, ti94, ti96, ti65, ti67, ti175, Int.natCast_zero]
  refine wpCall.pf (p138) (by kernel_rfl) (by kernel_rfl) rfl rfl ?_
  simp only [go_sem, ti3, ti4, ti5, ti9, ti32, ti22, ti94, ti96, ti65, ti67, ti175, Int.natCast_zero]
  refine wpCall.pf (p52) (by kernel_rfl) (by kernel_rfl) rfl rfl ?_
  simp only [go_sem, ti3, ti4, ti5, ti9, ti32, ti22, ti94, ti96, ti65, ti67, ti175, Int.natCast_zero]
  refine wpCall.pf (p104) (by kernel_rfl) (by kernel_rfl) rfl rfl ?_
  simp only [go_sem, ti3, ti4, ti5, ti9, ti32, ti22, ti94, ti96, ti65, ti67, ti175, Int.natCast_zero, o104, x104, o138, x138, o52, x52]
  refine ⟨by rw [trOK_eq3]; rfl, hK _ _ ?_⟩
  clear hK K
  exact Wc.ret (Pf.ret [.tmp 4] [.c (.p (pI R))] rfl rfl (by simp only [resultsD, go_sem, ti3, ti4, ti5, ti9, ti32, ti22, ti94, ti96, ti65, ti67, ti175, Int.natCast_zero]) rfl)
end Go.Proofs.YtedcnhbblgmdnaaGreat.Ab
namespace Go.Proofs.YtedcnhbblgmdnaaGreat.Ab
set_option maxHeartbeats 8000000
set_option maxRecDepth 10000
set_option linter.unusedSimpArgs false
set_option linter.unusedVariables false
/-- A cut at a part's end; the part may also leave. -/
theorem Wc.cutR {E : Env} {ro : Option Nat} {c : Code} {x : Fr} {Q : Ex → Fr → Prop} (A : Fr → Prop) (h1 : Wc E ro c x (thenD A Q)) (h2 : ∀ y, A y → Q .normal y) : Wc E ro c x Q :=
  h1.mono fun ex y h => by
    cases ex with
    | normal => exact h2 y h
    | exit i => exact h
    | ret => exact h
theorem fK (l : List Chk) : (l.flatMap Chk.pd).length = l.length * 16 := flat_len (k := 16) (fun _ => rfl) _
theorem rpK {l : List Chk} {i : Nat} {c : Chk} (h : l[i]? = some c) (s : St) : cellsAt s (.v (.c (.rp (l.flatMap Chk.pd) (i * 16)))) = some ((c.pd ++ (l.drop (i + 1)).flatMap Chk.pd).map .p) := by
  have hf := fK l
  have hi := (List.getElem?_eq_some_iff.1 h).1
  exact rpA (off := i * 16) (drop_flat (f := Chk.pd) (k := 16) (fun _ => rfl) h) (by omega) s
def cmpP (q : Option Chk) (c : Chk) : Int := (q.map fun q => cmpC q c).getD (-1)
theorem cksC_step {w : Int} {l : List Chk} {i : Nat} {c : Chk} (h : l[i]? = some c) : cksC w (prevC l i) (l.drop i) = bif ckC c w != 0 then ckC c w else bif decide (0 < i) && decide (0 ≤ cmpP (l[i - 1]?) c) then 9 else cksC w (prevC l (i + 1)) (l.drop (i + 1)) := by
  obtain ⟨h1, h2⟩ := List.getElem?_eq_some_iff.1 h
  have hp : prevC l (i + 1) = some c := by simp [prevC, h]
  rw [List.drop_eq_getElem_cons h1, h2, hp]
  by_cases h0 : i = 0
  · subst h0
    simp [prevC, cksC]
  · have hq : prevC l i = some l[i - 1] := by simp [prevC, h0]
    have hq2 : l[i - 1]? = some l[i - 1] := by simp
    rw [hq, hq2, cksC, decide_eq_true (show 0 < i by omega), Bool.true_and]
    rfl
theorem o119 : E0.opn 119 = false := by kernel_rfl
theorem x119 : E0.xt 119 = none := by kernel_rfl
/-- 63: block.Check -/
theorem pf63 (b : Blk) (hl : b.cs.length < 2^40) (hz : ∀ c ∈ b.cs, Cz c) : Pf E0 63 [.agg (b.pd.map .p)] (P' (pI (blkC b))) := by
  have hfl := fK b.cs
  generalize hR : blkC b = R
  unfold blkC at hR
  refine Pf.body (fn := Tryz.f63) (by kernel_rfl) rfl ?_; simp only [List.map_cons, List.map_nil, List.cons_append, List.nil_append, List.length_cons, List.length_nil, Tryz.ntmps63, List.replicate, Nat.reduceSub, Nat.reduceAdd]
  refine Wc.seq ?_
  refine Wc.reg fun K hK => ?_; simp only [go_sem, ti3, ti4, ti5, ti9, ti32, ti22, ti94, ti96, ti65, ti67, ti175, Int.natCast_zero]; refine hK _ _ ?_; clear hK K
  refine Wc.seq (Wc.seq ?_)
  rcases Bool.eq_false_or_eq_true (decide (b.id < 1)) with a1 | a1
  · refine Wc.reg fun K hK => ?_; simp only [go_sem, ti3, ti4, ti5, ti9, ti32, ti22, ti94, ti96, ti65, ti67, ti175, Int.natCast_zero, a1]; refine hK _ _ ?_; clear hK K
    refine Wc.cond (t := true) (by simp only [go_sem, ti3, ti4, ti5, ti9, ti32, ti22, ti94, ti96, ti65, ti67, ti175, Int.natCast_zero, a1]) (fun _ => ?_) (fun hc => by cases hc)
    refine Wc.seq ?_
    refine Wc.reg fun K hK => ?_; simp only [go_sem, ti3, ti4, ti5, ti9, ti32, ti22, ti94, ti96, ti65, ti67, ti175, Int.natCast_zero]; refine hK _ _ ?_; clear hK K
    obtain rfl : R = 2 := by rw [← hR]; simp only [a1, Bool.or_true, Bool.true_or, Bool.or_false, Bool.false_or, Bool.and_true, Bool.true_and, Bool.false_and, Bool.and_false, Bool.not_true, Bool.not_false, cond_true, cond_false]
    exact Wc.ret (Pf.ret [.tmp 2] [.c (.p (pI 2))] rfl rfl (by simp only [resultsD, go_sem, ti3, ti4, ti5, ti9, ti32, ti22, ti94, ti96, ti65, ti67, ti175, Int.natCast_zero]) rfl)
  rcases Bool.eq_false_or_eq_true (decide (1152921504606846976 < b.id)) with a2 | a2
  · refine Wc.reg fun K hK => ?_; simp only [go_sem, ti3, ti4, ti5, ti9, ti32, ti22, ti94, ti96, ti65, ti67, ti175, Int.natCast_zero, a1, a2]; refine hK _ _ ?_; clear hK K
    refine Wc.cond (t := true) (by simp only [go_sem, ti3, ti4, ti5, ti9, ti32, ti22, ti94, ti96, ti65, ti67, ti175, Int.natCast_zero, a1, a2]) (fun _ => ?_) (fun hc => by cases hc)
    refine Wc.seq ?_
    refine Wc.reg fun K hK => ?_; simp only [go_sem, ti3, ti4, ti5, ti9, ti32, ti22, ti94, ti96, ti65, ti67, ti175, Int.natCast_zero]; refine hK _ _ ?_; clear hK K
    obtain rfl : R = 2 := by rw [← hR]; simp only [a1, a2, Bool.or_true, Bool.true_or, Bool.or_false, Bool.false_or, Bool.and_true, Bool.true_and, Bool.false_and, Bool.and_false, Bool.not_true, Bool.not_false, cond_true, cond_false]
    exact Wc.ret (Pf.ret [.tmp 2] [.c (.p (pI 2))] rfl rfl (by simp only [resultsD, go_sem, ti3, ti4, ti5, ti9, ti32, ti22, ti94, ti96, ti65, ti67, ti175, Int.natCast_zero]) rfl)
  refine Wc.reg fun K hK => ?_; simp only [go_sem, ti3, ti4, ti5, ti9, ti32, ti22, ti94, ti96, ti65, ti67, ti175, Int.natCast_zero, a1, a2]; refine hK _ _ ?_; clear hK K
  refine Wc.cond (t := false) (by simp only [go_sem, ti3, ti4, ti5, ti9, ti32, ti22, ti94, ti96, ti65, ti67, ti175, Int.natCast_zero, a1, a2]) (fun hc => by cases hc) (fun _ => Wc.skip ?_)
  simp only [a1, a2, Bool.or_true, Bool.true_or, Bool.or_false, Bool.false_or, Bool.and_true, Bool.true_and, Bool.false_and, Bool.and_false, Bool.not_true, Bool.not_false, cond_true, cond_false] at hR
  refine Wc.seq (Wc.seq ?_)
  rcases Bool.eq_false_or_eq_true (decide (b.w < 0)) with c1 | c1
  · refine Wc.reg fun K hK => ?_; simp only [go_sem, ti3, ti4, ti5, ti9, ti32, ti22, ti94, ti96, ti65, ti67, ti175, Int.natCast_zero, c1]; refine hK _ _ ?_; clear hK K
    refine Wc.cond (t := true) (by simp only [go_sem, ti3, ti4, ti5, ti9, ti32, ti22, ti94, ti96, ti65, ti67, ti175, Int.natCast_zero, c1]) (fun _ => ?_) (fun hc => by cases hc)
    refine Wc.seq ?_
    refine Wc.reg fun K hK => ?_; simp only [go_sem, ti3, ti4, ti5, ti9, ti32, ti22, ti94, ti96, ti65, ti67, ti175, Int.natCast_zero]; refine hK _ _ ?_; clear hK K
    obtain rfl : R = 2 := by rw [← hR]; simp only [c1, Bool.or_true, Bool.true_or, Bool.or_false, Bool.false_or, Bool.and_true, Bool.true_and, Bool.false_and, Bool.and_false, Bool.not_true, Bool.not_false, cond_true, cond_false]
    exact Wc.ret (Pf.ret [.tmp 2] [.c (.p (pI 2))] rfl rfl (by simp only [resultsD, go_sem, ti3, ti4, ti5, ti9, ti32, ti22, ti94, ti96, ti65, ti67, ti175, Int.natCast_zero]) rfl)
  rcases Bool.eq_false_or_eq_true (decide (1099511627776 < b.w)) with c2 | c2
  · refine Wc.reg fun K hK => ?_; simp only [go_sem, ti3, ti4, ti5, ti9, ti32, ti22, ti94, ti96, ti65, ti67, ti175, Int.natCast_zero, c1, c2]; refine hK _ _ ?_; clear hK K
    refine Wc.cond (t := true) (by simp only [go_sem, ti3, ti4, ti5, ti9, ti32, ti22, ti94, ti96, ti65, ti67, ti175, Int.natCast_zero, c1, c2]) (fun _ => ?_) (fun hc => by cases hc)
    refine Wc.seq ?_
    refine Wc.reg fun K hK => ?_; simp only [go_sem, ti3, ti4, ti5, ti9, ti32, ti22, ti94, ti96, ti65, ti67, ti175, Int.natCast_zero]; refine hK _ _ ?_; clear hK K
    obtain rfl : R = 2 := by rw [← hR]; simp only [c1, c2, Bool.or_true, Bool.true_or, Bool.or_false, Bool.false_or, Bool.and_true, Bool.true_and, Bool.false_and, Bool.and_false, Bool.not_true, Bool.not_false, cond_true, cond_false]
    exact Wc.ret (Pf.ret [.tmp 2] [.c (.p (pI 2))] rfl rfl (by simp only [resultsD, go_sem, ti3, ti4, ti5, ti9, ti32, ti22, ti94, ti96, ti65, ti67, ti175, Int.natCast_zero]) rfl)
  refine Wc.reg fun K hK => ?_; simp only [go_sem, ti3, ti4, ti5, ti9, ti32, ti22, ti94, ti96, ti65, ti67, ti175, Int.natCast_zero, c1, c2]; refine hK _ _ ?_; clear hK K
  refine Wc.cond (t := false) (by simp only [go_sem, ti3, ti4, ti5, ti9, ti32, ti22, ti94, ti96, ti65, ti67, ti175, Int.natCast_zero, c1, c2]) (fun hc => by cases hc) (fun _ => Wc.skip ?_)
  simp only [c1, c2, Bool.or_true, Bool.true_or, Bool.or_false, Bool.false_or, Bool.and_true, Bool.true_and, Bool.false_and, Bool.and_false, Bool.not_true, Bool.not_false, cond_true, cond_false] at hR
  refine Wc.seqR (fun y => ((decide (b.fr < 0) || decide (1099511627776 < b.fr)) || ((b.w == 0) && (b.fr != 0))) = false ∧ y.ds = [] ∧ Fs y.e 73 [(1, .v (.c (.ref 0 0)))] ∧ OA y.s.nx y.s [] [(0, .cells (b.pd.map .p) false)]) ?_ ?_
  · refine Wc.seq ?_
    rcases Bool.eq_false_or_eq_true ((decide (b.fr < 0) || decide (1099511627776 < b.fr)) || ((b.w == 0) && (b.fr != 0))) with k1 | k1
    · simp only [k1, Bool.or_true, Bool.true_or, Bool.or_false, Bool.false_or, Bool.and_true, Bool.true_and, Bool.false_and, Bool.and_false, Bool.not_true, Bool.not_false, cond_true, cond_false] at hR
      subst hR
      cases u1 : decide (b.fr < 0) with
      | true =>
        refine Wc.reg fun K hK => ?_; simp only [go_sem, ti3, ti4, ti5, ti9, ti32, ti22, ti94, ti96, ti65, ti67, ti175, Int.natCast_zero, u1]; refine hK _ _ ?_; clear hK K
        refine Wc.cond (t := true) (by simp only [go_sem, ti3, ti4, ti5, ti9, ti32, ti22, ti94, ti96, ti65, ti67, ti175, Int.natCast_zero, u1]) (fun _ => ?_) (fun hc => by cases hc)
        refine Wc.seq ?_
        refine Wc.reg fun K hK => ?_; simp only [go_sem, ti3, ti4, ti5, ti9, ti32, ti22, ti94, ti96, ti65, ti67, ti175, Int.natCast_zero]; refine hK _ _ ?_; clear hK K
        exact Wc.ret (Pf.ret [.tmp 2] [.c (.p (pI 2))] rfl rfl (by simp only [resultsD, go_sem, ti3, ti4, ti5, ti9, ti32, ti22, ti94, ti96, ti65, ti67, ti175, Int.natCast_zero]) rfl)
      | false =>
      cases u2 : decide (1099511627776 < b.fr) with
      | true =>
        refine Wc.reg fun K hK => ?_; simp only [go_sem, ti3, ti4, ti5, ti9, ti32, ti22, ti94, ti96, ti65, ti67, ti175, Int.natCast_zero, u1, u2]; refine hK _ _ ?_; clear hK K
        refine Wc.cond (t := true) (by simp only [go_sem, ti3, ti4, ti5, ti9, ti32, ti22, ti94, ti96, ti65, ti67, ti175, Int.natCast_zero, u1, u2]) (fun _ => ?_) (fun hc => by cases hc)
        refine Wc.seq ?_
        refine Wc.reg fun K hK => ?_; simp only [go_sem, ti3, ti4, ti5, ti9, ti32, ti22, ti94, ti96, ti65, ti67, ti175, Int.natCast_zero]; refine hK _ _ ?_; clear hK K
        exact Wc.ret (Pf.ret [.tmp 2] [.c (.p (pI 2))] rfl rfl (by simp only [resultsD, go_sem, ti3, ti4, ti5, ti9, ti32, ti22, ti94, ti96, ti65, ti67, ti175, Int.natCast_zero]) rfl)
      | false =>
      rw [u1, u2, Bool.false_or, Bool.false_or, Bool.and_eq_true] at k1
      refine Wc.reg fun K hK => ?_; simp only [go_sem, ti3, ti4, ti5, ti9, ti32, ti22, ti94, ti96, ti65, ti67, ti175, Int.natCast_zero, u1, u2, k1.1, k1.2]; refine hK _ _ ?_; clear hK K
      refine Wc.cond (t := true) (by simp only [go_sem, ti3, ti4, ti5, ti9, ti32, ti22, ti94, ti96, ti65, ti67, ti175, Int.natCast_zero, u1, u2, k1.1, k1.2]) (fun _ => ?_) (fun hc => by cases hc)
      refine Wc.seq ?_
      refine Wc.reg fun K hK => ?_; simp only [go_sem, ti3, ti4, ti5, ti9, ti32, ti22, ti94, ti96, ti65, ti67, ti175, Int.natCast_zero]; refine hK _ _ ?_; clear hK K
      exact Wc.ret (Pf.ret [.tmp 2] [.c (.p (pI 2))] rfl rfl (by simp only [resultsD, go_sem, ti3, ti4, ti5, ti9, ti32, ti22, ti94, ti96, ti65, ti67, ti175, Int.natCast_zero]) rfl)
    · have k2 := k1
      rw [Bool.or_eq_false_iff, Bool.or_eq_false_iff] at k2
      obtain ⟨⟨u1, u2⟩, u3⟩ := k2
      cases u4 : (b.w == 0) with
      | true =>
        rw [u4, Bool.true_and] at u3
        refine Wc.reg fun K hK => ?_; simp only [go_sem, ti3, ti4, ti5, ti9, ti32, ti22, ti94, ti96, ti65, ti67, ti175, Int.natCast_zero, u1, u2, u4, u3]; refine hK _ _ ?_; clear hK K
        refine Wc.cond (t := false) (by simp only [go_sem, ti3, ti4, ti5, ti9, ti32, ti22, ti94, ti96, ti65, ti67, ti175, Int.natCast_zero, u1, u2, u4, u3]) (fun hc => by cases hc) (fun _ => Wc.skip ?_)
        exact ⟨by rw [u4] at k1; exact k1, rfl, by simp only [Fs, Int.natCast_zero, go_sem, ti3, ti4, ti5, ti9, ti32, ti22, ti94, ti96, ti65, ti67, ti175, Int.natCast_zero], by (try simp only [St.nx_put, St.nx_adv]); repeat (first | exact OA.mono s00_oa (by omega) | refine OA.newB ?_ (by omega) rfl | refine OA.advB ?_)⟩
      | false =>
        refine Wc.reg fun K hK => ?_; simp only [go_sem, ti3, ti4, ti5, ti9, ti32, ti22, ti94, ti96, ti65, ti67, ti175, Int.natCast_zero, u1, u2, u4]; refine hK _ _ ?_; clear hK K
        refine Wc.cond (t := false) (by simp only [go_sem, ti3, ti4, ti5, ti9, ti32, ti22, ti94, ti96, ti65, ti67, ti175, Int.natCast_zero, u1, u2, u4]) (fun hc => by cases hc) (fun _ => Wc.skip ?_)
        exact ⟨by rw [u4] at k1; exact k1, rfl, by simp only [Fs, Int.natCast_zero, go_sem, ti3, ti4, ti5, ti9, ti32, ti22, ti94, ti96, ti65, ti67, ti175, Int.natCast_zero], by (try simp only [St.nx_put, St.nx_adv]); repeat (first | exact OA.mono s00_oa (by omega) | refine OA.newB ?_ (by omega) rfl | refine OA.advB ?_)⟩
  rintro ⟨e, ds, s1⟩ ⟨k1, rfl, hF, ho⟩
  simp only [Fs] at hF ho
  simp only [k1, cond_false] at hR
  have g0 := ho.at_ (0, .cells (b.pd.map .p) false) (by simp)
  simp only [List.map_cons, List.map_nil] at g0
  refine Wc.seq (Wc.seq ?_)
  refine Wc.reg fun K hK => ?_; simp only [go_sem, ti3, ti4, ti5, ti9, ti32, ti22, ti94, ti96, ti65, ti67, ti175, Int.natCast_zero, hF, g0]; refine hK _ _ ?_; clear hK K
  refine Wc.cond (t := decide (4000 < (b.cs.length : Int))) (by simp only [go_sem, ti3, ti4, ti5, ti9, ti32, ti22, ti94, ti96, ti65, ti67, ti175, Int.natCast_zero, hF]) (fun hc => ?_) (fun hc => ?_)
  · simp only [hc, Bool.or_true, Bool.true_or, Bool.or_false, Bool.false_or, Bool.and_true, Bool.true_and, Bool.false_and, Bool.and_false, Bool.not_true, Bool.not_false, cond_true, cond_false] at hR
    subst hR
    refine Wc.seq ?_
    refine Wc.reg fun K hK => ?_; simp only [go_sem, ti3, ti4, ti5, ti9, ti32, ti22, ti94, ti96, ti65, ti67, ti175, Int.natCast_zero, hF]; refine hK _ _ ?_; clear hK K
    exact Wc.ret (Pf.ret [.tmp 2] [.c (.p (pI 4))] rfl rfl (by simp only [resultsD, go_sem, ti3, ti4, ti5, ti9, ti32, ti22, ti94, ti96, ti65, ti67, ti175, Int.natCast_zero, hF]) rfl)
  simp only [hc, Bool.or_true, Bool.true_or, Bool.or_false, Bool.false_or, Bool.and_true, Bool.true_and, Bool.false_and, Bool.and_false, Bool.not_true, Bool.not_false, cond_true, cond_false] at hR
  have hR0 : cksC b.w (prevC b.cs 0) (b.cs.drop 0) = R := hR
  refine Wc.skip (Wc.seqR (fun y => R = 0 ∧ y.ds = [] ∧ Fs y.e 73 []) ?_ ?_)
  · refine Wc.seq ?_
    refine Wc.reg fun K hK => ?_; simp only [go_sem, ti3, ti4, ti5, ti9, ti32, ti22, ti94, ti96, ti65, ti67, ti175, Int.natCast_zero, hF, g0]; refine hK _ _ ?_; clear hK K
    refine Wc.block (Wc.loop (fun k y => ∃ i : Nat, k = b.cs.length - i ∧ (i ≤ b.cs.length ∧ cksC b.w (prevC b.cs i) (b.cs.drop i) = R) ∧ y.ds = [] ∧ Fs y.e 73 [(1, .v (.c (.ref 0 0))), (45, P' (.lst b.cs.length (b.cs.flatMap Chk.pd))), (46, P' (pI b.cs.length)), (47, P' (pI i))] ∧ OA y.s.nx y.s [] [(0, .cells (b.pd.map .p) false)]) ?_ (k := b.cs.length) ⟨0, rfl, ⟨by omega, hR0⟩, rfl, by simp only [Fs, Int.natCast_zero, go_sem, ti3, ti4, ti5, ti9, ti32, ti22, ti94, ti96, ti65, ti67, ti175, Int.natCast_zero, hF], by (try simp only [St.nx_put, St.nx_adv]); repeat (first | exact OA.mono ho (by omega) | refine OA.newB ?_ (by omega) rfl | refine OA.advB ?_)⟩)
    clear hF ho g0 e s1 hR hR0
    rintro k ⟨e, ds, s1⟩ ⟨i, rfl, ⟨hi, hR⟩, rfl, hF, ho⟩
    simp only [Fs] at hF ho
    refine Wc.seq ?_
    refine Wc.reg fun K hK => ?_; simp only [go_sem, ti3, ti4, ti5, ti9, ti32, ti22, ti94, ti96, ti65, ti67, ti175, Int.natCast_zero, hF]; refine hK _ _ ?_; clear hK K
    refine Wc.seq ?_
    refine Wc.cond (t := decide ((i : Int) < b.cs.length)) (by simp only [go_sem, ti3, ti4, ti5, ti9, ti32, ti22, ti94, ti96, ti65, ti67, ti175, Int.natCast_zero, hF]) (fun hc => ?_) (fun hc => ?_)
    · have hil : i < b.cs.length := by have := of_decide_eq_true hc; omega
      obtain ⟨c, hcc⟩ : ∃ c, b.cs[i]? = some c := ⟨b.cs[i], List.getElem?_eq_getElem hil⟩
      have zc := hz c (List.mem_of_getElem? hcc)
      rw [cksC_step hcc] at hR
      have hix := ixA ti65 rfl ti96 (j := i) (m := b.cs.length) (cs := b.cs.flatMap Chk.pd) hil hfl (by decide)
      have hca := rpK hcc
      have p118 := pf118 c b.w zc
      refine Wc.skip (Wc.seq (Wc.block (Wc.seqA (fun y => ∃ k4, y.ds = [] ∧ Fs y.e 73 [(1, .v (.c (.ref 0 0))), (45, P' (.lst b.cs.length (b.cs.flatMap Chk.pd))), (46, P' (pI b.cs.length)), (47, P' (pI i)), (3, P' (pI i)), (4, .v (.c (.ref k4 0)))] ∧ OA y.s.nx y.s [] [(k4, .cells (c.pd.map .p) false), (0, .cells (b.pd.map .p) false)]) ?_ ?_)))
      · refine Wc.reg fun K hK => ?_; simp only [go_sem, ti3, ti4, ti5, ti9, ti32, ti22, ti94, ti96, ti65, ti67, ti175, Int.natCast_zero, hF, hix, hca]; refine hK _ _ ?_; clear hK K
        exact ⟨rfl, s1.nx + 4, rfl, by simp only [Fs, Int.natCast_zero, go_sem, ti3, ti4, ti5, ti9, ti32, ti22, ti94, ti96, ti65, ti67, ti175, Int.natCast_zero, hF], by (try simp only [St.put_adv, St.adv_adv, St.put_put, St.nx_put, St.nx_adv]); repeat (first | exact OA.mono ho (by omega) | refine OA.newB ?_ (by omega) rfl | refine OA.putB ?_ (by omega) | refine OA.advB ?_)⟩
      clear hF ho e s1
      rintro ⟨e, ds, s1⟩ ⟨k4, rfl, hF, ho⟩
      simp only [Fs] at hF ho
      have g0 := ho.at_ (0, .cells (b.pd.map .p) false) (by simp)
      have g4 := ho.at_ (k4, .cells (c.pd.map .p) false) (by simp)
      simp only [List.map_cons, List.map_nil] at g0 g4
      refine Wc.seq (Wc.seq ?_)
      refine Wc.reg fun K hK => ?_; simp only [go_sem, ti3, ti4, ti5, ti9, ti32, ti22, ti94, ti96, ti65, ti67, ti175, Int.natCast_zero, hF, g0, g4]
      refine wpCall.pf (p118) (by kernel_rfl) (by kernel_rfl) rfl rfl ?_
      simp only [go_sem, ti3, ti4, ti5, ti9, ti32, ti22, ti94, ti96, ti65, ti67, ti175, Int.natCast_zero, hF]; refine hK _ _ ?_; clear hK K
      refine Wc.seq ?_
      refine Wc.reg fun K hK => ?_; simp only [go_sem, ti3, ti4, ti5, ti9, ti32, ti22, ti94, ti96, ti65, ti67, ti175, Int.natCast_zero, hF]; refine hK _ _ ?_; clear hK K
      generalize ckC c b.w = V at *
      refine Wc.cond (t := V != 0) (by simp only [go_sem, ti3, ti4, ti5, ti9, ti32, ti22, ti94, ti96, ti65, ti67, ti175, Int.natCast_zero, hF]) (fun hc => ?_) (fun hc => ?_)
      · simp only [hc, Bool.or_true, Bool.true_or, Bool.or_false, Bool.false_or, Bool.and_true, Bool.true_and, Bool.false_and, Bool.and_false, Bool.not_true, Bool.not_false, cond_true, cond_false] at hR
        subst hR
        refine Wc.seq ?_
        refine Wc.reg fun K hK => ?_; simp only [go_sem, ti3, ti4, ti5, ti9, ti32, ti22, ti94, ti96, ti65, ti67, ti175, Int.natCast_zero, hF]; refine hK _ _ ?_; clear hK K
        exact Wc.ret (Pf.ret [.tmp 2] [.c (.p (pI V))] rfl rfl (by simp only [resultsD, go_sem, ti3, ti4, ti5, ti9, ti32, ti22, ti94, ti96, ti65, ti67, ti175, Int.natCast_zero, hF]) rfl)
      simp only [hc, Bool.or_true, Bool.true_or, Bool.or_false, Bool.false_or, Bool.and_true, Bool.true_and, Bool.false_and, Bool.and_false, Bool.not_true, Bool.not_false, cond_true, cond_false] at hR
      refine Wc.skip ?_
      refine Wc.cutR (fun y => cksC b.w (prevC b.cs (i + 1)) (b.cs.drop (i + 1)) = R ∧ y.ds = [] ∧ Fs y.e 73 [(1, .v (.c (.ref 0 0))), (45, P' (.lst b.cs.length (b.cs.flatMap Chk.pd))), (46, P' (pI b.cs.length)), (47, P' (pI i))] ∧ OA y.s.nx y.s [] [(0, .cells (b.pd.map .p) false)]) ?_ ?_
      · by_cases h0 : i = 0
        · have hh : ((0 : Int) < (i : Int)) = False := by simp; omega
          have hd : decide (0 < i) = false := by simp; omega
          simp only [hd, Bool.or_true, Bool.true_or, Bool.or_false, Bool.false_or, Bool.and_true, Bool.true_and, Bool.false_and, Bool.and_false, Bool.not_true, Bool.not_false, cond_true, cond_false] at hR
          refine Wc.seq ?_
          refine Wc.regT fun K hK => ?_
          simp only [go_sem, ti3, ti4, ti5, ti9, ti32, ti22, ti94, ti96, ti65, ti67, ti175, Int.natCast_zero, hF, hh]
          refine ⟨by rw [trOK_eq3]; rfl, hK _ _ ?_⟩
          clear hK K
          refine Wc.cond (t := false) (by simp only [go_sem, ti3, ti4, ti5, ti9, ti32, ti22, ti94, ti96, ti65, ti67, ti175, Int.natCast_zero, hF]) (fun hc => by cases hc) (fun _ => Wc.skip ?_)
          exact ⟨hR, rfl, by simp only [Fs, Int.natCast_zero, go_sem, ti3, ti4, ti5, ti9, ti32, ti22, ti94, ti96, ti65, ti67, ti175, Int.natCast_zero, hF], by (try simp only [St.nx_put, St.nx_adv]); repeat (first | exact OA.mono (ho.sub (List.Sublist.refl _) (List.sublist_cons_self _ _)) (by omega) | refine OA.newB ?_ (by omega) rfl | refine OA.advB ?_)⟩
        · have hh : ((0 : Int) < (i : Int)) = True := by simp; omega
          have hd : decide (0 < i) = true := by simp; omega
          obtain ⟨q, hq⟩ : ∃ q, b.cs[i - 1]? = some q := ⟨b.cs[i - 1], List.getElem?_eq_getElem (by omega)⟩
          have zq := hz q (List.mem_of_getElem? hq)
          have w1 : IntKind.i64.wrap ((i : Int) - 1) = ((i - 1 : Nat) : Int) := by rw [wi64]; omega
          have hiq := ixA ti65 rfl ti96 (j := i - 1) (m := b.cs.length) (cs := b.cs.flatMap Chk.pd) (by omega) hfl (by decide)
          have hcq := rpK hq
          have p119 := pf119 q c zq zc
          have hcp : cmpP (b.cs[i - 1]?) c = cmpC q c := by rw [hq]; rfl
          rw [hcp] at hR
          generalize cmpC q c = V2 at hR p119
          simp only [hd, Bool.or_true, Bool.true_or, Bool.or_false, Bool.false_or, Bool.and_true, Bool.true_and, Bool.false_and, Bool.and_false, Bool.not_true, Bool.not_false, cond_true, cond_false] at hR
          refine Wc.seq ?_
          refine Wc.regT fun K hK => ?_
          simp only [go_sem, ti3, ti4, ti5, ti9, ti32, ti22, ti94, ti96, ti65, ti67, ti175, Int.natCast_zero, hF, hh, g0, g4, w1, hiq, hcq]
          refine wpCall.pf (p119) (by kernel_rfl) (by kernel_rfl) rfl rfl ?_
          simp only [go_sem, ti3, ti4, ti5, ti9, ti32, ti22, ti94, ti96, ti65, ti67, ti175, Int.natCast_zero, hF, o119, x119]
          refine ⟨by rw [trOK_eq3]; rfl, hK _ _ ?_⟩
          clear hK K
          refine Wc.cond (t := decide (0 ≤ V2)) (by simp only [go_sem, ti3, ti4, ti5, ti9, ti32, ti22, ti94, ti96, ti65, ti67, ti175, Int.natCast_zero, hF]) (fun hc => ?_) (fun hc => ?_)
          · simp only [hc, Bool.or_true, Bool.true_or, Bool.or_false, Bool.false_or, Bool.and_true, Bool.true_and, Bool.false_and, Bool.and_false, Bool.not_true, Bool.not_false, cond_true, cond_false] at hR
            subst hR
            refine Wc.seq ?_
            refine Wc.reg fun K hK => ?_; simp only [go_sem, ti3, ti4, ti5, ti9, ti32, ti22, ti94, ti96, ti65, ti67, ti175, Int.natCast_zero, hF]; refine hK _ _ ?_; clear hK K
            exact Wc.ret (Pf.ret [.tmp 2] [.c (.p (pI 9))] rfl rfl (by simp only [resultsD, go_sem, ti3, ti4, ti5, ti9, ti32, ti22, ti94, ti96, ti65, ti67, ti175, Int.natCast_zero, hF]) rfl)
          simp only [hc, Bool.or_true, Bool.true_or, Bool.or_false, Bool.false_or, Bool.and_true, Bool.true_and, Bool.false_and, Bool.and_false, Bool.not_true, Bool.not_false, cond_true, cond_false] at hR
          exact Wc.skip ⟨hR, rfl, by simp only [Fs, Int.natCast_zero, go_sem, ti3, ti4, ti5, ti9, ti32, ti22, ti94, ti96, ti65, ti67, ti175, Int.natCast_zero, hF], by (try simp only [St.nx_put, St.nx_adv]); repeat (first | exact OA.mono (ho.sub (List.Sublist.refl _) (List.sublist_cons_self _ _)) (by omega) | refine OA.newB ?_ (by omega) rfl | refine OA.advB ?_)⟩
      clear hF ho g0 g4 e s1 hR
      rintro ⟨e, ds, s1⟩ ⟨hR, rfl, hF, ho⟩
      simp only [Fs] at hF ho
      refine Wc.reg fun K hK => ?_; simp only [go_sem, ti3, ti4, ti5, ti9, ti32, ti22, ti94, ti96, ti65, ti67, ti175, Int.natCast_zero, hF, i64n i (by omega)]; refine hK _ _ ?_; clear hK K
      exact ⟨b.cs.length - (i + 1), by omega, i + 1, rfl, ⟨by omega, hR⟩, rfl, by simp only [Fs, Int.natCast_zero, go_sem, ti3, ti4, ti5, ti9, ti32, ti22, ti94, ti96, ti65, ti67, ti175, Int.natCast_zero, hF], by (try simp only [St.nx_put, St.nx_adv]); repeat (first | exact OA.mono ho (by omega) | refine OA.newB ?_ (by omega) rfl | refine OA.advB ?_)⟩
    · have hil : i = b.cs.length := by have := of_decide_eq_false hc; omega
      rw [hil, List.drop_length, cksC] at hR
      exact Wc.exit ⟨hR.symm, rfl, by simp only [Fs, Int.natCast_zero, go_sem, ti3, ti4, ti5, ti9, ti32, ti22, ti94, ti96, ti65, ti67, ti175, Int.natCast_zero, hF]⟩
  clear hF ho g0 e s1 hR
  rintro ⟨e, ds, s1⟩ ⟨rfl, rfl, hF⟩
  simp only [Fs] at hF
  refine Wc.seq ?_
  refine Wc.reg fun K hK => ?_; simp only [go_sem, ti3, ti4, ti5, ti9, ti32, ti22, ti94, ti96, ti65, ti67, ti175, Int.natCast_zero, hF]; refine hK _ _ ?_; clear hK K
  exact Wc.ret (Pf.ret [.tmp 2] [.c (.p (pI 0))] rfl rfl (by simp only [resultsD, go_sem, ti3, ti4, ti5, ti9, ti32, ti22, ti94, ti96, ti65, ti67, ti175, Int.natCast_zero, hF]) rfl)
end Go.Proofs.YtedcnhbblgmdnaaGreat.Ab
namespace Go.Proofs.YtedcnhbblgmdnaaGreat.Ab
set_option maxHeartbeats 8000000
set_option maxRecDepth 10000
set_option linter.unusedSimpArgs false
set_option linter.unusedVariables false
/-- A set of rollups. -/
structure RSet where
  w : Int
  fr : Int
  rs : List Rlp
abbrev RSet.pd (x : RSet) : List Pd := [pI x.w, pI x.fr, .lst x.rs.length (x.rs.flatMap Rlp.pd)]
theorem fRl (l : List Rlp) : (l.flatMap Rlp.pd).length = l.length * 4 := flat_len (k := 4) (fun _ => rfl) _
theorem rpRl {l : List Rlp} {i : Nat} {c : Rlp} (h : l[i]? = some c) (s : St) : cellsAt s (.v (.c (.rp (l.flatMap Rlp.pd) (i * 4)))) = some ((c.pd ++ (l.drop (i + 1)).flatMap Rlp.pd).map .p) := by
  have hf := fRl l
  have hi := (List.getElem?_eq_some_iff.1 h).1
  exact rpA (off := i * 4) (drop_flat (f := Rlp.pd) (k := 4) (fun _ => rfl) h) (by omega) s
/-- The place of the first rollup that is too great. -/
def ixGr : Nat → List Rlp → Int
  | _, [] => -1
  | i, r :: t => if grR r then (i : Int) else ixGr (i + 1) t
theorem ixGr_any : ∀ (l : List Rlp) (i : Nat), decide (0 ≤ ixGr i l) = l.any grR
  | [], i => rfl
  | r :: t, i => by
    rw [ixGr, List.any_cons]
    cases h : grR r with
    | true => simp
    | false => rw [if_neg (by decide), ixGr_any t, Bool.false_or]
theorem ixGr_step {l : List Rlp} {i : Nat} {r : Rlp} (h : l[i]? = some r) : ixGr i (l.drop i) = if grR r then (i : Int) else ixGr (i + 1) (l.drop (i + 1)) := by
  obtain ⟨h1, h2⟩ := List.getElem?_eq_some_iff.1 h
  rw [List.drop_eq_getElem_cons h1, h2, ixGr]
/-- 127: slices.IndexFunc, of rollups that are too great -/
theorem pf127 (l : List Rlp) (hl : l.length < 2^60) (hb : ∀ r ∈ l, r.lb.length < 2^60) : Pf E0 127 [.c (.p (.lst l.length (l.flatMap Rlp.pd))), .c (.p (.fnc 20))] (P' (pI (ixGr 0 l))) := by
  have hfl := fRl l
  have hR0 : ixGr 0 (l.drop 0) = ixGr 0 l := rfl
  generalize ixGr 0 l = R at hR0 ⊢
  refine Pf.body (fn := Tryz.f127) (by kernel_rfl) rfl ?_; simp only [List.map_cons, List.map_nil, List.cons_append, List.nil_append, List.length_cons, List.length_nil, Tryz.ntmps127, List.replicate, Nat.reduceSub, Nat.reduceAdd]
  refine Wc.seq ?_
  refine Wc.reg fun K hK => ?_; simp only [go_sem, ti3, ti4, ti5, ti9, ti32, ti22, ti29, ti31, ti60, ti62, ti46, Int.natCast_zero]; refine hK _ _ ?_; clear hK K
  refine Wc.seqR (fun y => R = -1 ∧ y.ds = [] ∧ Fs y.e 19 []) ?_ ?_
  · refine Wc.seq ?_
    refine Wc.reg fun K hK => ?_; simp only [go_sem, ti3, ti4, ti5, ti9, ti32, ti22, ti29, ti31, ti60, ti62, ti46, Int.natCast_zero]; refine hK _ _ ?_; clear hK K
    refine Wc.block (Wc.loop (fun k y => ∃ i : Nat, k = l.length - i ∧ (i ≤ l.length ∧ ixGr i (l.drop i) = R) ∧ y.ds = [] ∧ Fs y.e 19 [(0, P' (.lst l.length (l.flatMap Rlp.pd))), (1, P' (.fnc 20)), (7, P' (pI l.length)), (8, P' (pI i))] ∧ OA y.s.nx y.s [] []) ?_ (k := l.length) ⟨0, rfl, ⟨by omega, hR0⟩, rfl, by simp only [Fs, Int.natCast_zero, go_sem, ti3, ti4, ti5, ti9, ti32, ti22, ti29, ti31, ti60, ti62, ti46, Int.natCast_zero], by (try simp only [St.nx_put, St.nx_adv]); repeat (first | exact OA.mono s00_oa (by omega) | refine OA.newB ?_ (by omega) rfl | refine OA.advB ?_)⟩)
    rintro k ⟨e, ds, s1⟩ ⟨i, rfl, ⟨hi, hR⟩, rfl, hF, ho⟩
    simp only [Fs] at hF ho
    refine Wc.seq ?_
    refine Wc.reg fun K hK => ?_; simp only [go_sem, ti3, ti4, ti5, ti9, ti32, ti22, ti29, ti31, ti60, ti62, ti46, Int.natCast_zero, hF]; refine hK _ _ ?_; clear hK K
    refine Wc.seq ?_
    refine Wc.cond (t := decide ((i : Int) < l.length)) (by simp only [go_sem, ti3, ti4, ti5, ti9, ti32, ti22, ti29, ti31, ti60, ti62, ti46, Int.natCast_zero, hF]) (fun hc => ?_) (fun hc => ?_)
    · have hil : i < l.length := by have := of_decide_eq_true hc; omega
      obtain ⟨c, hcc⟩ : ∃ c, l[i]? = some c := ⟨l[i], List.getElem?_eq_getElem hil⟩
      rw [ixGr_step hcc] at hR
      have hix := ixA ti60 rfl ti31 (j := i) (m := l.length) (cs := l.flatMap Rlp.pd) hil hfl (by decide)
      have hca := rpRl hcc
      have p20 := pf20 c (hb c (List.mem_of_getElem? hcc))
      refine Wc.skip (Wc.seq (Wc.block (Wc.seq ?_)))
      refine Wc.reg fun K hK => ?_; simp only [go_sem, ti3, ti4, ti5, ti9, ti32, ti22, ti29, ti31, ti60, ti62, ti46, Int.natCast_zero, hF]; refine hK _ _ ?_; clear hK K
      refine Wc.seq ?_
      refine Wc.reg fun K hK => ?_; simp only [go_sem, ti3, ti4, ti5, ti9, ti32, ti22, ti29, ti31, ti60, ti62, ti46, Int.natCast_zero, hF, hix, hca]
      refine wpCall.pf (p20) (by kernel_rfl) (by kernel_rfl) rfl rfl ?_
      simp only [go_sem, ti3, ti4, ti5, ti9, ti32, ti22, ti29, ti31, ti60, ti62, ti46, Int.natCast_zero, hF]; refine hK _ _ ?_; clear hK K
      refine Wc.cond (t := grR c) (by simp only [go_sem, ti3, ti4, ti5, ti9, ti32, ti22, ti29, ti31, ti60, ti62, ti46, Int.natCast_zero, hF]) (fun hc => ?_) (fun hc => ?_)
      · rw [if_pos hc] at hR
        subst hR
        refine Wc.seq ?_
        refine Wc.reg fun K hK => ?_; simp only [go_sem, ti3, ti4, ti5, ti9, ti32, ti22, ti29, ti31, ti60, ti62, ti46, Int.natCast_zero, hF]; refine hK _ _ ?_; clear hK K
        exact Wc.ret (Pf.ret [.tmp 4] [.c (.p (pI i))] rfl rfl (by simp only [resultsD, go_sem, ti3, ti4, ti5, ti9, ti32, ti22, ti29, ti31, ti60, ti62, ti46, Int.natCast_zero, hF]) rfl)
      rw [if_neg (by simp [hc])] at hR
      refine Wc.skip ?_
      refine Wc.reg fun K hK => ?_; simp only [go_sem, ti3, ti4, ti5, ti9, ti32, ti22, ti29, ti31, ti60, ti62, ti46, Int.natCast_zero, hF, i64n i (by omega)]; refine hK _ _ ?_; clear hK K
      exact ⟨l.length - (i + 1), by omega, i + 1, rfl, ⟨by omega, hR⟩, rfl, by simp only [Fs, Int.natCast_zero, go_sem, ti3, ti4, ti5, ti9, ti32, ti22, ti29, ti31, ti60, ti62, ti46, Int.natCast_zero, hF], by (try simp only [St.nx_put, St.nx_adv]); repeat (first | exact OA.mono ho (by omega) | refine OA.newB ?_ (by omega) rfl | refine OA.advB ?_)⟩
    · have hil : i = l.length := by have := of_decide_eq_false hc; omega
      rw [hil, List.drop_length, ixGr] at hR
      exact Wc.exit ⟨hR.symm, rfl, by simp only [Fs, Int.natCast_zero, go_sem, ti3, ti4, ti5, ti9, ti32, ti22, ti29, ti31, ti60, ti62, ti46, Int.natCast_zero, hF]⟩
  rintro ⟨e, ds, s1⟩ ⟨rfl, rfl, hF⟩
  simp only [Fs] at hF
  refine Wc.seq ?_
  refine Wc.reg fun K hK => ?_; simp only [go_sem, ti3, ti4, ti5, ti9, ti32, ti22, ti29, ti31, ti60, ti62, ti46, Int.natCast_zero, hF]; refine hK _ _ ?_; clear hK K
  exact Wc.ret (Pf.ret [.tmp 4] [.c (.p (pI (-1)))] rfl rfl (by simp only [resultsD, go_sem, ti3, ti4, ti5, ti9, ti32, ti22, ti29, ti31, ti60, ti62, ti46, Int.natCast_zero, hF]) rfl)
/-- 68: slices.ContainsFunc, of rollups that are too great -/
theorem pf68 (l : List Rlp) (hl : l.length < 2^60) (hb : ∀ r ∈ l, r.lb.length < 2^60) : Pf E0 68 [.c (.p (.lst l.length (l.flatMap Rlp.pd))), .c (.p (.fnc 20))] (P' (.bool (l.any grR))) := by
  have h := ixGr_any l 0
  have p127 := pf127 l hl hb
  generalize ixGr 0 l = R at *
  generalize l.any grR = B at *
  subst h
  refine Pf.body (fn := Tryz.f68) (by kernel_rfl) rfl ?_; simp only [List.map_cons, List.map_nil, List.cons_append, List.nil_append, List.length_cons, List.length_nil, Tryz.ntmps68, List.replicate, Nat.reduceSub, Nat.reduceAdd]
  refine Wc.seq ?_
  refine Wc.reg fun K hK => ?_; simp only [go_sem, ti3, ti4, ti5, ti9, ti32, ti22, ti29, ti31, ti60, ti62, ti46, Int.natCast_zero]; refine hK _ _ ?_; clear hK K
  refine Wc.seq ?_
  refine Wc.reg fun K hK => ?_; simp only [go_sem, ti3, ti4, ti5, ti9, ti32, ti22, ti29, ti31, ti60, ti62, ti46, Int.natCast_zero]
  refine wpCall.pf (p127) (by kernel_rfl) (by kernel_rfl) rfl rfl ?_
  simp only [go_sem, ti3, ti4, ti5, ti9, ti32, ti22, ti29, ti31, ti60, ti62, ti46, Int.natCast_zero]; refine hK _ _ ?_; clear hK K
  exact Wc.ret (Pf.ret [.tmp 4] [.c (.p (.bool (decide (0 ≤ R))))] rfl rfl (by simp only [resultsD, go_sem, ti3, ti4, ti5, ti9, ti32, ti22, ti29, ti31, ti60, ti62, ti46, Int.natCast_zero]) rfl)
def grT (x : RSet) : Bool := decide (8 < (x.rs.length : Int)) || x.rs.any grR
/-- 35: greatSet -/
theorem pf35 (x : RSet) (hl : x.rs.length < 2^60) (hb : ∀ r ∈ x.rs, r.lb.length < 2^60) : Pf E0 35 [.agg (x.pd.map .p)] (P' (.bool (grT x))) := by
  have p68 := pf68 x.rs hl hb
  unfold grT
  generalize x.rs.any grR = B at *
  refine Pf.body (fn := Tryz.f35) (by kernel_rfl) rfl ?_; simp only [List.map_cons, List.map_nil, List.cons_append, List.nil_append, List.length_cons, List.length_nil, Tryz.ntmps35, List.replicate, Nat.reduceSub, Nat.reduceAdd]
  refine Wc.seq ?_
  refine Wc.reg fun K hK => ?_; simp only [go_sem, ti3, ti4, ti5, ti9, ti32, ti22, ti29, ti31, ti60, ti62, ti46, Int.natCast_zero]; refine hK _ _ ?_; clear hK K
  refine Wc.seq ?_
  cases h : decide (8 < (x.rs.length : Int)) with
  | true =>
    refine Wc.reg fun K hK => ?_; simp only [go_sem, ti3, ti4, ti5, ti9, ti32, ti22, ti29, ti31, ti60, ti62, ti46, Int.natCast_zero, h]; refine hK _ _ ?_; clear hK K
    exact Wc.ret (Pf.ret [.tmp 2] [.c (.p (.bool true))] rfl rfl (by simp only [resultsD, go_sem, ti3, ti4, ti5, ti9, ti32, ti22, ti29, ti31, ti60, ti62, ti46, Int.natCast_zero]) rfl)
  | false =>
    refine Wc.reg fun K hK => ?_; simp only [go_sem, ti3, ti4, ti5, ti9, ti32, ti22, ti29, ti31, ti60, ti62, ti46, Int.natCast_zero, h]
    refine wpCall.pf (p68) (by kernel_rfl) (by kernel_rfl) rfl rfl ?_
    simp only [go_sem, ti3, ti4, ti5, ti9, ti32, ti22, ti29, ti31, ti60, ti62, ti46, Int.natCast_zero]; refine hK _ _ ?_; clear hK K
    rw [Bool.false_or]
    exact Wc.ret (Pf.ret [.tmp 2] [.c (.p (.bool B))] rfl rfl (by simp only [resultsD, go_sem, ti3, ti4, ti5, ti9, ti32, ti22, ti29, ti31, ti60, ti62, ti46, Int.natCast_zero]) rfl)
theorem grT_z {x : RSet} (h : grT x = false) : x.rs.length ≤ 8 ∧ ∀ r ∈ x.rs, Rz r := by
  unfold grT at h
  rw [Bool.or_eq_false_iff, List.any_eq_false, decide_eq_false_iff_not] at h
  exact ⟨by omega, fun r hr => grR_z (by have := h.2 r hr; simpa using this)⟩
/-- 33: SameSet, of equal sets -/
theorem pf33 (x : RSet) (hl : x.rs.length < 2^40) (hz : ∀ r ∈ x.rs, Rz r) : Pf E0 33 [.agg (x.pd.map .p), .agg (x.pd.map .p)] (P' (.bool true)) := by
  have hfl := fRl x.rs
  refine Pf.body (fn := Tryz.f33) (by kernel_rfl) rfl ?_; simp only [List.map_cons, List.map_nil, List.cons_append, List.nil_append, List.length_cons, List.length_nil, Tryz.ntmps33, List.replicate, Nat.reduceSub, Nat.reduceAdd]
  refine Wc.seq ?_
  refine Wc.reg fun K hK => ?_; simp only [go_sem, ti3, ti4, ti5, ti9, ti32, ti22, ti29, ti31, ti60, ti62, ti46, Int.natCast_zero]; refine hK _ _ ?_; clear hK K
  refine Wc.seq (Wc.seq ?_)
  refine Wc.reg fun K hK => ?_; simp only [go_sem, ti3, ti4, ti5, ti9, ti32, ti22, ti29, ti31, ti60, ti62, ti46, Int.natCast_zero, bne_self_eq_false]; refine hK _ _ ?_; clear hK K
  refine Wc.cond (t := false) (by simp only [go_sem, ti3, ti4, ti5, ti9, ti32, ti22, ti29, ti31, ti60, ti62, ti46, Int.natCast_zero]) (fun hc => by cases hc) (fun _ => Wc.skip ?_)
  refine Wc.seqR (fun y => y.ds = [] ∧ Fs y.e 46 []) ?_ ?_
  · refine Wc.seq ?_
    refine Wc.reg fun K hK => ?_; simp only [go_sem, ti3, ti4, ti5, ti9, ti32, ti22, ti29, ti31, ti60, ti62, ti46, Int.natCast_zero]; refine hK _ _ ?_; clear hK K
    refine Wc.block (Wc.loop (fun c y => ∃ i : Nat, c = x.rs.length - i ∧ i ≤ x.rs.length ∧ y.ds = [] ∧ Fs y.e 46 [(2, .v (.c (.ref 0 0))), (3, .v (.c (.ref 1 0))), (5, P' (pI i))] ∧ OA y.s.nx y.s [] [(1, .cells (x.pd.map .p) false), (0, .cells (x.pd.map .p) false)]) ?_ (k := x.rs.length) ⟨0, rfl, by omega, rfl, by simp only [Fs, Int.natCast_zero, go_sem, ti3, ti4, ti5, ti9, ti32, ti22, ti29, ti31, ti60, ti62, ti46, Int.natCast_zero], by (try simp only [St.put_adv, St.adv_adv, St.put_put, St.nx_put, St.nx_adv]); repeat (first | exact OA.mono s00_oa (by omega) | refine OA.newB ?_ (by omega) rfl | refine OA.putB ?_ (by omega) | refine OA.advB ?_)⟩)
    rintro c ⟨e, ds, s1⟩ ⟨i, rfl, hi, rfl, hF, ho⟩
    simp only [Fs] at hF ho
    have g0 := ho.at_ (0, .cells (x.pd.map .p) false) (by simp)
    have g1 := ho.at_ (1, .cells (x.pd.map .p) false) (by simp)
    simp only [List.map_cons, List.map_nil] at g0 g1
    refine Wc.seq (Wc.seq ?_)
    refine Wc.reg fun K hK => ?_; simp only [go_sem, ti3, ti4, ti5, ti9, ti32, ti22, ti29, ti31, ti60, ti62, ti46, Int.natCast_zero, hF, g0]; refine hK _ _ ?_; clear hK K
    refine Wc.cond (t := decide ((i : Int) < x.rs.length)) (by simp only [go_sem, ti3, ti4, ti5, ti9, ti32, ti22, ti29, ti31, ti60, ti62, ti46, Int.natCast_zero, hF]) (fun hc => ?_) (fun hc => ?_)
    · have hil : i < x.rs.length := by have := of_decide_eq_true hc; omega
      obtain ⟨b, hb⟩ : ∃ b, x.rs[i]? = some b := ⟨x.rs[i], List.getElem?_eq_getElem hil⟩
      have hix := ixA ti60 rfl ti31 (j := i) (m := x.rs.length) (cs := x.rs.flatMap Rlp.pd) hil hfl (by decide)
      have hca := rpRl hb
      have p17 := (hz b (List.mem_of_getElem? hb)).same
      refine Wc.skip (Wc.seq (Wc.block (Wc.seq ?_)))
      refine Wc.regT fun K hK => ?_
      simp only [go_sem, ti3, ti4, ti5, ti9, ti32, ti22, ti29, ti31, ti60, ti62, ti46, Int.natCast_zero, hF, g0, g1, hix, hca]
      refine wpCall.pf (p17) (by kernel_rfl) (by kernel_rfl) rfl rfl ?_
      simp only [go_sem, ti3, ti4, ti5, ti9, ti32, ti22, ti29, ti31, ti60, ti62, ti46, Int.natCast_zero, hF, o17, x17]
      refine ⟨by rw [trOK_eq3]; rfl, hK _ _ ?_⟩
      clear hK K
      refine Wc.cond (t := false) (by simp only [go_sem, ti3, ti4, ti5, ti9, ti32, ti22, ti29, ti31, ti60, ti62, ti46, Int.natCast_zero, hF]) (fun hc => by cases hc) (fun _ => ?_)
      refine Wc.skip ?_
      refine Wc.reg fun K hK => ?_; simp only [go_sem, ti3, ti4, ti5, ti9, ti32, ti22, ti29, ti31, ti60, ti62, ti46, Int.natCast_zero, hF, i64n i (by omega)]; refine hK _ _ ?_; clear hK K
      exact ⟨x.rs.length - (i + 1), by omega, i + 1, rfl, by omega, rfl, by simp only [Fs, Int.natCast_zero, go_sem, ti3, ti4, ti5, ti9, ti32, ti22, ti29, ti31, ti60, ti62, ti46, Int.natCast_zero, hF], by (try simp only [St.put_adv, St.adv_adv, St.put_put, St.nx_put, St.nx_adv]); repeat (first | exact OA.mono ho (by omega) | refine OA.newB ?_ (by omega) rfl | refine OA.putB ?_ (by omega) | refine OA.advB ?_)⟩
    · exact Wc.exit ⟨rfl, by simp only [Fs, Int.natCast_zero, go_sem, ti3, ti4, ti5, ti9, ti32, ti22, ti29, ti31, ti60, ti62, ti46, Int.natCast_zero, hF]⟩
  rintro ⟨e, ds, s1⟩ ⟨rfl, hF⟩
  simp only [Fs] at hF
  refine Wc.seq ?_
  refine Wc.reg fun K hK => ?_; simp only [go_sem, ti3, ti4, ti5, ti9, ti32, ti22, ti29, ti31, ti60, ti62, ti46, Int.natCast_zero, hF]; refine hK _ _ ?_; clear hK K
  exact Wc.ret (Pf.ret [.tmp 4] [.c (.p (.bool true))] rfl rfl (by simp only [resultsD, go_sem, ti3, ti4, ti5, ti9, ti32, ti22, ti29, ti31, ti60, ti62, ti46, Int.natCast_zero, hF]) rfl)
end Go.Proofs.YtedcnhbblgmdnaaGreat.Ab
