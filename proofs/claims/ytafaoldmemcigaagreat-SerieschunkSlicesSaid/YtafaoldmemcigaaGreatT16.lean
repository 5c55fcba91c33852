/- A part of the proof: an evaluator of the code, its contracts, the law. No condition. -/
import Derived.Test.YtafaoldmemcigaaGreatT15
namespace Go.Proofs.YtafaoldmemcigaaGreat.Ab
set_option maxHeartbeats 4000000
set_option maxRecDepth 10000
set_option linter.unusedSimpArgs false
set_option linter.unusedVariables false
/-- A column's numbers, encoded in a form. -/
def encF (f : Int) (l : List Int) : List UInt8 × Int := if f = 0 then encT l else if f = 1 then encV l else encI l
/-- 56: form.encode -/
theorem pf56 (f : Int) (l : List Int) (hl : l.length < 2^40) : Pf E0 56 [.c (.p (pI f)), .c (.p (.lst l.length (l.map pI)))] (.tup [.c (.p (.str (encF f l).1)), .c (.p (.int .i64 (encF f l).2))]) := by
  refine Pf.body (fn := Tryz.f56) (by kernel_rfl) rfl ?_; simp only [List.map_cons, List.map_nil, List.cons_append, List.nil_append, List.length_cons, List.length_nil, Tryz.ntmps56, List.replicate, Nat.reduceSub, Nat.reduceAdd]
  refine Wc.seq ?_
  refine Wc.reg fun K hK => ?_; simp only [go_sem, ti3, ti113, ti9, ti5, ti111, ti77, ti4, ti35, ti105, ti45, ti57, ti55, ti83, ti109, ti136, ti142, ti69, ti96, ti99]; refine hK _ _ ?_; clear hK K
  refine Wc.seq (Wc.seq ?_)
  refine Wc.reg fun K hK => ?_; simp only [go_sem, ti3, ti113, ti9, ti5, ti111, ti77, ti4, ti35, ti105, ti45, ti57, ti55, ti83, ti109, ti136, ti142, ti69, ti96, ti99]; refine hK _ _ ?_; clear hK K
  refine Wc.block (Wc.seq ?_)
  refine Wc.reg fun K hK => ?_; simp only [go_sem, ti3, ti113, ti9, ti5, ti111, ti77, ti4, ti35, ti105, ti45, ti57, ti55, ti83, ti109, ti136, ti142, ti69, ti96, ti99]; refine hK _ _ ?_; clear hK K
  refine Wc.cond (t := (f == 0)) (by simp only [go_sem, ti3, ti113, ti9, ti5, ti111, ti77, ti4, ti35, ti105, ti45, ti57, ti55, ti83, ti109, ti136, ti142, ti69, ti96, ti99]) (fun hc => ?_) (fun hc => ?_)
  · have e : encF f l = encT l := by unfold encF; rw [if_pos (by simpa using hc)]
    rw [e]
    refine Wc.seq ?_
    refine Wc.reg fun K hK => ?_; simp only [go_sem, ti3, ti113, ti9, ti5, ti111, ti77, ti4, ti35, ti105, ti45, ti57, ti55, ti83, ti109, ti136, ti142, ti69, ti96, ti99]
    refine wpCall.pf (pf106 l hl) (by kernel_rfl) (by kernel_rfl) rfl rfl ?_
    simp only [go_sem, ti3, ti113, ti9, ti5, ti111, ti77, ti4, ti35, ti105, ti45, ti57, ti55, ti83, ti109, ti136, ti142, ti69, ti96, ti99]; refine hK _ _ ?_; clear hK K
    exact Wc.ret (Pf.ret [.tmp 4, .tmp 5] [.c (.p (.str (encT l).1)), .c (.p (.int .i64 (encT l).2))] rfl rfl (by simp only [resultsD, go_sem, ti3, ti113, ti9, ti5, ti111, ti77, ti4, ti35, ti105, ti45, ti57, ti55, ti83, ti109, ti136, ti142, ti69, ti96, ti99]) rfl)
  · have h0 : ¬ f = 0 := by simpa using hc
    refine Wc.seq ?_
    refine Wc.reg fun K hK => ?_; simp only [go_sem, ti3, ti113, ti9, ti5, ti111, ti77, ti4, ti35, ti105, ti45, ti57, ti55, ti83, ti109, ti136, ti142, ti69, ti96, ti99]; refine hK _ _ ?_; clear hK K
    refine Wc.cond (t := (f == 1)) (by simp only [go_sem, ti3, ti113, ti9, ti5, ti111, ti77, ti4, ti35, ti105, ti45, ti57, ti55, ti83, ti109, ti136, ti142, ti69, ti96, ti99]) (fun hc => ?_) (fun hc => ?_)
    · have e : encF f l = encV l := by unfold encF; rw [if_neg h0, if_pos (by simpa using hc)]
      rw [e]
      refine Wc.seq ?_
      refine Wc.reg fun K hK => ?_; simp only [go_sem, ti3, ti113, ti9, ti5, ti111, ti77, ti4, ti35, ti105, ti45, ti57, ti55, ti83, ti109, ti136, ti142, ti69, ti96, ti99]
      refine wpCall.pf (pf50 l hl) (by kernel_rfl) (by kernel_rfl) rfl rfl ?_
      simp only [go_sem, ti3, ti113, ti9, ti5, ti111, ti77, ti4, ti35, ti105, ti45, ti57, ti55, ti83, ti109, ti136, ti142, ti69, ti96, ti99]; refine hK _ _ ?_; clear hK K
      exact Wc.ret (Pf.ret [.tmp 4, .tmp 5] [.c (.p (.str (encV l).1)), .c (.p (.int .i64 (encV l).2))] rfl rfl (by simp only [resultsD, go_sem, ti3, ti113, ti9, ti5, ti111, ti77, ti4, ti35, ti105, ti45, ti57, ti55, ti83, ti109, ti136, ti142, ti69, ti96, ti99]) rfl)
    · have h1 : ¬ f = 1 := by simpa using hc
      have e : encF f l = encI l := by unfold encF; rw [if_neg h0, if_neg h1]
      rw [e]
      refine Wc.skip (Wc.seq ?_)
      refine Wc.reg fun K hK => ?_; simp only [go_sem, ti3, ti113, ti9, ti5, ti111, ti77, ti4, ti35, ti105, ti45, ti57, ti55, ti83, ti109, ti136, ti142, ti69, ti96, ti99]
      refine wpCall.pf (pf53 l hl) (by kernel_rfl) (by kernel_rfl) rfl rfl ?_
      simp only [go_sem, ti3, ti113, ti9, ti5, ti111, ti77, ti4, ti35, ti105, ti45, ti57, ti55, ti83, ti109, ti136, ti142, ti69, ti96, ti99]; refine hK _ _ ?_; clear hK K
      exact Wc.ret (Pf.ret [.tmp 4, .tmp 5] [.c (.p (.str (encI l).1)), .c (.p (.int .i64 (encI l).2))] rfl rfl (by simp only [resultsD, go_sem, ti3, ti113, ti9, ti5, ti111, ti77, ti4, ti35, ti105, ti45, ti57, ti55, ti83, ti109, ti136, ti142, ti69, ti96, ti99]) rfl)
/-- Two numbers: a sample, a bucket. -/
abbrev I2 := Int × Int
abbrev p2 (x : I2) : List Pd := [pI x.1, pI x.2]
structure Hst where
  p : Int
  c : Int
  s : Int
  mn : Int
  mx : Int
  bs : List I2
abbrev Hst.pd (h : Hst) : List Pd := [pI h.p, pI h.c, pI h.s, pI h.mn, pI h.mx, .lst h.bs.length (h.bs.flatMap p2)]
structure HSm where
  t : Int
  h : Hst
abbrev HSm.pd (x : HSm) : List Pd := [pI x.t, pI x.h.p, pI x.h.c, pI x.h.s, pI x.h.mn, pI x.h.mx, .lst x.h.bs.length (x.h.bs.flatMap p2)]
/-- 57: a getter -/
theorem pf57 (x : I2) : Pf E0 57 [.agg ((p2 x).map .p)] (P' (pI x.1)) := by
  refine Pf.body (fn := Tryz.f57) (by kernel_rfl) rfl ?_; simp only [List.map_cons, List.map_nil, List.cons_append, List.nil_append, List.length_cons, List.length_nil, Tryz.ntmps57, List.replicate, Nat.reduceSub, Nat.reduceAdd]
  refine Wc.seq ?_
  refine Wc.reg fun K hK => ?_; simp only [go_sem, ti3, ti113, ti9, ti5, ti111, ti77, ti4, ti35, ti105, ti45, ti57, ti55, ti83, ti109, ti136, ti142, ti69, ti96, ti99]; refine hK _ _ ?_; clear hK K
  refine Wc.seq ?_
  refine Wc.reg fun K hK => ?_; simp only [go_sem, ti3, ti113, ti9, ti5, ti111, ti77, ti4, ti35, ti105, ti45, ti57, ti55, ti83, ti109, ti136, ti142, ti69, ti96, ti99]; refine hK _ _ ?_; clear hK K
  exact Wc.ret (Pf.ret [.tmp 2] [.c (.p (pI x.1))] rfl rfl (by simp only [resultsD, go_sem, ti3, ti113, ti9, ti5, ti111, ti77, ti4, ti35, ti105, ti45, ti57, ti55, ti83, ti109, ti136, ti142, ti69, ti96, ti99]) rfl)
/-- 59: a getter -/
theorem pf59 (x : I2) : Pf E0 59 [.agg ((p2 x).map .p)] (P' (pI x.2)) := by
  refine Pf.body (fn := Tryz.f59) (by kernel_rfl) rfl ?_; simp only [List.map_cons, List.map_nil, List.cons_append, List.nil_append, List.length_cons, List.length_nil, Tryz.ntmps59, List.replicate, Nat.reduceSub, Nat.reduceAdd]
  refine Wc.seq ?_
  refine Wc.reg fun K hK => ?_; simp only [go_sem, ti3, ti113, ti9, ti5, ti111, ti77, ti4, ti35, ti105, ti45, ti57, ti55, ti83, ti109, ti136, ti142, ti69, ti96, ti99]; refine hK _ _ ?_; clear hK K
  refine Wc.seq ?_
  refine Wc.reg fun K hK => ?_; simp only [go_sem, ti3, ti113, ti9, ti5, ti111, ti77, ti4, ti35, ti105, ti45, ti57, ti55, ti83, ti109, ti136, ti142, ti69, ti96, ti99]; refine hK _ _ ?_; clear hK K
  exact Wc.ret (Pf.ret [.tmp 2] [.c (.p (pI x.2))] rfl rfl (by simp only [resultsD, go_sem, ti3, ti113, ti9, ti5, ti111, ti77, ti4, ti35, ti105, ti45, ti57, ti55, ti83, ti109, ti136, ti142, ti69, ti96, ti99]) rfl)
/-- 98: a getter -/
theorem pf98 (x : I2) : Pf E0 98 [.agg ((p2 x).map .p)] (P' (pI x.1)) := by
  refine Pf.body (fn := Tryz.f98) (by kernel_rfl) rfl ?_; simp only [List.map_cons, List.map_nil, List.cons_append, List.nil_append, List.length_cons, List.length_nil, Tryz.ntmps98, List.replicate, Nat.reduceSub, Nat.reduceAdd]
  refine Wc.seq ?_
  refine Wc.reg fun K hK => ?_; simp only [go_sem, ti3, ti113, ti9, ti5, ti111, ti77, ti4, ti35, ti105, ti45, ti57, ti55, ti83, ti109, ti136, ti142, ti69, ti96, ti99]; refine hK _ _ ?_; clear hK K
  refine Wc.seq ?_
  refine Wc.reg fun K hK => ?_; simp only [go_sem, ti3, ti113, ti9, ti5, ti111, ti77, ti4, ti35, ti105, ti45, ti57, ti55, ti83, ti109, ti136, ti142, ti69, ti96, ti99]; refine hK _ _ ?_; clear hK K
  exact Wc.ret (Pf.ret [.tmp 2] [.c (.p (pI x.1))] rfl rfl (by simp only [resultsD, go_sem, ti3, ti113, ti9, ti5, ti111, ti77, ti4, ti35, ti105, ti45, ti57, ti55, ti83, ti109, ti136, ti142, ti69, ti96, ti99]) rfl)
/-- 100: a getter -/
theorem pf100 (x : I2) : Pf E0 100 [.agg ((p2 x).map .p)] (P' (pI x.2)) := by
  refine Pf.body (fn := Tryz.f100) (by kernel_rfl) rfl ?_; simp only [List.map_cons, List.map_nil, List.cons_append, List.nil_append, List.length_cons, List.length_nil, Tryz.ntmps100, List.replicate, Nat.reduceSub, Nat.reduceAdd]
  refine Wc.seq ?_
  refine Wc.reg fun K hK => ?_; simp only [go_sem, ti3, ti113, ti9, ti5, ti111, ti77, ti4, ti35, ti105, ti45, ti57, ti55, ti83, ti109, ti136, ti142, ti69, ti96, ti99]; refine hK _ _ ?_; clear hK K
  refine Wc.seq ?_
  refine Wc.reg fun K hK => ?_; simp only [go_sem, ti3, ti113, ti9, ti5, ti111, ti77, ti4, ti35, ti105, ti45, ti57, ti55, ti83, ti109, ti136, ti142, ti69, ti96, ti99]; refine hK _ _ ?_; clear hK K
  exact Wc.ret (Pf.ret [.tmp 2] [.c (.p (pI x.2))] rfl rfl (by simp only [resultsD, go_sem, ti3, ti113, ti9, ti5, ti111, ti77, ti4, ti35, ti105, ti45, ti57, ti55, ti83, ti109, ti136, ti142, ti69, ti96, ti99]) rfl)
/-- 86: a getter -/
theorem pf86 (x : HSm) : Pf E0 86 [.agg (x.pd.map .p)] (P' (pI x.t)) := by
  refine Pf.body (fn := Tryz.f86) (by kernel_rfl) rfl ?_; simp only [List.map_cons, List.map_nil, List.cons_append, List.nil_append, List.length_cons, List.length_nil, Tryz.ntmps86, List.replicate, Nat.reduceSub, Nat.reduceAdd]
  refine Wc.seq ?_
  refine Wc.reg fun K hK => ?_; simp only [go_sem, ti3, ti113, ti9, ti5, ti111, ti77, ti4, ti35, ti105, ti45, ti57, ti55, ti83, ti109, ti136, ti142, ti69, ti96, ti99]; refine hK _ _ ?_; clear hK K
  refine Wc.seq ?_
  refine Wc.reg fun K hK => ?_; simp only [go_sem, ti3, ti113, ti9, ti5, ti111, ti77, ti4, ti35, ti105, ti45, ti57, ti55, ti83, ti109, ti136, ti142, ti69, ti96, ti99]; refine hK _ _ ?_; clear hK K
  exact Wc.ret (Pf.ret [.tmp 2] [.c (.p (pI x.t))] rfl rfl (by simp only [resultsD, go_sem, ti3, ti113, ti9, ti5, ti111, ti77, ti4, ti35, ti105, ti45, ti57, ti55, ti83, ti109, ti136, ti142, ti69, ti96, ti99]) rfl)
/-- 88: a getter -/
theorem pf88 (x : HSm) : Pf E0 88 [.agg (x.pd.map .p)] (P' (pI x.h.p)) := by
  refine Pf.body (fn := Tryz.f88) (by kernel_rfl) rfl ?_; simp only [List.map_cons, List.map_nil, List.cons_append, List.nil_append, List.length_cons, List.length_nil, Tryz.ntmps88, List.replicate, Nat.reduceSub, Nat.reduceAdd]
  refine Wc.seq ?_
  refine Wc.reg fun K hK => ?_; simp only [go_sem, ti3, ti113, ti9, ti5, ti111, ti77, ti4, ti35, ti105, ti45, ti57, ti55, ti83, ti109, ti136, ti142, ti69, ti96, ti99]; refine hK _ _ ?_; clear hK K
  refine Wc.seq ?_
  refine Wc.reg fun K hK => ?_; simp only [go_sem, ti3, ti113, ti9, ti5, ti111, ti77, ti4, ti35, ti105, ti45, ti57, ti55, ti83, ti109, ti136, ti142, ti69, ti96, ti99]; refine hK _ _ ?_; clear hK K
  exact Wc.ret (Pf.ret [.tmp 2] [.c (.p (pI x.h.p))] rfl rfl (by simp only [resultsD, go_sem, ti3, ti113, ti9, ti5, ti111, ti77, ti4, ti35, ti105, ti45, ti57, ti55, ti83, ti109, ti136, ti142, ti69, ti96, ti99]) rfl)
/-- 90: a getter -/
theorem pf90 (x : HSm) : Pf E0 90 [.agg (x.pd.map .p)] (P' (pI x.h.c)) := by
  refine Pf.body (fn := Tryz.f90) (by kernel_rfl) rfl ?_; simp only [List.map_cons, List.map_nil, List.cons_append, List.nil_append, List.length_cons, List.length_nil, Tryz.ntmps90, List.replicate, Nat.reduceSub, Nat.reduceAdd]
  refine Wc.seq ?_
  refine Wc.reg fun K hK => ?_; simp only [go_sem, ti3, ti113, ti9, ti5, ti111, ti77, ti4, ti35, ti105, ti45, ti57, ti55, ti83, ti109, ti136, ti142, ti69, ti96, ti99]; refine hK _ _ ?_; clear hK K
  refine Wc.seq ?_
  refine Wc.reg fun K hK => ?_; simp only [go_sem, ti3, ti113, ti9, ti5, ti111, ti77, ti4, ti35, ti105, ti45, ti57, ti55, ti83, ti109, ti136, ti142, ti69, ti96, ti99]; refine hK _ _ ?_; clear hK K
  exact Wc.ret (Pf.ret [.tmp 2] [.c (.p (pI x.h.c))] rfl rfl (by simp only [resultsD, go_sem, ti3, ti113, ti9, ti5, ti111, ti77, ti4, ti35, ti105, ti45, ti57, ti55, ti83, ti109, ti136, ti142, ti69, ti96, ti99]) rfl)
/-- 92: a getter -/
theorem pf92 (x : HSm) : Pf E0 92 [.agg (x.pd.map .p)] (P' (pI x.h.mn)) := by
  refine Pf.body (fn := Tryz.f92) (by kernel_rfl) rfl ?_; simp only [List.map_cons, List.map_nil, List.cons_append, List.nil_append, List.length_cons, List.length_nil, Tryz.ntmps92, List.replicate, Nat.reduceSub, Nat.reduceAdd]
  refine Wc.seq ?_
  refine Wc.reg fun K hK => ?_; simp only [go_sem, ti3, ti113, ti9, ti5, ti111, ti77, ti4, ti35, ti105, ti45, ti57, ti55, ti83, ti109, ti136, ti142, ti69, ti96, ti99]; refine hK _ _ ?_; clear hK K
  refine Wc.seq ?_
  refine Wc.reg fun K hK => ?_; simp only [go_sem, ti3, ti113, ti9, ti5, ti111, ti77, ti4, ti35, ti105, ti45, ti57, ti55, ti83, ti109, ti136, ti142, ti69, ti96, ti99]; refine hK _ _ ?_; clear hK K
  exact Wc.ret (Pf.ret [.tmp 2] [.c (.p (pI x.h.mn))] rfl rfl (by simp only [resultsD, go_sem, ti3, ti113, ti9, ti5, ti111, ti77, ti4, ti35, ti105, ti45, ti57, ti55, ti83, ti109, ti136, ti142, ti69, ti96, ti99]) rfl)
/-- 94: a getter -/
theorem pf94 (x : HSm) : Pf E0 94 [.agg (x.pd.map .p)] (P' (pI x.h.mx)) := by
  refine Pf.body (fn := Tryz.f94) (by kernel_rfl) rfl ?_; simp only [List.map_cons, List.map_nil, List.cons_append, List.nil_append, List.length_cons, List.length_nil, Tryz.ntmps94, List.replicate, Nat.reduceSub, Nat.reduceAdd]
  refine Wc.seq ?_
  refine Wc.reg fun K hK => ?_; simp only [go_sem, ti3, ti113, ti9, ti5, ti111, ti77, ti4, ti35, ti105, ti45, ti57, ti55, ti83, ti109, ti136, ti142, ti69, ti96, ti99]; refine hK _ _ ?_; clear hK K
  refine Wc.seq ?_
  refine Wc.reg fun K hK => ?_; simp only [go_sem, ti3, ti113, ti9, ti5, ti111, ti77, ti4, ti35, ti105, ti45, ti57, ti55, ti83, ti109, ti136, ti142, ti69, ti96, ti99]; refine hK _ _ ?_; clear hK K
  exact Wc.ret (Pf.ret [.tmp 2] [.c (.p (pI x.h.mx))] rfl rfl (by simp only [resultsD, go_sem, ti3, ti113, ti9, ti5, ti111, ti77, ti4, ti35, ti105, ti45, ti57, ti55, ti83, ti109, ti136, ti142, ti69, ti96, ti99]) rfl)
/-- A column: its form, its getter (and what that tells), its setter. -/
structure Col (A : Type) where
  f : Int
  g : Nat
  w : Nat
  get : A → Int
abbrev Col.pd {A : Type} (c : Col A) : List Pd := [pI c.f, .fnc c.g, .fnc c.w]
def smpCols : List (Col I2) := [⟨0, 57, 58, (·.1)⟩, ⟨1, 59, 60, (·.2)⟩]
def bckCols : List (Col I2) := [⟨1, 98, 99, (·.1)⟩, ⟨1, 100, 101, (·.2)⟩]
def hstCols : List (Col HSm) := [⟨0, 86, 87, (·.t)⟩, ⟨1, 88, 89, (·.h.p)⟩, ⟨1, 90, 91, (·.h.c)⟩, ⟨1, 92, 93, (·.h.mn)⟩, ⟨1, 94, 95, (·.h.mx)⟩]
/-- 25: the columns -/
theorem pf25 : Pf E0 25 [] (P' (.lst smpCols.length (smpCols.flatMap Col.pd))) := by
  refine Pf.body (fn := Tryz.f25) (by kernel_rfl) rfl ?_; simp only [List.map_cons, List.map_nil, List.cons_append, List.nil_append, List.length_cons, List.length_nil, Tryz.ntmps25, List.replicate, Nat.reduceSub, Nat.reduceAdd]
  refine Wc.seq ?_
  refine Wc.reg fun K hK => ?_; simp only [go_sem, ti3, ti113, ti9, ti5, ti111, ti77, ti4, ti35, ti105, ti45, ti57, ti55, ti83, ti109, ti136, ti142, ti69, ti96, ti99]; refine hK _ _ ?_; clear hK K
  refine Wc.seq ?_
  refine Wc.reg fun K hK => ?_; simp only [go_sem, ti3, ti113, ti9, ti5, ti111, ti77, ti4, ti35, ti105, ti45, ti57, ti55, ti83, ti109, ti136, ti142, ti69, ti96, ti99]; refine hK _ _ ?_; clear hK K
  exact Wc.ret (Pf.ret [.tmp 0] _ rfl rfl (by simp only [resultsD, go_sem, ti3, ti113, ti9, ti5, ti111, ti77, ti4, ti35, ti105, ti45, ti57, ti55, ti83, ti109, ti136, ti142, ti69, ti96, ti99]; rfl) rfl)
/-- 52: the columns -/
theorem pf52 : Pf E0 52 [] (P' (.lst bckCols.length (bckCols.flatMap Col.pd))) := by
  refine Pf.body (fn := Tryz.f52) (by kernel_rfl) rfl ?_; simp only [List.map_cons, List.map_nil, List.cons_append, List.nil_append, List.length_cons, List.length_nil, Tryz.ntmps52, List.replicate, Nat.reduceSub, Nat.reduceAdd]
  refine Wc.seq ?_
  refine Wc.reg fun K hK => ?_; simp only [go_sem, ti3, ti113, ti9, ti5, ti111, ti77, ti4, ti35, ti105, ti45, ti57, ti55, ti83, ti109, ti136, ti142, ti69, ti96, ti99]; refine hK _ _ ?_; clear hK K
  refine Wc.seq ?_
  refine Wc.reg fun K hK => ?_; simp only [go_sem, ti3, ti113, ti9, ti5, ti111, ti77, ti4, ti35, ti105, ti45, ti57, ti55, ti83, ti109, ti136, ti142, ti69, ti96, ti99]; refine hK _ _ ?_; clear hK K
  exact Wc.ret (Pf.ret [.tmp 0] _ rfl rfl (by simp only [resultsD, go_sem, ti3, ti113, ti9, ti5, ti111, ti77, ti4, ti35, ti105, ti45, ti57, ti55, ti83, ti109, ti136, ti142, ti69, ti96, ti99]; rfl) rfl)
/-- 49: the columns -/
theorem pf49 : Pf E0 49 [] (P' (.lst hstCols.length (hstCols.flatMap Col.pd))) := by
  refine Pf.body (fn := Tryz.f49) (by kernel_rfl) rfl ?_; simp only [List.map_cons, List.map_nil, List.cons_append, List.nil_append, List.length_cons, List.length_nil, Tryz.ntmps49, List.replicate, Nat.reduceSub, Nat.reduceAdd]
  refine Wc.seq ?_
  refine Wc.reg fun K hK => ?_; simp only [go_sem, ti3, ti113, ti9, ti5, ti111, ti77, ti4, ti35, ti105, ti45, ti57, ti55, ti83, ti109, ti136, ti142, ti69, ti96, ti99]; refine hK _ _ ?_; clear hK K
  refine Wc.seq ?_
  refine Wc.reg fun K hK => ?_; simp only [go_sem, ti3, ti113, ti9, ti5, ti111, ti77, ti4, ti35, ti105, ti45, ti57, ti55, ti83, ti109, ti136, ti142, ti69, ti96, ti99]; refine hK _ _ ?_; clear hK K
  exact Wc.ret (Pf.ret [.tmp 0] _ rfl rfl (by simp only [resultsD, go_sem, ti3, ti113, ti9, ti5, ti111, ti77, ti4, ti35, ti105, ti45, ti57, ti55, ti83, ti109, ti136, ti142, ti69, ti96, ti99]; rfl) rfl)
/-- All columns, encoded; none: one is too long. -/
def packE {A : Type} (l : List A) : List (Col A) → Option (List (List UInt8))
  | [] => some []
  | c :: r => if (encF c.f (l.map c.get)).2 = 0 then (match packE l r with
      | some ss => some ((encF c.f (l.map c.get)).1 :: ss)
      | none => none) else none
/-- The numbers that are laid so far: j of them. -/
def fillZ {A : Type} (l : List A) (g : A → Int) (j : Nat) : List C := ((l.take j).map fun a => C.p (pI (g a))) ++ List.replicate (l.length - j) (.p (pI 0))
theorem fillZ_len {A : Type} (l : List A) (g : A → Int) {j : Nat} (h : j ≤ l.length) : (fillZ l g j).length = l.length := by simp [fillZ]; omega
theorem fillZ_set {A : Type} {l : List A} {g : A → Int} {j : Nat} {a : A} (h : l[j]? = some a) : (fillZ l g j).take j ++ [.p (pI (g a))] ++ (fillZ l g j).drop (j + 1) = fillZ l g (j + 1) := by
  have hj := (List.getElem?_eq_some_iff.1 h).1
  have e1 : ((l.take j).map fun a => C.p (pI (g a))).length = j := by simp; omega
  have e2 : l.length - j = (l.length - (j + 1)) + 1 := by omega
  unfold fillZ
  rw [take_snoc h, List.take_append_of_le_length (by omega), List.take_of_length_le (by omega), List.drop_append, List.drop_of_length_le (by omega), e1, e2, List.replicate_succ]
  simp
theorem fillZ_all {A : Type} (l : List A) (g : A → Int) : fillZ l g l.length = ((l.map g).map pI).map .p := by simp [fillZ]
theorem allM_purS : ∀ l : List Pd, allM purS (l.map .p) = some l
  | [] => rfl
  | x :: r => by simp only [List.map_cons, allM, purS, allM_purS r]
theorem repl_one (n : Nat) (c : C) : repl n [c] = List.replicate n c := by
  induction n with
  | zero => rfl
  | succ n ih => simp only [repl, ih, List.replicate_succ]; rfl
theorem fillZ_0 {A : Type} (l : List A) (g : A → Int) : fillZ l g 0 = repl l.length [.p (pI 0)] := by simp [fillZ, repl_one]
theorem ixM {E : Env} {t e : Nat} {i ie : TI} (ht : E.ti t = some i) (hk : i.kn = .slice e) (he : E.ti e = some ie) {r off j m es : Nat} (hj : j < m) (hs : es = ie.size) :
    indexAddrD E t (.v (.c (.mt r off m es))) (.v (.c (.p (.int .i64 (j : Int))))) = some (.v (.c (.ref r (off + j * es)))) := by
  unfold indexAddrD
  rw [ht]
  simp only [D.int?, hk, he, Int.toNat_natCast]
  rw [if_pos ⟨Int.natCast_nonneg j, by omega, hs⟩]
/-- The numbers' slice in the state, j of them laid. -/
def NumS {A : Type} (l : List A) (g : A → Int) (j : Nat) (L : List (Nat × D × Nat × List Pd)) (M : List (Nat × Ob)) (c9 : C) (s : St) : Prop :=
  (l = [] ∧ (∃ k, c9 = .own 0 [] k) ∧ OA s.nx s L M) ∨ ∃ k9, c9 = .mt k9 0 l.length 1 ∧ OA s.nx s L ((k9, .cells (fillZ l g j) false) :: M)
theorem NumS.adv {A : Type} {l : List A} {g : A → Int} {j : Nat} {L : List (Nat × D × Nat × List Pd)} {M : List (Nat × Ob)} {c9 : C} {s : St} (h : NumS l g j L M c9 s) {n : Nat} : NumS l g j L M c9 (s.adv n) := by
  rcases h with ⟨h1, h2, h3⟩ | ⟨k9, h1, h2⟩
  · exact .inl ⟨h1, h2, (h3.mono (Nat.le_add_right _ n)).adv⟩
  · exact .inr ⟨k9, h1, (h2.mono (Nat.le_add_right _ n)).adv⟩
theorem purVs_pc {s s' : St} {x y : Pd} {c : C} (h : purC s c = some (y, s')) : purVs s [.c (.p x), .c c] = some ([.c (.p x), .c (.p y)], s') := by
  have h0 : purC s (.p x) = some (x, s) := rfl
  simp only [purVs, purV, h0, h]
/-- As pure data. -/
theorem NumS.pur {A : Type} {l : List A} {g : A → Int} {L : List (Nat × D × Nat × List Pd)} {M : List (Nat × Ob)} {c9 : C} {s : St} (h : NumS l g l.length L M c9 s) :
    ∃ s', purC s c9 = some (.lst (l.map g).length ((l.map g).map pI), s') ∧ OA s'.nx s' L M ∧ s'.nx = s.nx := by
  rcases h with ⟨rfl, ⟨k, rfl⟩, h3⟩ | ⟨k9, rfl, h2⟩
  · exact ⟨s, rfl, h3, rfl⟩
  · have hg : s.get k9 = some (.cells (fillZ l g l.length) false) := h2.at_ (k9, .cells (fillZ l g l.length) false) (by simp)
    refine ⟨s.put k9 (.cells (((l.map g).map pI).map .p) true), ?_, ?_, rfl⟩
    · simp only [purC, hg, fillZ_all, allM_purS, List.drop_zero, List.length_map, Nat.zero_add, Nat.mul_one, Nat.le_refl, if_true]
      rw [List.take_of_length_le (by simp)]
    · exact OA.sub (M := [] ++ _ :: M) (h2.set (M1 := []) (o' := .cells (((l.map g).map pI).map .p) true) rfl) (List.Sublist.refl _) (List.sublist_cons_self _ _)
end Go.Proofs.YtafaoldmemcigaaGreat.Ab
namespace Go.Proofs.YtafaoldmemcigaaGreat.Ab
set_option maxHeartbeats 4000000
set_option maxRecDepth 10000
set_option linter.unusedSimpArgs false
set_option linter.unusedVariables false
/-- 24: pack, in its caller's state -/
theorem call24 {s : St} {L : List (Nat × D × Nat × List Pd)} {M : List (Nat × Ob)} {x : D} {l : List I2} {cols : List (Col I2)} {K : D → St → Prop} (h : OA s.nx s L M) (hl : l.length < 2^40) (hxc : ∃ c, x = .v (.c c))
    (hlx : lenD E0 23 x = some (.v (.c (.p (.int .i64 (l.length : Int)))))) (hix : ∀ j : Nat, j < l.length → indexAddrD E0 23 x (.v (.c (.p (.int .i64 (j : Int))))) = some (.v (.c (.rp (l.flatMap p2) (j * 2)))))
    (hcol : ∀ c ∈ cols, (∀ a : I2, Pf E0 c.g [.agg ((p2 a).map .p)] (P' (pI (c.get a)))) ∧ E0.xt c.g = none ∧ E0.opn c.g = false) (hcl : cols.length < 2^20)
    (hK0 : packE l cols = none → ∀ s', OA s'.nx s' L M → s.nx ≤ s'.nx → K (.tup [.c .nils, .c (.p (.bool false))]) s')
    (hK1 : ∀ ss, packE l cols = some ss → ∀ x' s', OA s'.nx s' ((1, .v (.c x'), ss.length, ss.map .str) :: L) M → s.nx ≤ s'.nx → K (.tup [.c x', .c (.p (.bool true))]) s') :
    wpCall E0 (.v (.c (.p (.fnc 24)))) [x, .v (.c (.p (.lst cols.length (cols.flatMap Col.pd))))] s K := by
  obtain ⟨cx, rfl⟩ := hxc
  refine wpCall.opn (fn := Tryz.f24) (by kernel_rfl) (by kernel_rfl) rfl (by kernel_rfl) rfl ?_; simp only [List.map_cons, List.map_nil, List.cons_append, List.nil_append, List.length_cons, List.length_nil, Tryz.ntmps24, List.replicate, Nat.reduceSub, Nat.reduceAdd]
  refine Wc.seq ?_
  refine Wc.reg fun K hK => ?_; simp only [go_sem, ti3, ti9, ti77, ti4, ti35, ti105, ti48, ti23, ti69, ti109, ti45, ti106]; refine hK _ _ ?_; clear hK K
  refine Wc.seq ?_
  refine Wc.reg fun K hK => ?_; simp only [go_sem, ti3, ti9, ti77, ti4, ti35, ti105, ti48, ti23, ti69, ti109, ti45, ti106]; refine hK _ _ ?_; clear hK K
  refine Wc.seq (Wc.seq ?_)
  refine Wc.reg fun K hK => ?_; simp only [go_sem, ti3, ti9, ti77, ti4, ti35, ti105, ti48, ti23, ti69, ti109, ti45, ti106, Int.natCast_zero]; refine hK _ _ ?_; clear hK K
  refine Wc.block (Wc.loop (fun k y => ∃ (i : Nat) (ss : List (List UInt8)) (c6 : C), k = cols.length - i ∧ i ≤ cols.length ∧ y.ds = [] ∧ y.e.length = 53 ∧ y.e.getD 0 .junk = .v (.c cx) ∧ y.e.getD 14 .junk = P' (.lst cols.length (cols.flatMap Col.pd)) ∧ y.e.getD 15 .junk = P' (pI cols.length) ∧ y.e.getD 16 .junk = P' (pI i) ∧ y.e.getD 6 .junk = .v (.c c6) ∧
    OA y.s.nx y.s ((1, .v (.c c6), ss.length, ss.map .str) :: L) M ∧ s.nx ≤ y.s.nx ∧ ss.length = i ∧ packE l cols = (packE l (cols.drop i)).map (ss ++ ·)) ?_ (k := cols.length) ?_)
  · rintro k ⟨e, ds, s1⟩ ⟨i, ss, c6, rfl, hi, rfl, hlen, h0, h14, h15, h16, h6, ho, hnx, hsl, hp⟩
    simp only at hlen h0 h14 h15 h16 h6 ho hnx
    refine Wc.seq ?_
    refine Wc.reg fun K hK => ?_; simp only [go_sem, ti3, ti9, ti77, ti4, ti35, ti105, ti48, ti23, ti69, ti109, ti45, ti106, hlen, h0, h14, h15, h16, h6]; refine hK _ _ ?_; clear hK K
    refine Wc.seq (Wc.cond (t := decide ((i : Int) < cols.length)) (by simp only [go_sem, ti3, ti9, ti77, ti4, ti35, ti105, ti48, ti23, ti69, ti109, ti45, ti106, hlen]) (fun hc => ?_) (fun hc => ?_))
    · have hil : i < cols.length := by have : (i : Int) < cols.length := by simpa using hc
                                       omega
      obtain ⟨c, hc1⟩ : ∃ c, cols[i]? = some c := ⟨cols[i], List.getElem?_eq_getElem hil⟩
      have hcm := List.mem_of_getElem? hc1
      obtain ⟨hpf, hxt, hopn⟩ := hcol c hcm
      have hic := ixA ti69 rfl ti109 (j := i) (m := cols.length) (cs := cols.flatMap Col.pd) hil (by rw [flat_len (k := 3) (fun _ => rfl)]) (by decide)
      have hca := rpA (off := i * 3) (drop_flat (f := Col.pd) (k := 3) (fun _ => rfl) hc1) (by rw [flat_len (k := 3) (fun _ => rfl)]; omega)
      have hpd : packE l (cols.drop i) = if (encF c.f (l.map c.get)).2 = 0 then (match packE l (cols.drop (i + 1)) with
          | some ss => some ((encF c.f (l.map c.get)).1 :: ss)
          | none => none) else none := by
        have := (List.getElem?_eq_some_iff.1 hc1).2
        rw [List.drop_eq_getElem_cons hil, this]; rfl
      refine Wc.skip (Wc.seq (Wc.block ?_))
      refine Wc.seqA (fun y => ∃ k8, y.ds = [] ∧ y.e.length = 53 ∧ y.e.getD 0 .junk = .v (.c cx) ∧ y.e.getD 14 .junk = P' (.lst cols.length (cols.flatMap Col.pd)) ∧ y.e.getD 15 .junk = P' (pI cols.length) ∧ y.e.getD 16 .junk = P' (pI i) ∧ y.e.getD 6 .junk = .v (.c c6) ∧ y.e.getD 8 .junk = .v (.c (.ref k8 0)) ∧
        OA y.s.nx y.s ((1, .v (.c c6), ss.length, ss.map .str) :: L) ((k8, .cells [.p (pI c.f), .p (.fnc c.g), .p (.fnc c.w)] false) :: M) ∧ s.nx ≤ y.s.nx) ?_ ?_
      · refine Wc.reg fun K hK => ?_; simp only [go_sem, ti3, ti9, ti77, ti4, ti35, ti105, ti48, ti23, ti69, ti109, ti45, ti106, hlen, h0, h14, h15, h16, h6, hic, hca]; refine hK _ _ ?_; clear hK K
        refine ⟨rfl, s1.nx + 3, rfl, by simp only [go_sem, ti3, ti9, ti77, ti4, ti35, ti105, ti48, ti23, ti69, ti109, ti45, ti106, hlen], by simp only [go_sem, ti3, ti9, ti77, ti4, ti35, ti105, ti48, ti23, ti69, ti109, ti45, ti106, hlen, h0], by simp only [go_sem, ti3, ti9, ti77, ti4, ti35, ti105, ti48, ti23, ti69, ti109, ti45, ti106, hlen, h14], by simp only [go_sem, ti3, ti9, ti77, ti4, ti35, ti105, ti48, ti23, ti69, ti109, ti45, ti106, hlen, h15], by simp only [go_sem, ti3, ti9, ti77, ti4, ti35, ti105, ti48, ti23, ti69, ti109, ti45, ti106, hlen, h16], by simp only [go_sem, ti3, ti9, ti77, ti4, ti35, ti105, ti48, ti23, ti69, ti109, ti45, ti106, hlen, h6], by simp only [go_sem, ti3, ti9, ti77, ti4, ti35, ti105, ti48, ti23, ti69, ti109, ti45, ti106, hlen], ?_, ?_⟩
        · have h2 := OA.set (M1 := []) (o' := .cells [.p (pI c.f), .p (.fnc c.g), .p (.fnc c.w)] false) ((ho.adv (n := 1)).adv (n := 4) |>.new (k := s1.nx + 3) (o := .cells [.p (.int .i64 0), .p .nilf, .p .nilf] false) (by omega) rfl) rfl
          exact h2.mono (by simp only [St.nx_put, St.nx_adv]; omega)
        · simp only [St.nx_put, St.nx_adv]; omega
      · clear hlen h0 h14 h15 h16 h6 ho hnx e s1
        rintro ⟨e, ds, s1⟩ ⟨k8, rfl, hlen, h0, h14, h15, h16, h6, h8, ho, hnx⟩
        simp only at hlen h0 h14 h15 h16 h6 h8 ho hnx
        refine Wc.seqA (fun y => ∃ c9, y.ds = [] ∧ y.e.length = 53 ∧ y.e.getD 0 .junk = .v (.c cx) ∧ y.e.getD 14 .junk = P' (.lst cols.length (cols.flatMap Col.pd)) ∧ y.e.getD 15 .junk = P' (pI cols.length) ∧ y.e.getD 16 .junk = P' (pI i) ∧ y.e.getD 6 .junk = .v (.c c6) ∧ y.e.getD 8 .junk = .v (.c (.ref k8 0)) ∧ y.e.getD 9 .junk = .v (.c c9) ∧ NumS l c.get 0 ((1, .v (.c c6), ss.length, ss.map .str) :: L) ((k8, .cells [.p (pI c.f), .p (.fnc c.g), .p (.fnc c.w)] false) :: M) c9 y.s ∧ s.nx ≤ y.s.nx) ?_ ?_
        · by_cases hl0 : l.length = 0
          · have hl1 : l = [] := List.length_eq_zero_iff.1 hl0
            subst hl1
            have hsz : (((8 : Nat) : Int) * 0 ≤ 140737488355328) = True := by simp
            simp only [List.length_nil, Int.natCast_zero] at hlx
            refine Wc.reg fun K hK => ?_; simp only [go_sem, ti3, ti9, ti77, ti4, ti35, ti105, ti48, ti23, ti69, ti109, ti45, ti106, hlen, h0, h14, h15, h16, h6, h8, hlx, hsz]; refine hK _ _ ?_; clear hK K
            refine ⟨rfl, .own 0 [] (s1.nx + 2), rfl, by simp only [go_sem, ti3, ti9, ti77, ti4, ti35, ti105, ti48, ti23, ti69, ti109, ti45, ti106, hlen], by simp only [go_sem, ti3, ti9, ti77, ti4, ti35, ti105, ti48, ti23, ti69, ti109, ti45, ti106, hlen, h0], by simp only [go_sem, ti3, ti9, ti77, ti4, ti35, ti105, ti48, ti23, ti69, ti109, ti45, ti106, hlen, h14], by simp only [go_sem, ti3, ti9, ti77, ti4, ti35, ti105, ti48, ti23, ti69, ti109, ti45, ti106, hlen, h15], by simp only [go_sem, ti3, ti9, ti77, ti4, ti35, ti105, ti48, ti23, ti69, ti109, ti45, ti106, hlen, h16], by simp only [go_sem, ti3, ti9, ti77, ti4, ti35, ti105, ti48, ti23, ti69, ti109, ti45, ti106, hlen, h6], by simp only [go_sem, ti3, ti9, ti77, ti4, ti35, ti105, ti48, ti23, ti69, ti109, ti45, ti106, hlen, h8], by simp only [go_sem, ti3, ti9, ti77, ti4, ti35, ti105, ti48, ti23, ti69, ti109, ti45, ti106, hlen], .inl ⟨rfl, ⟨_, rfl⟩, ?_⟩, ?_⟩
            · exact (OA.put (ho.adv (n := 4)) (k := s1.nx + 2) (by omega)).mono (by simp only [St.nx_put, St.nx_adv]; omega)
            · simp only [St.nx_put, St.nx_adv]; omega
          · have hsz : (((8 : Nat) : Int) * (l.length : Int) ≤ 140737488355328) = True := by simp; omega
            have hmx : ((l.length : Int) ≤ 9223372036854775807) = True := by simp only [eq_iff_iff, iff_true]; omega
            have hne : ((l.length : Int) = 0) = False := by simp only [eq_iff_iff, iff_false]; omega
            refine Wc.reg fun K hK => ?_; simp only [go_sem, ti3, ti9, ti77, ti4, ti35, ti105, ti48, ti23, ti69, ti109, ti45, ti106, hlen, h0, h14, h15, h16, h6, h8, hlx, hsz, hmx, hne, Int.le_refl]; refine hK _ _ ?_; clear hK K
            refine ⟨rfl, .mt (s1.nx + 2) 0 l.length 1, rfl, by simp only [go_sem, ti3, ti9, ti77, ti4, ti35, ti105, ti48, ti23, ti69, ti109, ti45, ti106, hlen], by simp only [go_sem, ti3, ti9, ti77, ti4, ti35, ti105, ti48, ti23, ti69, ti109, ti45, ti106, hlen, h0], by simp only [go_sem, ti3, ti9, ti77, ti4, ti35, ti105, ti48, ti23, ti69, ti109, ti45, ti106, hlen, h14], by simp only [go_sem, ti3, ti9, ti77, ti4, ti35, ti105, ti48, ti23, ti69, ti109, ti45, ti106, hlen, h15], by simp only [go_sem, ti3, ti9, ti77, ti4, ti35, ti105, ti48, ti23, ti69, ti109, ti45, ti106, hlen, h16], by simp only [go_sem, ti3, ti9, ti77, ti4, ti35, ti105, ti48, ti23, ti69, ti109, ti45, ti106, hlen, h6], by simp only [go_sem, ti3, ti9, ti77, ti4, ti35, ti105, ti48, ti23, ti69, ti109, ti45, ti106, hlen, h8], by simp only [go_sem, ti3, ti9, ti77, ti4, ti35, ti105, ti48, ti23, ti69, ti109, ti45, ti106, hlen], .inr ⟨_, rfl, ?_⟩, ?_⟩
            · rw [fillZ_0]
              exact (OA.new (ho.adv (n := 4)) (k := s1.nx + 2) (by omega) rfl).mono (by simp only [St.nx_put, St.nx_adv]; omega)
            · simp only [St.nx_put, St.nx_adv]; omega
        · clear hlen h0 h14 h15 h16 h6 h8 ho hnx e s1
          rintro ⟨e, ds, s1⟩ ⟨c9, rfl, hlen, h0, h14, h15, h16, h6, h8, h9, hN, hnx⟩
          simp only at hlen h0 h14 h15 h16 h6 h8 h9 hN hnx
          refine Wc.seqA (fun y => y.ds = [] ∧ y.e.length = 53 ∧ y.e.getD 0 .junk = .v (.c cx) ∧ y.e.getD 14 .junk = P' (.lst cols.length (cols.flatMap Col.pd)) ∧ y.e.getD 15 .junk = P' (pI cols.length) ∧ y.e.getD 16 .junk = P' (pI i) ∧ y.e.getD 6 .junk = .v (.c c6) ∧ y.e.getD 8 .junk = .v (.c (.ref k8 0)) ∧ y.e.getD 9 .junk = .v (.c c9) ∧ NumS l c.get l.length ((1, .v (.c c6), ss.length, ss.map .str) :: L) ((k8, .cells [.p (pI c.f), .p (.fnc c.g), .p (.fnc c.w)] false) :: M) c9 y.s ∧ s.nx ≤ y.s.nx) ?_ ?_
          · refine Wc.seq ?_
            refine Wc.reg fun K hK => ?_; simp only [go_sem, ti3, ti9, ti77, ti4, ti35, ti105, ti48, ti23, ti69, ti109, ti45, ti106, hlen, h0, h14, h15, h16, h6, h8, h9, hlx, Int.natCast_zero]; refine hK _ _ ?_; clear hK K
            refine Wc.block (Wc.loop (fun q y => ∃ j : Nat, q = l.length - j ∧ j ≤ l.length ∧ y.ds = [] ∧ y.e.length = 53 ∧ y.e.getD 0 .junk = .v (.c cx) ∧ y.e.getD 14 .junk = P' (.lst cols.length (cols.flatMap Col.pd)) ∧ y.e.getD 15 .junk = P' (pI cols.length) ∧ y.e.getD 16 .junk = P' (pI i) ∧ y.e.getD 6 .junk = .v (.c c6) ∧ y.e.getD 8 .junk = .v (.c (.ref k8 0)) ∧ y.e.getD 9 .junk = .v (.c c9) ∧ y.e.getD 23 .junk = .v (.c cx) ∧ y.e.getD 24 .junk = P' (pI l.length) ∧ y.e.getD 25 .junk = P' (pI j) ∧ NumS l c.get j ((1, .v (.c c6), ss.length, ss.map .str) :: L) ((k8, .cells [.p (pI c.f), .p (.fnc c.g), .p (.fnc c.w)] false) :: M) c9 y.s ∧ s.nx ≤ y.s.nx) ?_ (k := l.length) ?_)
            · clear hlen h0 h14 h15 h16 h6 h8 h9 hN hnx e s1
              rintro q ⟨e, ds, s1⟩ ⟨j, rfl, hj, rfl, hlen, h0, h14, h15, h16, h6, h8, h9, h23, h24, h25, hN, hnx⟩
              simp only at hlen h0 h14 h15 h16 h6 h8 h9 h23 h24 h25 hN hnx
              refine Wc.seq ?_
              refine Wc.reg fun K hK => ?_; simp only [go_sem, ti3, ti9, ti77, ti4, ti35, ti105, ti48, ti23, ti69, ti109, ti45, ti106, hlen, h0, h14, h15, h16, h6, h8, h9, h23, h24, h25]; refine hK _ _ ?_; clear hK K
              refine Wc.seq (Wc.cond (t := decide ((j : Int) < l.length)) (by simp only [go_sem, ti3, ti9, ti77, ti4, ti35, ti105, ti48, ti23, ti69, ti109, ti45, ti106, hlen]) (fun hc => ?_) (fun hc => ?_))
              · have hjl : j < l.length := by have : (j : Int) < l.length := by simpa using hc
                                              omega
                obtain ⟨a, ha⟩ : ∃ a, l[j]? = some a := ⟨l[j], List.getElem?_eq_getElem hjl⟩
                have hia := hix j hjl
                have hcb := rpA (off := j * 2) (drop_flat (f := p2) (k := 2) (fun _ => rfl) ha) (by rw [flat_len (k := 2) (fun _ => rfl)]; omega)
                obtain ⟨k9, rfl, ho⟩ : ∃ k9, c9 = .mt k9 0 l.length 1 ∧ OA s1.nx s1 ((1, .v (.c c6), ss.length, ss.map .str) :: L) ((k9, .cells (fillZ l c.get j) false) :: (k8, .cells [.p (pI c.f), .p (.fnc c.g), .p (.fnc c.w)] false) :: M) := by
                  rcases hN with ⟨h1, _⟩ | h1
                  · subst h1; simp at hjl
                  · exact h1
                refine Wc.skip (Wc.seq (Wc.block (Wc.seqA (fun y => ∃ kx, y.ds = [] ∧ y.e.length = 53 ∧ y.e.getD 0 .junk = .v (.c cx) ∧ y.e.getD 14 .junk = P' (.lst cols.length (cols.flatMap Col.pd)) ∧ y.e.getD 15 .junk = P' (pI cols.length) ∧ y.e.getD 16 .junk = P' (pI i) ∧ y.e.getD 6 .junk = .v (.c c6) ∧ y.e.getD 8 .junk = .v (.c (.ref k8 0)) ∧ y.e.getD 9 .junk = .v (.c (.mt k9 0 l.length 1)) ∧ y.e.getD 23 .junk = .v (.c cx) ∧ y.e.getD 24 .junk = P' (pI l.length) ∧ y.e.getD 25 .junk = P' (pI j) ∧ y.e.getD 10 .junk = P' (pI j) ∧ y.e.getD 11 .junk = .v (.c (.ref kx 0)) ∧
                    OA y.s.nx y.s ((1, .v (.c c6), ss.length, ss.map .str) :: L) ((kx, .cells ((p2 a).map .p) false) :: (k9, .cells (fillZ l c.get j) false) :: (k8, .cells [.p (pI c.f), .p (.fnc c.g), .p (.fnc c.w)] false) :: M) ∧ s.nx ≤ y.s.nx) ?_ ?_)))
                · refine Wc.reg fun K hK => ?_; simp only [go_sem, ti3, ti9, ti77, ti4, ti35, ti105, ti48, ti23, ti69, ti109, ti45, ti106, hlen, h0, h14, h15, h16, h6, h8, h9, h23, h24, h25, hia, hcb]; refine hK _ _ ?_; clear hK K
                  refine ⟨rfl, s1.nx + 4, rfl, by simp only [go_sem, ti3, ti9, ti77, ti4, ti35, ti105, ti48, ti23, ti69, ti109, ti45, ti106, hlen], by simp only [go_sem, ti3, ti9, ti77, ti4, ti35, ti105, ti48, ti23, ti69, ti109, ti45, ti106, hlen, h0], by simp only [go_sem, ti3, ti9, ti77, ti4, ti35, ti105, ti48, ti23, ti69, ti109, ti45, ti106, hlen, h14], by simp only [go_sem, ti3, ti9, ti77, ti4, ti35, ti105, ti48, ti23, ti69, ti109, ti45, ti106, hlen, h15], by simp only [go_sem, ti3, ti9, ti77, ti4, ti35, ti105, ti48, ti23, ti69, ti109, ti45, ti106, hlen, h16], by simp only [go_sem, ti3, ti9, ti77, ti4, ti35, ti105, ti48, ti23, ti69, ti109, ti45, ti106, hlen, h6], by simp only [go_sem, ti3, ti9, ti77, ti4, ti35, ti105, ti48, ti23, ti69, ti109, ti45, ti106, hlen, h8], by simp only [go_sem, ti3, ti9, ti77, ti4, ti35, ti105, ti48, ti23, ti69, ti109, ti45, ti106, hlen, h9], by simp only [go_sem, ti3, ti9, ti77, ti4, ti35, ti105, ti48, ti23, ti69, ti109, ti45, ti106, hlen, h23], by simp only [go_sem, ti3, ti9, ti77, ti4, ti35, ti105, ti48, ti23, ti69, ti109, ti45, ti106, hlen, h24], by simp only [go_sem, ti3, ti9, ti77, ti4, ti35, ti105, ti48, ti23, ti69, ti109, ti45, ti106, hlen, h25], by simp only [go_sem, ti3, ti9, ti77, ti4, ti35, ti105, ti48, ti23, ti69, ti109, ti45, ti106, hlen], by simp only [go_sem, ti3, ti9, ti77, ti4, ti35, ti105, ti48, ti23, ti69, ti109, ti45, ti106, hlen], ?_, ?_⟩
                  · have h2 := OA.set (M1 := []) (o' := .cells ((p2 a).map .p) false) ((ho.adv (n := 1)).adv (n := 6) |>.new (k := s1.nx + 4) (o := .cells [.p (.int .i64 0), .p (.int .i64 0)] false) (by omega) rfl) rfl
                    exact h2.mono (by simp only [St.nx_put, St.nx_adv]; omega)
                  · simp only [St.nx_put, St.nx_adv]; omega
                · clear hlen h0 h14 h15 h16 h6 h8 h9 h23 h24 h25 ho hN hnx e s1
                  rintro ⟨e, ds, s1⟩ ⟨kx, rfl, hlen, h0, h14, h15, h16, h6, h8, h9, h23, h24, h25, h10, h11, ho, hnx⟩
                  simp only at hlen h0 h14 h15 h16 h6 h8 h9 h23 h24 h25 h10 h11 ho hnx
                  have gx := ho.at_ (kx, .cells ((p2 a).map .p) false) (by simp)
                  have g9 := ho.at_ (k9, .cells (fillZ l c.get j) false) (by simp)
                  have g8 := ho.at_ (k8, .cells [.p (pI c.f), .p (.fnc c.g), .p (.fnc c.w)] false) (by simp)
                  have hfl := fillZ_len l c.get hj
                  have hi9 := ixM ti77 rfl ti3 (r := k9) (off := 0) (j := j) (m := l.length) (es := 1) hjl rfl
                  have hj1 : (j + 1 ≤ l.length) = True := by simp; omega
                  have hj2 : ((j : Int) < (l.length : Int)) = True := by simp; omega
                  simp only at gx g9 g8
                  simp only [List.map_cons, List.map_nil] at gx
                  refine Wc.reg fun K hK => ?_; simp only [go_sem, ti3, ti9, ti77, ti4, ti35, ti105, ti48, ti23, ti69, ti109, ti45, ti106, hlen, h0, h14, h15, h16, h6, h8, h9, h23, h24, h25, h10, h11, gx, g9, g8, hi9, hfl, hj1, hj2]
                  refine wpCall.pf (hpf a) hxt hopn rfl rfl ?_
                  simp only [go_sem, ti3, ti9, ti77, ti4, ti35, ti105, ti48, ti23, ti69, ti109, ti45, ti106, hlen, h0, h14, h15, h16, h6, h8, h9, h23, h24, h25, h10, h11, gx, g9, g8, hi9, hfl, hj1, hj2]; refine hK _ _ ?_; clear hK K
                  refine Wc.reg fun K hK => ?_; simp only [go_sem, ti3, ti9, ti77, ti4, ti35, ti105, ti48, ti23, ti69, ti109, ti45, ti106, hlen, h0, h14, h15, h16, h6, h8, h9, h23, h24, h25, h10, h11, i64n j (by omega)]; refine hK _ _ ?_; clear hK K
                  refine ⟨l.length - (j + 1), by omega, j + 1, rfl, by omega, rfl, by simp only [go_sem, ti3, ti9, ti77, ti4, ti35, ti105, ti48, ti23, ti69, ti109, ti45, ti106, hlen], by simp only [go_sem, ti3, ti9, ti77, ti4, ti35, ti105, ti48, ti23, ti69, ti109, ti45, ti106, hlen, h0], by simp only [go_sem, ti3, ti9, ti77, ti4, ti35, ti105, ti48, ti23, ti69, ti109, ti45, ti106, hlen, h14], by simp only [go_sem, ti3, ti9, ti77, ti4, ti35, ti105, ti48, ti23, ti69, ti109, ti45, ti106, hlen, h15], by simp only [go_sem, ti3, ti9, ti77, ti4, ti35, ti105, ti48, ti23, ti69, ti109, ti45, ti106, hlen, h16], by simp only [go_sem, ti3, ti9, ti77, ti4, ti35, ti105, ti48, ti23, ti69, ti109, ti45, ti106, hlen, h6], by simp only [go_sem, ti3, ti9, ti77, ti4, ti35, ti105, ti48, ti23, ti69, ti109, ti45, ti106, hlen, h8], by simp only [go_sem, ti3, ti9, ti77, ti4, ti35, ti105, ti48, ti23, ti69, ti109, ti45, ti106, hlen, h9], by simp only [go_sem, ti3, ti9, ti77, ti4, ti35, ti105, ti48, ti23, ti69, ti109, ti45, ti106, hlen, h23], by simp only [go_sem, ti3, ti9, ti77, ti4, ti35, ti105, ti48, ti23, ti69, ti109, ti45, ti106, hlen, h24], by simp only [go_sem, ti3, ti9, ti77, ti4, ti35, ti105, ti48, ti23, ti69, ti109, ti45, ti106, hlen], ?_, ?_⟩
                  · have h2 := OA.set (M1 := [(kx, .cells ((p2 a).map .p) false)]) (o' := .cells ((fillZ l c.get j).take j ++ [.p (pI (c.get a))] ++ (fillZ l c.get j).drop (j + 1)) false) (ho.adv (n := 8)) rfl
                    have h3 := OA.sub (M := (kx, .cells ((p2 a).map .p) false) :: _) h2 (List.Sublist.refl _) (List.sublist_cons_self _ _)
                    rw [fillZ_set ha] at h3
                    have h4 : NumS l c.get (j + 1) ((1, .v (.c c6), ss.length, ss.map .str) :: L) ((k8, .cells [.p (pI c.f), .p (.fnc c.g), .p (.fnc c.w)] false) :: M) (.mt k9 0 l.length 1) ((s1.adv 8).put k9 (.cells (fillZ l c.get (j + 1)) false)) := .inr ⟨k9, rfl, h3.mono (by simp only [St.nx_put, St.nx_adv]; omega)⟩
                    have h5 := h4.adv (n := 2)
                    rw [← fillZ_set ha] at h5
                    exact h5
                  · simp only [St.nx_put, St.nx_adv]; omega
              · have hjl : j = l.length := by have : ¬ (j : Int) < l.length := by simpa using hc
                                              omega
                subst hjl
                exact Wc.exit ⟨rfl, rfl, by simp only [go_sem, ti3, ti9, ti77, ti4, ti35, ti105, ti48, ti23, ti69, ti109, ti45, ti106, hlen], by simp only [go_sem, ti3, ti9, ti77, ti4, ti35, ti105, ti48, ti23, ti69, ti109, ti45, ti106, hlen, h0], by simp only [go_sem, ti3, ti9, ti77, ti4, ti35, ti105, ti48, ti23, ti69, ti109, ti45, ti106, hlen, h14], by simp only [go_sem, ti3, ti9, ti77, ti4, ti35, ti105, ti48, ti23, ti69, ti109, ti45, ti106, hlen, h15], by simp only [go_sem, ti3, ti9, ti77, ti4, ti35, ti105, ti48, ti23, ti69, ti109, ti45, ti106, hlen, h16], by simp only [go_sem, ti3, ti9, ti77, ti4, ti35, ti105, ti48, ti23, ti69, ti109, ti45, ti106, hlen, h6], by simp only [go_sem, ti3, ti9, ti77, ti4, ti35, ti105, ti48, ti23, ti69, ti109, ti45, ti106, hlen, h8], by simp only [go_sem, ti3, ti9, ti77, ti4, ti35, ti105, ti48, ti23, ti69, ti109, ti45, ti106, hlen, h9], hN.adv, by simp only [St.nx_adv]; omega⟩
            · exact ⟨0, rfl, by omega, rfl, by simp only [go_sem, ti3, ti9, ti77, ti4, ti35, ti105, ti48, ti23, ti69, ti109, ti45, ti106, hlen], by simp only [go_sem, ti3, ti9, ti77, ti4, ti35, ti105, ti48, ti23, ti69, ti109, ti45, ti106, hlen, h0], by simp only [go_sem, ti3, ti9, ti77, ti4, ti35, ti105, ti48, ti23, ti69, ti109, ti45, ti106, hlen, h14], by simp only [go_sem, ti3, ti9, ti77, ti4, ti35, ti105, ti48, ti23, ti69, ti109, ti45, ti106, hlen, h15], by simp only [go_sem, ti3, ti9, ti77, ti4, ti35, ti105, ti48, ti23, ti69, ti109, ti45, ti106, hlen, h16], by simp only [go_sem, ti3, ti9, ti77, ti4, ti35, ti105, ti48, ti23, ti69, ti109, ti45, ti106, hlen, h6], by simp only [go_sem, ti3, ti9, ti77, ti4, ti35, ti105, ti48, ti23, ti69, ti109, ti45, ti106, hlen, h8], by simp only [go_sem, ti3, ti9, ti77, ti4, ti35, ti105, ti48, ti23, ti69, ti109, ti45, ti106, hlen, h9], by simp only [go_sem, ti3, ti9, ti77, ti4, ti35, ti105, ti48, ti23, ti69, ti109, ti45, ti106, hlen, h0], by simp only [go_sem, ti3, ti9, ti77, ti4, ti35, ti105, ti48, ti23, ti69, ti109, ti45, ti106, hlen, h0, hlx], by simp only [go_sem, ti3, ti9, ti77, ti4, ti35, ti105, ti48, ti23, ti69, ti109, ti45, ti106, hlen]; rfl, hN.adv, by simp only [St.nx_adv]; omega⟩
          · clear hlen h0 h14 h15 h16 h6 h8 h9 hN hnx e s1
            rintro ⟨e, ds, s1⟩ ⟨rfl, hlen, h0, h14, h15, h16, h6, h8, h9, hN, hnx⟩
            simp only at hlen h0 h14 h15 h16 h6 h8 h9 hN hnx
            have g8 : s1.get k8 = some (.cells [.p (pI c.f), .p (.fnc c.g), .p (.fnc c.w)] false) := by
              rcases hN with ⟨_, _, h3⟩ | ⟨k9, _, h3⟩
              · exact h3.at_ (k8, _) (by simp)
              · exact h3.at_ (k8, _) (by simp)
            obtain ⟨s2, hp1, ho2, hn2⟩ := (hN.adv (n := 9)).pur
            have hp2 : purVs (s1.adv 9) [.c (.p (pI c.f)), .c c9] = some ([.c (.p (pI c.f)), .c (.p (.lst (l.map c.get).length ((l.map c.get).map pI)))], s2) := purVs_pc hp1
            refine Wc.seq ?_
            refine Wc.reg fun K hK => ?_; simp only [go_sem, ti3, ti9, ti77, ti4, ti35, ti105, ti48, ti23, ti69, ti109, ti45, ti106, hlen, h0, h14, h15, h16, h6, h8, h9, g8]
            refine wpCall.pf (pf56 c.f (l.map c.get) (by simpa using hl)) (by kernel_rfl) (by kernel_rfl) rfl hp2 ?_
            simp only [go_sem, ti3, ti9, ti77, ti4, ti35, ti105, ti48, ti23, ti69, ti109, ti45, ti106, hlen, h0, h14, h15, h16, h6, h8, h9, g8]; refine hK _ _ ?_; clear hK K
            refine Wc.seq (Wc.seq ?_)
            refine Wc.reg fun K hK => ?_; simp only [go_sem, ti3, ti9, ti77, ti4, ti35, ti105, ti48, ti23, ti69, ti109, ti45, ti106, hlen, h0, h14, h15, h16, h6, h8, h9]; refine hK _ _ ?_; clear hK K
            refine Wc.cond (t := ((encF c.f (l.map c.get)).2 != 0)) (by simp only [go_sem, ti3, ti9, ti77, ti4, ti35, ti105, ti48, ti23, ti69, ti109, ti45, ti106, hlen]) (fun hc => ?_) (fun hc => ?_)
            · have hne : ¬ (encF c.f (l.map c.get)).2 = 0 := by simpa using hc
              rw [hpd, if_neg hne] at hp
              refine Wc.seq ?_
              refine Wc.reg fun K hK => ?_; simp only [go_sem, ti3, ti9, ti77, ti4, ti35, ti105, ti48, ti23, ti69, ti109, ti45, ti106, hlen]; refine hK _ _ ?_; clear hK K
              refine Wc.ret (Op.ret [.tmp 4, .tmp 5] [.c .nils, .c (.p (.bool false))] rfl rfl (by simp only [resultsD, go_sem, ti3, ti9, ti77, ti4, ti35, ti105, ti48, ti23, ti69, ti109, ti45, ti106, hlen]) (hK0 hp _ ?_ ?_))
              · exact (OA.sub (L := (1, .v (.c c6), ss.length, ss.map .str) :: L) (M := _ :: M) (ho2.mono (by simp only [St.nx_adv]; omega)) (List.sublist_cons_self _ _) (List.sublist_cons_self _ _)).adv.adv
              · simp only [St.nx_adv, hn2]; omega
            · have he : (encF c.f (l.map c.get)).2 = 0 := by simpa using hc
              rw [hpd, if_pos he] at hp
              refine Wc.skip ?_
              refine Wc.reg fun K hK => ?_; simp only [go_sem, ti3, ti9, ti77, ti4, ti35, ti105, ti48, ti23, ti69, ti109, ti45, ti106, hlen, h0, h14, h15, h16, h6, h8, h9]
              have ho3 := OA.sub (M := _ :: M) (M1 := M) (ho2.adv (n := 2) |>.mono (b' := s2.nx) (Nat.le_refl _)) (List.Sublist.refl _) (List.sublist_cons_self _ _)
              refine OA.app (L1 := []) (L2 := L) (by_ := 16) (n := ss.length) (m := 1) (ys := [.str (encF c.f (l.map c.get)).1]) (OA.put (ho3.adv (n := 5)) (k := s2.nx + 4) (by omega)) (by omega) ⟨_, ti48, rfl⟩ ti9 rfl rfl rfl (by decide) (by decide) (by simp only [go_sem, ti3, ti9, ti77, ti4, ti35, ti105, ti48, ti23, ti69, ti109, ti45, ti106]) rfl (by omega) fun b' s' hb' hnx' => ?_
              obtain ⟨cb, rfl⟩ := (hb'.own (1, b', ss.length + 1, _) (List.mem_cons_self ..)).v
              simp only [go_sem, ti3, ti9, ti77, ti4, ti35, ti105, ti48, ti23, ti69, ti109, ti45, ti106, hlen, h0, h14, h15, h16, h6, h8, h9]; refine hK _ _ ?_; clear hK K
              refine Wc.reg fun K hK => ?_; simp only [go_sem, ti3, ti9, ti77, ti4, ti35, ti105, ti48, ti23, ti69, ti109, ti45, ti106, hlen, h0, h14, h15, h16, h6, h8, h9, i64n i (by omega)]; refine hK _ _ ?_; clear hK K
              refine ⟨cols.length - (i + 1), by omega, i + 1, ss ++ [(encF c.f (l.map c.get)).1], cb, rfl, by omega, rfl, by simp only [go_sem, ti3, ti9, ti77, ti4, ti35, ti105, ti48, ti23, ti69, ti109, ti45, ti106, hlen], by simp only [go_sem, ti3, ti9, ti77, ti4, ti35, ti105, ti48, ti23, ti69, ti109, ti45, ti106, hlen, h0], by simp only [go_sem, ti3, ti9, ti77, ti4, ti35, ti105, ti48, ti23, ti69, ti109, ti45, ti106, hlen, h14], by simp only [go_sem, ti3, ti9, ti77, ti4, ti35, ti105, ti48, ti23, ti69, ti109, ti45, ti106, hlen, h15], by simp only [go_sem, ti3, ti9, ti77, ti4, ti35, ti105, ti48, ti23, ti69, ti109, ti45, ti106, hlen], by simp only [go_sem, ti3, ti9, ti77, ti4, ti35, ti105, ti48, ti23, ti69, ti109, ti45, ti106, hlen], ?_, ?_, by simp [hsl], ?_⟩
              · have h6 := (hb'.mono (b' := s'.nx) (by rw [hnx']; simp only [St.nx_put, St.nx_adv]; omega)).adv (n := 2)
                simpa only [List.length_append, List.length_cons, List.length_nil, List.map_append, List.map_cons, List.map_nil, List.nil_append, St.nx_adv] using h6.mono (Nat.le_add_right _ 2)
              · simp only [St.nx_adv, hnx', St.nx_put, hn2]; omega
              · rw [hp]
                cases packE l (cols.drop (i + 1)) <;> simp
    · have hil : i = cols.length := by have : ¬ (i : Int) < cols.length := by simpa using hc
                                       omega
      subst hil
      rw [List.drop_length] at hp
      simp only [packE, Option.map_some, List.append_nil] at hp
      refine Wc.exit (Wc.seq ?_)
      refine Wc.reg fun K hK => ?_; simp only [go_sem, ti3, ti9, ti77, ti4, ti35, ti105, ti48, ti23, ti69, ti109, ti45, ti106, hlen, h0, h14, h15, h16, h6]; refine hK _ _ ?_; clear hK K
      refine Wc.ret (Op.ret [.tmp 4, .tmp 5] [.c c6, .c (.p (.bool true))] rfl rfl (by simp only [resultsD, go_sem, ti3, ti9, ti77, ti4, ti35, ti105, ti48, ti23, ti69, ti109, ti45, ti106, hlen]) (hK1 ss hp c6 _ ?_ ?_))
      · exact ((ho.adv (n := 1)).adv (n := 3)).mono (by simp only [St.nx_adv]; omega)
      · simp only [St.nx_adv]; omega
  · exact ⟨0, [], .nils, rfl, by omega, rfl, rfl, rfl, rfl, rfl, rfl, rfl, OA.mono (((h.adv (n := 2)).adv (n := 1)).adv (n := 3)).nil (by simp only [St.nx_adv]; omega), by simp only [St.nx_adv]; omega, rfl, by simp⟩
end Go.Proofs.YtafaoldmemcigaaGreat.Ab
