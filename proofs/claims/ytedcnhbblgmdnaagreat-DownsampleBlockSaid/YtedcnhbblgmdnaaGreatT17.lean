/- A part of the proof. -/
import Derived.Test.YtedcnhbblgmdnaaGreatT16
import Derived.KernelRfl
namespace Go.Proofs.YtedcnhbblgmdnaaGreat.Ab
set_option maxHeartbeats 4000000
set_option maxRecDepth 10000
set_option linter.unusedSimpArgs false
set_option linter.unusedVariables false
def finE (sig : Int) (lab : Pd) (z : List Pd) (o : Option (List UInt8)) : D := match o with
 | none => .tup [noCh, .c (.p (pI 4))]
 | some d => .tup [chV sig lab z d, .c (.p (pI 0))]
theorem pf101 (sig : Int) (n : Nat) (cs : List Pd) (z0 z1 z2 z3 z4 z5 z6 z7 z8 z9 z10 z11 z12 : Pd) (t : List UInt8) (ss : List (List UInt8)) (ht : t.length ≤ 262144) (hs : ∀ s ∈ ss, s.length ≤ 35184372088832) (hl : ss.length < 2^40) :
  Pf E0 101 [.c (.p (pI sig)), .c (.p (.lst n cs)), .agg [.p z0, .p z1, .p z2, .p z3, .p z4, .p z5, .p z6, .p z7, .p z8, .p z9, .p z10, .p z11, .p z12], .c (.p (.str t)), .c (.p (.lst ss.length (ss.map .str)))] (finE sig (.lst n cs) [z0, z1, z2, z3, z4, z5, z6, z7, z8, z9, z10, z11, z12] (jn t ss)) := by
 refine Pf.body (fn := Tryz.f101) (by kernel_rfl) rfl ?_; simp only [List.map_cons, List.map_nil, List.cons_append, List.nil_append, List.length_cons, List.length_nil, Tryz.ntmps101, List.replicate, Nat.reduceSub, Nat.reduceAdd]
 refine gS fun K F => ?_; simp only [go_sem]; apply F; clear F K
 refine gS fun K F => ?_; simp only [go_sem]
 refine gP (pf178 t ss ht hs hl) (by kernel_rfl) (by kernel_rfl) rfl rfl ?_
 simp only [go_sem]; apply F; clear F K
 refine Wc.seq (Wc.seq ?_)
 refine gR fun K F => ?_; simp only [go_sem]; apply F; clear F K
 cases hj : jn t ss with
 | none =>
  refine Wc.cond (t := true) (by simp only [go_sem, Option.isSome]) (fun hc => ?_) (fun hc => by cases hc)
  refine gS fun K F => ?_; simp only [go_sem]; apply F; clear F K
  exact Wc.ret (Pf.ret [.cell 10 96, .tmp 11] [.agg ([.p (pI 0), .nils] ++ zz0.map .p ++ [.p (.str [])]), .c (.p (pI 4))] rfl rfl (by simp only [resultsD, go_sem]) rfl)
 | some d =>
  refine Wc.cond (t := false) (by simp only [go_sem, Option.isSome]) (fun hc => by cases hc) (fun hc => ?_)
  refine Wc.skip (Wc.seq ?_)
  refine gR fun K F => ?_; simp only [go_sem, Option.getD]; apply F; clear F K
  exact Wc.ret (Pf.ret [.cell 10 96, .tmp 11] [chV sig (.lst n cs) [z0, z1, z2, z3, z4, z5, z6, z7, z8, z9, z10, z11, z12] d, .c (.p (pI 0))] rfl rfl (by simp only [resultsD, go_sem]; rfl) rfl)
theorem Own.vs1 {s : St} {es n : Nat} {c : C} {cs : List Pd} (h : Own s es (.v (.c c)) n cs) (s' : St) : purVs s' [.c c] = some ([.c (.p (.lst n cs))], s') := by
 obtain ⟨h1, h2⟩ := h
 rcases h2 with ⟨h2, rfl⟩ | ⟨id, h2, _⟩
 ·cases h2
  have : cs = [] := List.length_eq_zero_iff.1 (by simpa using h1)
  subst this; rfl
 ·cases h2; rfl
theorem purVs_cp {s s' : St} {x y : Pd} {c : C} (h : purVs s [.c c] = some ([.c (.p y)], s')) : purVs s [.c c, .c (.p x)] = some ([.c (.p y), .c (.p x)], s') := by
 cases hc : purC s c with
 | none => simp [purVs, purV, hc] at h
 | some z =>
  simp only [purVs, purV, hc, Option.some.injEq, Prod.mk.injEq, List.cons.injEq, V.c.injEq, C.p.injEq, and_true] at h
  obtain ⟨h1, h2⟩ := h
  have h0 : purC s' (.p x) = some (x, s') := rfl
  simp only [purVs, purV, hc, h1, h2, h0]
theorem OA.perm {b : Nat} {s : St} {L L' : List (Nat × D × Nat × List Pd)} {M : List (Nat × Ob)} (h : OA b s L M) (hp : L.Perm L') : OA b s L' M :=
 ⟨h.free, fun y hy => h.own y (hp.mem_iff.2 hy), (hp.pairwise_iff (fun hxy id h1 h2 => hxy id h2 h1)).1 h.dis, h.at_, h.nof, h.dism⟩
theorem packE_len {A : Type} {l : List A} : ∀ {cols : List (Col A)} {ss : List (List UInt8)}, packE l cols = some ss → ss.length ≤ cols.length
 | [], ss, h => by simp only [packE, Option.some.injEq] at h; subst h; simp
 | c :: r, ss, h => by
  simp only [packE] at h
  split at h
  ·split at h
   ·rename_i ss' hs
    cases h
    have := packE_len hs
    simp only [List.length_cons]; omega
   ·cases h
  ·cases h
set_option maxHeartbeats 4000000
set_option maxRecDepth 10000
set_option linter.unusedSimpArgs false
set_option linter.unusedVariables false
def nb (c : Int) : Bool := decide (97 ≤ c ∧ c ≤ 122) || decide (65 ≤ c ∧ c ≤ 90) || decide (48 ≤ c ∧ c ≤ 57) || decide (c = 95)
theorem pf246 (c : Int) : Pf E0 246 [.c (.p (.int .u8 c))] (P' (.bool (nb c))) := by
 refine Pf.body (fn := Tryz.f246) (by kernel_rfl) rfl ?_; simp only [List.map_cons, List.map_nil, List.cons_append, List.nil_append, List.length_cons, List.length_nil, Tryz.ntmps246, List.replicate, Nat.reduceSub, Nat.reduceAdd]
 refine gS fun K F => ?_; simp only [go_sem]; apply F; clear F K
 refine Wc.seq ?_
 have hcs : (c < 48) ∨ (48 ≤ c ∧ c ≤ 57) ∨ (58 ≤ c ∧ c ≤ 64) ∨ (65 ≤ c ∧ c ≤ 90) ∨ (91 ≤ c ∧ c ≤ 96) ∨ (97 ≤ c ∧ c ≤ 122) ∨ (123 ≤ c) := by omega
 rcases hcs with hi | hi | hi | hi | hi | hi | hi
 ·
  have f0 : (97 ≤ c) = False := by simp only [eq_iff_iff, iff_false]; omega
  have f1 : (c ≤ 122) = True := by simp only [eq_iff_iff, iff_true]; omega
  have f2 : (65 ≤ c) = False := by simp only [eq_iff_iff, iff_false]; omega
  have f3 : (c ≤ 90) = True := by simp only [eq_iff_iff, iff_true]; omega
  have f4 : (48 ≤ c) = False := by simp only [eq_iff_iff, iff_false]; omega
  have f5 : (c ≤ 57) = True := by simp only [eq_iff_iff, iff_true]; omega
  have hb : (c == 95) = false := by simp; omega
  refine gR fun K F => ?_; simp only [go_sem, f0, f1, f2, f3, f4, f5, hb]; apply F; clear F K
  have e : nb c = false := by simp [nb]; omega
  rw [e]
  exact Wc.ret (Pf.ret [.tmp 2] [.c (.p (.bool false))] rfl rfl (by simp only [resultsD, go_sem, f0, f1, f2, f3, f4, f5, hb]) rfl)
 ·
  have f0 : (97 ≤ c) = False := by simp only [eq_iff_iff, iff_false]; omega
  have f1 : (c ≤ 122) = True := by simp only [eq_iff_iff, iff_true]; omega
  have f2 : (65 ≤ c) = False := by simp only [eq_iff_iff, iff_false]; omega
  have f3 : (c ≤ 90) = True := by simp only [eq_iff_iff, iff_true]; omega
  have f4 : (48 ≤ c) = True := by simp only [eq_iff_iff, iff_true]; omega
  have f5 : (c ≤ 57) = True := by simp only [eq_iff_iff, iff_true]; omega
  have hb : (c == 95) = false := by simp; omega
  refine gR fun K F => ?_; simp only [go_sem, f0, f1, f2, f3, f4, f5, hb]; apply F; clear F K
  have e : nb c = true := by simp [nb]; omega
  rw [e]
  exact Wc.ret (Pf.ret [.tmp 2] [.c (.p (.bool true))] rfl rfl (by simp only [resultsD, go_sem, f0, f1, f2, f3, f4, f5, hb]) rfl)
 ·
  have f0 : (97 ≤ c) = False := by simp only [eq_iff_iff, iff_false]; omega
  have f1 : (c ≤ 122) = True := by simp only [eq_iff_iff, iff_true]; omega
  have f2 : (65 ≤ c) = False := by simp only [eq_iff_iff, iff_false]; omega
  have f3 : (c ≤ 90) = True := by simp only [eq_iff_iff, iff_true]; omega
  have f4 : (48 ≤ c) = True := by simp only [eq_iff_iff, iff_true]; omega
  have f5 : (c ≤ 57) = False := by simp only [eq_iff_iff, iff_false]; omega
  have hb : (c == 95) = false := by simp; omega
  refine gR fun K F => ?_; simp only [go_sem, f0, f1, f2, f3, f4, f5, hb]; apply F; clear F K
  have e : nb c = false := by simp [nb]; omega
  rw [e]
  exact Wc.ret (Pf.ret [.tmp 2] [.c (.p (.bool false))] rfl rfl (by simp only [resultsD, go_sem, f0, f1, f2, f3, f4, f5, hb]) rfl)
 ·
  have f0 : (97 ≤ c) = False := by simp only [eq_iff_iff, iff_false]; omega
  have f1 : (c ≤ 122) = True := by simp only [eq_iff_iff, iff_true]; omega
  have f2 : (65 ≤ c) = True := by simp only [eq_iff_iff, iff_true]; omega
  have f3 : (c ≤ 90) = True := by simp only [eq_iff_iff, iff_true]; omega
  have f4 : (48 ≤ c) = True := by simp only [eq_iff_iff, iff_true]; omega
  have f5 : (c ≤ 57) = False := by simp only [eq_iff_iff, iff_false]; omega
  have hb : (c == 95) = false := by simp; omega
  refine gR fun K F => ?_; simp only [go_sem, f0, f1, f2, f3, f4, f5, hb]; apply F; clear F K
  have e : nb c = true := by simp [nb]; omega
  rw [e]
  exact Wc.ret (Pf.ret [.tmp 2] [.c (.p (.bool true))] rfl rfl (by simp only [resultsD, go_sem, f0, f1, f2, f3, f4, f5, hb]) rfl)
 ·
  have f0 : (97 ≤ c) = False := by simp only [eq_iff_iff, iff_false]; omega
  have f1 : (c ≤ 122) = True := by simp only [eq_iff_iff, iff_true]; omega
  have f2 : (65 ≤ c) = True := by simp only [eq_iff_iff, iff_true]; omega
  have f3 : (c ≤ 90) = False := by simp only [eq_iff_iff, iff_false]; omega
  have f4 : (48 ≤ c) = True := by simp only [eq_iff_iff, iff_true]; omega
  have f5 : (c ≤ 57) = False := by simp only [eq_iff_iff, iff_false]; omega
  by_cases h95 : c = 95
  ·have hb : (c == 95) = true := by simpa using h95
   refine gR fun K F => ?_; simp only [go_sem, f0, f1, f2, f3, f4, f5, hb]; apply F; clear F K
   have e : nb c = true := by simp [nb]; omega
   rw [e]
   exact Wc.ret (Pf.ret [.tmp 2] [.c (.p (.bool true))] rfl rfl (by simp only [resultsD, go_sem, f0, f1, f2, f3, f4, f5, hb]) rfl)
  ·have hb : (c == 95) = false := by simpa using h95
   refine gR fun K F => ?_; simp only [go_sem, f0, f1, f2, f3, f4, f5, hb]; apply F; clear F K
   have e : nb c = false := by simp [nb]; omega
   rw [e]
   exact Wc.ret (Pf.ret [.tmp 2] [.c (.p (.bool false))] rfl rfl (by simp only [resultsD, go_sem, f0, f1, f2, f3, f4, f5, hb]) rfl)
 ·
  have f0 : (97 ≤ c) = True := by simp only [eq_iff_iff, iff_true]; omega
  have f1 : (c ≤ 122) = True := by simp only [eq_iff_iff, iff_true]; omega
  have f2 : (65 ≤ c) = True := by simp only [eq_iff_iff, iff_true]; omega
  have f3 : (c ≤ 90) = False := by simp only [eq_iff_iff, iff_false]; omega
  have f4 : (48 ≤ c) = True := by simp only [eq_iff_iff, iff_true]; omega
  have f5 : (c ≤ 57) = False := by simp only [eq_iff_iff, iff_false]; omega
  have hb : (c == 95) = false := by simp; omega
  refine gR fun K F => ?_; simp only [go_sem, f0, f1, f2, f3, f4, f5, hb]; apply F; clear F K
  have e : nb c = true := by simp [nb]; omega
  rw [e]
  exact Wc.ret (Pf.ret [.tmp 2] [.c (.p (.bool true))] rfl rfl (by simp only [resultsD, go_sem, f0, f1, f2, f3, f4, f5, hb]) rfl)
 ·
  have f0 : (97 ≤ c) = True := by simp only [eq_iff_iff, iff_true]; omega
  have f1 : (c ≤ 122) = False := by simp only [eq_iff_iff, iff_false]; omega
  have f2 : (65 ≤ c) = True := by simp only [eq_iff_iff, iff_true]; omega
  have f3 : (c ≤ 90) = False := by simp only [eq_iff_iff, iff_false]; omega
  have f4 : (48 ≤ c) = True := by simp only [eq_iff_iff, iff_true]; omega
  have f5 : (c ≤ 57) = False := by simp only [eq_iff_iff, iff_false]; omega
  have hb : (c == 95) = false := by simp; omega
  refine gR fun K F => ?_; simp only [go_sem, f0, f1, f2, f3, f4, f5, hb]; apply F; clear F K
  have e : nb c = false := by simp [nb]; omega
  rw [e]
  exact Wc.ret (Pf.ret [.tmp 2] [.c (.p (.bool false))] rfl rfl (by simp only [resultsD, go_sem, f0, f1, f2, f3, f4, f5, hb]) rfl)
theorem pf220 (c : Int) : Pf E0 220 [.c (.p (.int .u8 c))] (P' (.bool (nb c))) := by
 refine Pf.body (fn := Tryz.f220) (by kernel_rfl) rfl ?_; simp only [List.map_cons, List.map_nil, List.cons_append, List.nil_append, List.length_cons, List.length_nil, Tryz.ntmps220, List.replicate, Nat.reduceSub, Nat.reduceAdd]
 refine gS fun K F => ?_; simp only [go_sem]; apply F; clear F K
 refine Wc.seq ?_
 have hcs : (c < 48) ∨ (48 ≤ c ∧ c ≤ 57) ∨ (58 ≤ c ∧ c ≤ 64) ∨ (65 ≤ c ∧ c ≤ 90) ∨ (91 ≤ c ∧ c ≤ 96) ∨ (97 ≤ c ∧ c ≤ 122) ∨ (123 ≤ c) := by omega
 rcases hcs with hi | hi | hi | hi | hi | hi | hi
 ·
  have f0 : (97 ≤ c) = False := by simp only [eq_iff_iff, iff_false]; omega
  have f1 : (c ≤ 122) = True := by simp only [eq_iff_iff, iff_true]; omega
  have f2 : (65 ≤ c) = False := by simp only [eq_iff_iff, iff_false]; omega
  have f3 : (c ≤ 90) = True := by simp only [eq_iff_iff, iff_true]; omega
  have f4 : (48 ≤ c) = False := by simp only [eq_iff_iff, iff_false]; omega
  have f5 : (c ≤ 57) = True := by simp only [eq_iff_iff, iff_true]; omega
  have hb : (c == 95) = false := by simp; omega
  refine gR fun K F => ?_; simp only [go_sem, f0, f1, f2, f3, f4, f5, hb]; apply F; clear F K
  have e : nb c = false := by simp [nb]; omega
  rw [e]
  exact Wc.ret (Pf.ret [.tmp 2] [.c (.p (.bool false))] rfl rfl (by simp only [resultsD, go_sem, f0, f1, f2, f3, f4, f5, hb]) rfl)
 ·
  have f0 : (97 ≤ c) = False := by simp only [eq_iff_iff, iff_false]; omega
  have f1 : (c ≤ 122) = True := by simp only [eq_iff_iff, iff_true]; omega
  have f2 : (65 ≤ c) = False := by simp only [eq_iff_iff, iff_false]; omega
  have f3 : (c ≤ 90) = True := by simp only [eq_iff_iff, iff_true]; omega
  have f4 : (48 ≤ c) = True := by simp only [eq_iff_iff, iff_true]; omega
  have f5 : (c ≤ 57) = True := by simp only [eq_iff_iff, iff_true]; omega
  have hb : (c == 95) = false := by simp; omega
  refine gR fun K F => ?_; simp only [go_sem, f0, f1, f2, f3, f4, f5, hb]; apply F; clear F K
  have e : nb c = true := by simp [nb]; omega
  rw [e]
  exact Wc.ret (Pf.ret [.tmp 2] [.c (.p (.bool true))] rfl rfl (by simp only [resultsD, go_sem, f0, f1, f2, f3, f4, f5, hb]) rfl)
 ·
  have f0 : (97 ≤ c) = False := by simp only [eq_iff_iff, iff_false]; omega
  have f1 : (c ≤ 122) = True := by simp only [eq_iff_iff, iff_true]; omega
  have f2 : (65 ≤ c) = False := by simp only [eq_iff_iff, iff_false]; omega
  have f3 : (c ≤ 90) = True := by simp only [eq_iff_iff, iff_true]; omega
  have f4 : (48 ≤ c) = True := by simp only [eq_iff_iff, iff_true]; omega
  have f5 : (c ≤ 57) = False := by simp only [eq_iff_iff, iff_false]; omega
  have hb : (c == 95) = false := by simp; omega
  refine gR fun K F => ?_; simp only [go_sem, f0, f1, f2, f3, f4, f5, hb]; apply F; clear F K
  have e : nb c = false := by simp [nb]; omega
  rw [e]
  exact Wc.ret (Pf.ret [.tmp 2] [.c (.p (.bool false))] rfl rfl (by simp only [resultsD, go_sem, f0, f1, f2, f3, f4, f5, hb]) rfl)
 ·
  have f0 : (97 ≤ c) = False := by simp only [eq_iff_iff, iff_false]; omega
  have f1 : (c ≤ 122) = True := by simp only [eq_iff_iff, iff_true]; omega
  have f2 : (65 ≤ c) = True := by simp only [eq_iff_iff, iff_true]; omega
  have f3 : (c ≤ 90) = True := by simp only [eq_iff_iff, iff_true]; omega
  have f4 : (48 ≤ c) = True := by simp only [eq_iff_iff, iff_true]; omega
  have f5 : (c ≤ 57) = False := by simp only [eq_iff_iff, iff_false]; omega
  have hb : (c == 95) = false := by simp; omega
  refine gR fun K F => ?_; simp only [go_sem, f0, f1, f2, f3, f4, f5, hb]; apply F; clear F K
  have e : nb c = true := by simp [nb]; omega
  rw [e]
  exact Wc.ret (Pf.ret [.tmp 2] [.c (.p (.bool true))] rfl rfl (by simp only [resultsD, go_sem, f0, f1, f2, f3, f4, f5, hb]) rfl)
 ·
  have f0 : (97 ≤ c) = False := by simp only [eq_iff_iff, iff_false]; omega
  have f1 : (c ≤ 122) = True := by simp only [eq_iff_iff, iff_true]; omega
  have f2 : (65 ≤ c) = True := by simp only [eq_iff_iff, iff_true]; omega
  have f3 : (c ≤ 90) = False := by simp only [eq_iff_iff, iff_false]; omega
  have f4 : (48 ≤ c) = True := by simp only [eq_iff_iff, iff_true]; omega
  have f5 : (c ≤ 57) = False := by simp only [eq_iff_iff, iff_false]; omega
  by_cases h95 : c = 95
  ·have hb : (c == 95) = true := by simpa using h95
   refine gR fun K F => ?_; simp only [go_sem, f0, f1, f2, f3, f4, f5, hb]; apply F; clear F K
   have e : nb c = true := by simp [nb]; omega
   rw [e]
   exact Wc.ret (Pf.ret [.tmp 2] [.c (.p (.bool true))] rfl rfl (by simp only [resultsD, go_sem, f0, f1, f2, f3, f4, f5, hb]) rfl)
  ·have hb : (c == 95) = false := by simpa using h95
   refine gR fun K F => ?_; simp only [go_sem, f0, f1, f2, f3, f4, f5, hb]; apply F; clear F K
   have e : nb c = false := by simp [nb]; omega
   rw [e]
   exact Wc.ret (Pf.ret [.tmp 2] [.c (.p (.bool false))] rfl rfl (by simp only [resultsD, go_sem, f0, f1, f2, f3, f4, f5, hb]) rfl)
 ·
  have f0 : (97 ≤ c) = True := by simp only [eq_iff_iff, iff_true]; omega
  have f1 : (c ≤ 122) = True := by simp only [eq_iff_iff, iff_true]; omega
  have f2 : (65 ≤ c) = True := by simp only [eq_iff_iff, iff_true]; omega
  have f3 : (c ≤ 90) = False := by simp only [eq_iff_iff, iff_false]; omega
  have f4 : (48 ≤ c) = True := by simp only [eq_iff_iff, iff_true]; omega
  have f5 : (c ≤ 57) = False := by simp only [eq_iff_iff, iff_false]; omega
  have hb : (c == 95) = false := by simp; omega
  refine gR fun K F => ?_; simp only [go_sem, f0, f1, f2, f3, f4, f5, hb]; apply F; clear F K
  have e : nb c = true := by simp [nb]; omega
  rw [e]
  exact Wc.ret (Pf.ret [.tmp 2] [.c (.p (.bool true))] rfl rfl (by simp only [resultsD, go_sem, f0, f1, f2, f3, f4, f5, hb]) rfl)
 ·
  have f0 : (97 ≤ c) = True := by simp only [eq_iff_iff, iff_true]; omega
  have f1 : (c ≤ 122) = False := by simp only [eq_iff_iff, iff_false]; omega
  have f2 : (65 ≤ c) = True := by simp only [eq_iff_iff, iff_true]; omega
  have f3 : (c ≤ 90) = False := by simp only [eq_iff_iff, iff_false]; omega
  have f4 : (48 ≤ c) = True := by simp only [eq_iff_iff, iff_true]; omega
  have f5 : (c ≤ 57) = False := by simp only [eq_iff_iff, iff_false]; omega
  have hb : (c == 95) = false := by simp; omega
  refine gR fun K F => ?_; simp only [go_sem, f0, f1, f2, f3, f4, f5, hb]; apply F; clear F K
  have e : nb c = false := by simp [nb]; omega
  rw [e]
  exact Wc.ret (Pf.ret [.tmp 2] [.c (.p (.bool false))] rfl rfl (by simp only [resultsD, go_sem, f0, f1, f2, f3, f4, f5, hb]) rfl)
def nbs (s : List UInt8) : Bool := s.all fun b => nb b.toNat
def digit (s : List UInt8) : Bool := match s with
 | [] => false
 | b :: _ => decide (48 ≤ b.toNat ∧ b.toNat ≤ 57)
def nameOK (s : List UInt8) : Bool := decide (1 ≤ s.length ∧ s.length ≤ 60) && !digit s && nbs s
theorem digit_at {s : List UInt8} {b : UInt8} (h : s[0]? = some b) : digit s = decide (48 ≤ b.toNat ∧ b.toNat ≤ 57) := by
 cases s with
 | nil => simp at h
 | cons a r => simp at h; subst h; rfl
theorem nbs_bad {s : List UInt8} {b : UInt8} {i : Nat} (h : s[i]? = some b) (hb : nb b.toNat = false) : nbs s = false := by
 rw [Bool.eq_false_iff]
 intro hs
 have := List.all_eq_true.1 hs b (List.mem_of_getElem? h)
 rw [hb] at this; cases this
theorem nbs_take {s : List UInt8} {b : UInt8} {i : Nat} (h : s[i]? = some b) (hb : nb b.toNat = true) (ht : nbs (s.take i) = true) : nbs (s.take (i + 1)) = true := by
 unfold nbs at *
 rw [take_snoc h, List.all_append, ht]; simp [hb]
theorem pf208 (s : List UInt8) : Pf E0 208 [.c (.p (.str s))] (P' (.bool (nameOK s))) := by
 refine Pf.body (fn := Tryz.f208) (by kernel_rfl) rfl ?_; simp only [List.map_cons, List.map_nil, List.cons_append, List.nil_append, List.length_cons, List.length_nil, Tryz.ntmps208, List.replicate, Nat.reduceSub, Nat.reduceAdd]
 refine gS fun K F => ?_; simp only [go_sem]; apply F; clear F K
 refine Wc.seqR (fun y => (1 ≤ s.length ∧ s.length ≤ 60 ∧ digit s = false) ∧ y.ds = [] ∧ y.e.length = 33 ∧ y.e.getD 0 .junk = P' (.str s)) ?_ ?_
 ·have bad : ¬ (1 ≤ s.length ∧ s.length ≤ 60 ∧ digit s = false) → nameOK s = false := fun h => by
   unfold nameOK
   rw [Bool.and_eq_false_iff, Bool.and_eq_false_iff, decide_eq_false_iff_not]
   by_cases h1 : 1 ≤ s.length ∧ s.length ≤ 60
   ·cases hd : digit s with
    | true => exact .inl (.inr rfl)
    | false => exact absurd ⟨h1.1, h1.2, hd⟩ h
   ·exact .inl (.inl h1)
  refine Wc.seq ?_
  by_cases h1 : s.length < 1
  ·have f1 : ((s.length : Int) < 1) = True := by simp only [eq_iff_iff, iff_true]; omega
   refine gR fun K F => ?_; simp only [go_sem, f1]; apply F; clear F K
   refine gT (by simp only [go_sem, f1]) ?_
   refine gS fun K F => ?_; simp only [go_sem]; apply F; clear F K
   rw [bad (by omega)]
   exact Wc.ret (Pf.ret [.tmp 2] [.c (.p (.bool false))] rfl rfl (by simp only [resultsD, go_sem]) rfl)
  have f1 : ((s.length : Int) < 1) = False := by simp only [eq_iff_iff, iff_false]; omega
  by_cases h2 : 60 < s.length
  ·have f2 : (60 < (s.length : Int)) = True := by simp only [eq_iff_iff, iff_true]; omega
   refine gR fun K F => ?_; simp only [go_sem, f1, f2]; apply F; clear F K
   refine gT (by simp only [go_sem, f1, f2]) ?_
   refine gS fun K F => ?_; simp only [go_sem]; apply F; clear F K
   rw [bad (by omega)]
   exact Wc.ret (Pf.ret [.tmp 2] [.c (.p (.bool false))] rfl rfl (by simp only [resultsD, go_sem]) rfl)
  have f2 : (60 < (s.length : Int)) = False := by simp only [eq_iff_iff, iff_false]; omega
  obtain ⟨b, hb⟩ : ∃ b, s[0]? = some b := ⟨s[0], List.getElem?_eq_getElem (by omega)⟩
  have hd := digit_at hb
  by_cases h3 : 48 ≤ b.toNat
  ·have f3 : ((48 : Int) ≤ (b.toNat : Int)) = True := by simp only [eq_iff_iff, iff_true]; omega
   refine gR fun K F => ?_; simp only [go_sem, f1, f2, f3, hb, pdOfByte]; apply F; clear F K
   refine Wc.cond (t := decide ((b.toNat : Int) ≤ 57)) (by simp only [go_sem, f1, f2, f3]) (fun hc => ?_) (fun hc => ?_)
   ·have h4 : (b.toNat : Int) ≤ 57 := by simpa using hc
    refine gS fun K F => ?_; simp only [go_sem]; apply F; clear F K
    rw [bad (by rw [hd]; simp; omega)]
    exact Wc.ret (Pf.ret [.tmp 2] [.c (.p (.bool false))] rfl rfl (by simp only [resultsD, go_sem]) rfl)
   ·have h4 : ¬ (b.toNat : Int) ≤ 57 := by simpa using hc
    exact Wc.skip ⟨⟨by omega, by omega, by rw [hd]; simp; omega⟩, rfl, rfl, rfl⟩
  ·have f3 : ((48 : Int) ≤ (b.toNat : Int)) = False := by simp only [eq_iff_iff, iff_false]; omega
   refine gR fun K F => ?_; simp only [go_sem, f1, f2, f3, hb, pdOfByte]; apply F; clear F K
   refine gX (by simp only [go_sem, f1, f2, f3]) ?_
   exact Wc.skip ⟨⟨by omega, by omega, by rw [hd]; simp; omega⟩, rfl, rfl, rfl⟩
 ·rintro ⟨e, ds, s1⟩ ⟨⟨h1, h2, h3⟩, rfl, hlen, h0⟩
  simp only at hlen h0
  have e0 : nameOK s = nbs s := by unfold nameOK; rw [h3]; simp [h1, h2]
  rw [e0]
  refine Wc.seq (Wc.seq ?_)
  refine gR fun K F => ?_; simp only [go_sem, hlen, h0, nZ]; apply F; clear F K
  refine Wc.block (Wc.loop (fun k y => ∃ i : Nat, k = s.length - i ∧ i ≤ s.length ∧ y.ds = [] ∧ y.e.length = 33 ∧ y.e.getD 0 .junk = P' (.str s) ∧ y.e.getD 3 .junk = P' (pI i) ∧ nbs (s.take i) = true) ?_ (k := s.length) ?_)
  ·clear hlen h0 e s1
   rintro k ⟨e, ds, s1⟩ ⟨i, rfl, hi, rfl, hlen, h0, h3, hn⟩
   simp only at hlen h0 h3
   refine Wc.seq (Wc.seq ?_)
   refine gR fun K F => ?_; simp only [go_sem, hlen, h0, h3]; apply F; clear F K
   refine Wc.cond (t := decide ((i : Int) < s.length)) (by simp only [go_sem, hlen]) (fun hc => ?_) (fun hc => ?_)
   ·have hil : i < s.length := by have : (i : Int) < s.length := by simpa using hc
                                  omega
    obtain ⟨b, hb⟩ : ∃ b, s[i]? = some b := ⟨s[i], List.getElem?_eq_getElem hil⟩
    refine Wc.skip (Wc.seq (Wc.block (Wc.seq ?_)))
    refine gR fun K F => ?_; simp only [go_sem, hlen, h0, h3, hb, pdOfByte]
    refine gP (pf246 b.toNat) (by kernel_rfl) (by kernel_rfl) rfl rfl ?_
    simp only [go_sem, hlen, h0, h3]; apply F; clear F K
    refine Wc.cond (t := !(nb b.toNat)) (by simp only [go_sem, hlen]) (fun hc => ?_) (fun hc => ?_)
    ·have hbf : nb b.toNat = false := by simpa using hc
     refine gS fun K F => ?_; simp only [go_sem, hlen]; apply F; clear F K
     rw [nbs_bad hb hbf]
     exact Wc.ret (Pf.ret [.tmp 2] [.c (.p (.bool false))] rfl rfl (by simp only [resultsD, go_sem, hlen]) rfl)
    ·have hbt : nb b.toNat = true := by simpa using hc
     refine Wc.skip ?_
     refine gR fun K F => ?_; simp only [go_sem, hlen, h0, h3, i64n i (by omega)]; apply F; clear F K
     exact ⟨s.length - (i + 1), by omega, i + 1, rfl, by omega, rfl, by simp only [go_sem, hlen], by simp only [go_sem, hlen, h0], by simp only [go_sem, hlen], nbs_take hb hbt hn⟩
   ·have hil : i = s.length := by have : ¬ (i : Int) < s.length := by simpa using hc
                                  omega
    subst hil
    rw [List.take_length] at hn
    refine Wc.exit (Wc.seq ?_)
    refine gR fun K F => ?_; simp only [go_sem, hlen]; apply F; clear F K
    rw [hn]
    exact Wc.ret (Pf.ret [.tmp 2] [.c (.p (.bool true))] rfl rfl (by simp only [resultsD, go_sem, hlen]) rfl)
  ·exact ⟨0, rfl, by omega, rfl, by simp only [go_sem, hlen], by simp only [go_sem, hlen, h0], by simp only [go_sem, hlen]; rfl, rfl⟩
theorem pf149 (s : List UInt8) (hs : s.length < 2^60) : Pf E0 149 [.c (.p (.str s))] (P' (.bool (nameOK s))) := by
 refine Pf.body (fn := Tryz.f149) (by kernel_rfl) rfl ?_; simp only [List.map_cons, List.map_nil, List.cons_append, List.nil_append, List.length_cons, List.length_nil, Tryz.ntmps149, List.replicate, Nat.reduceSub, Nat.reduceAdd]
 refine gS fun K F => ?_; simp only [go_sem]; apply F; clear F K
 refine Wc.seqR (fun y => nbs s = true ∧ y.ds = [] ∧ y.e.length = 33 ∧ y.e.getD 0 .junk = P' (.str s)) ?_ ?_
 ·refine gS fun K F => ?_; simp only [go_sem, nZ]; apply F; clear F K
  refine Wc.block (Wc.loop (fun k y => ∃ i : Nat, k = s.length - i ∧ i ≤ s.length ∧ y.ds = [] ∧ y.e.length = 33 ∧ y.e.getD 0 .junk = P' (.str s) ∧ y.e.getD 3 .junk = P' (pI i) ∧ nbs (s.take i) = true) ?_ (k := s.length) ?_)
  ·rintro k ⟨e, ds, s1⟩ ⟨i, rfl, hi, rfl, hlen, h0, h3, hn⟩
   simp only at hlen h0 h3
   refine Wc.seq (Wc.seq ?_)
   refine gR fun K F => ?_; simp only [go_sem, hlen, h0, h3]; apply F; clear F K
   refine Wc.cond (t := decide ((i : Int) < s.length)) (by simp only [go_sem, hlen]) (fun hc => ?_) (fun hc => ?_)
   ·have hil : i < s.length := by have : (i : Int) < s.length := by simpa using hc
                                  omega
    obtain ⟨b, hb⟩ : ∃ b, s[i]? = some b := ⟨s[i], List.getElem?_eq_getElem hil⟩
    refine Wc.skip (Wc.seq (Wc.block (Wc.seq ?_)))
    refine gR fun K F => ?_; simp only [go_sem, hlen, h0, h3, hb, pdOfByte]
    refine gP (pf220 b.toNat) (by kernel_rfl) (by kernel_rfl) rfl rfl ?_
    simp only [go_sem, hlen, h0, h3]; apply F; clear F K
    refine Wc.cond (t := !(nb b.toNat)) (by simp only [go_sem, hlen]) (fun hc => ?_) (fun hc => ?_)
    ·have hbf : nb b.toNat = false := by simpa using hc
     refine gS fun K F => ?_; simp only [go_sem, hlen]; apply F; clear F K
     have e : nameOK s = false := by unfold nameOK; rw [nbs_bad hb hbf]; simp
     rw [e]
     exact Wc.ret (Pf.ret [.tmp 2] [.c (.p (.bool false))] rfl rfl (by simp only [resultsD, go_sem, hlen]) rfl)
    ·have hbt : nb b.toNat = true := by simpa using hc
     refine Wc.skip ?_
     refine gR fun K F => ?_; simp only [go_sem, hlen, h0, h3, i64n i (by omega)]; apply F; clear F K
     exact ⟨s.length - (i + 1), by omega, i + 1, rfl, by omega, rfl, by simp only [go_sem, hlen], by simp only [go_sem, hlen, h0], by simp only [go_sem, hlen], nbs_take hb hbt hn⟩
   ·have hil : i = s.length := by have : ¬ (i : Int) < s.length := by simpa using hc
                                  omega
    subst hil
    rw [List.take_length] at hn
    exact Wc.exit ⟨hn, rfl, by simp only [go_sem, hlen], by simp only [go_sem, hlen, h0]⟩
  ·exact ⟨0, rfl, by omega, rfl, rfl, rfl, rfl, rfl⟩
 ·rintro ⟨e, ds, s1⟩ ⟨hn, rfl, hlen, h0⟩
  simp only at hlen h0
  have e0 : nameOK s = (decide (1 ≤ s.length ∧ s.length ≤ 60) && !digit s) := by unfold nameOK; rw [hn]; simp
  rw [e0]
  refine Wc.seq ?_
  by_cases h1 : s.length < 1
  ·have f1 : (0 < (s.length : Int)) = False := by simp only [eq_iff_iff, iff_false]; omega
   refine gR fun K F => ?_; simp only [go_sem, hlen, h0, f1]; apply F; clear F K
   rw [show (decide (1 ≤ s.length ∧ s.length ≤ 60) && !digit s) = false by simp; omega]
   exact Wc.ret (Pf.ret [.tmp 2] [.c (.p (.bool false))] rfl rfl (by simp only [resultsD, go_sem, hlen, f1]) rfl)
  have f1 : (0 < (s.length : Int)) = True := by simp only [eq_iff_iff, iff_true]; omega
  by_cases h2 : 60 < s.length
  ·have f2 : ((s.length : Int) ≤ 60) = False := by simp only [eq_iff_iff, iff_false]; omega
   refine gR fun K F => ?_; simp only [go_sem, hlen, h0, f1, f2]; apply F; clear F K
   rw [show (decide (1 ≤ s.length ∧ s.length ≤ 60) && !digit s) = false by simp; omega]
   exact Wc.ret (Pf.ret [.tmp 2] [.c (.p (.bool false))] rfl rfl (by simp only [resultsD, go_sem, hlen, f1, f2]) rfl)
  have f2 : ((s.length : Int) ≤ 60) = True := by simp only [eq_iff_iff, iff_true]; omega
  obtain ⟨b, hb⟩ : ∃ b, s[0]? = some b := ⟨s[0], List.getElem?_eq_getElem (by omega)⟩
  have hd := digit_at hb
  have e1 : (decide (1 ≤ s.length ∧ s.length ≤ 60) && !digit s) = !decide (48 ≤ b.toNat ∧ b.toNat ≤ 57) := by rw [hd, decide_eq_true (by omega), Bool.true_and]
  rw [e1]
  by_cases h3 : b.toNat < 48
  ·have f3 : ((b.toNat : Int) < 48) = True := by simp only [eq_iff_iff, iff_true]; omega
   refine gR fun K F => ?_; simp only [go_sem, hlen, h0, f1, f2, f3, hb, pdOfByte]; apply F; clear F K
   rw [show (!decide (48 ≤ b.toNat ∧ b.toNat ≤ 57)) = true by simp; omega]
   exact Wc.ret (Pf.ret [.tmp 2] [.c (.p (.bool true))] rfl rfl (by simp only [resultsD, go_sem, hlen, f1, f2, f3]) rfl)
  ·have f3 : ((b.toNat : Int) < 48) = False := by simp only [eq_iff_iff, iff_false]; omega
   refine gR fun K F => ?_; simp only [go_sem, hlen, h0, f1, f2, f3, hb, pdOfByte]; apply F; clear F K
   rw [show (!decide (48 ≤ b.toNat ∧ b.toNat ≤ 57)) = decide ((57 : Int) < b.toNat) by rw [Bool.eq_iff_iff]; simp; omega]
   exact Wc.ret (Pf.ret [.tmp 2] [.c (.p (.bool (decide ((57 : Int) < b.toNat))))] rfl rfl (by simp only [resultsD, go_sem, hlen, f1, f2, f3]) rfl)
set_option maxHeartbeats 4000000
set_option maxRecDepth 10000
set_option linter.unusedSimpArgs false
set_option linter.unusedVariables false
abbrev Lb := List UInt8 × List UInt8
abbrev lbP (x : Lb) : List Pd := [.str x.1, .str x.2]
def leB (x y : List UInt8) : Bool := Op.bytesLess x y || x == y
def lck : Option (List UInt8) → List Lb → Int
 | _, [] => 0
 | p, x :: r => if nameOK x.1 = false then 5 else if x.2 = [] then 1 else if 200 < x.2.length then 4 else match p with
  | some y => if leB x.1 y = true then 9 else lck (some x.1) r
  | none => lck (some x.1) r
def lckA (l : List Lb) : Int := if 16 < l.length then 4 else lck none l
def prevL (l : List Lb) (i : Nat) : Option (List UInt8) := if i = 0 then none else (l[i - 1]?).map (·.1)
theorem lck_step {l : List Lb} {i : Nat} {x : Lb} (h : l[i]? = some x) : lck (prevL l i) (l.drop i) = if nameOK x.1 = false then 5 else if x.2 = [] then 1 else if 200 < x.2.length then 4 else match prevL l i with
  | some y => if leB x.1 y = true then 9 else lck (prevL l (i + 1)) (l.drop (i + 1))
  | none => lck (prevL l (i + 1)) (l.drop (i + 1)) := by
 have hi := (List.getElem?_eq_some_iff.1 h).1
 have hx := (List.getElem?_eq_some_iff.1 h).2
 have hp : prevL l (i + 1) = some x.1 := by simp [prevL, h]
 rw [List.drop_eq_getElem_cons hi, hx, hp]
 cases prevL l i <;> rfl
theorem lck_end (p : Option (List UInt8)) : lck p [] = 0 := by cases p <;> rfl
theorem pf134 (l : List Lb) (hl : l.length < 2^40) (hs : ∀ x ∈ l, x.1.length < 2^50 ∧ x.2.length < 2^50) : Pf E0 134 [.c (.p (.lst l.length (l.flatMap lbP)))] (P' (pI (lckA l))) := by
 have hfl : (l.flatMap lbP).length = l.length * 2 := flat_len (k := 2) (fun _ => rfl) l
 refine Pf.body (fn := Tryz.f134) (by kernel_rfl) rfl ?_; simp only [List.map_cons, List.map_nil, List.cons_append, List.nil_append, List.length_cons, List.length_nil, Tryz.ntmps134, List.replicate, Nat.reduceSub, Nat.reduceAdd]
 refine gS fun K F => ?_; simp only [go_sem]; apply F; clear F K
 refine Wc.seq (Wc.seq ?_)
 refine gR fun K F => ?_; simp only [go_sem]; apply F; clear F K
 refine Wc.cond (t := decide ((16 : Int) < l.length)) (by simp only [go_sem]) (fun hc => ?_) (fun hc => ?_)
 ·have hc' : 16 < l.length := by have : (16 : Int) < l.length := by simpa using hc
                                 omega
  refine gS fun K F => ?_; simp only [go_sem]; apply F; clear F K
  have e : lckA l = 4 := by unfold lckA; rw [if_pos hc']
  rw [e]
  exact Wc.ret (Pf.ret [.tmp 2] [.c (.p (pI 4))] rfl rfl (by simp only [resultsD, go_sem]) rfl)
 have hc' : ¬ 16 < l.length := by have : ¬ (16 : Int) < l.length := by simpa using hc
                                  omega
 have e0 : lckA l = lck (prevL l 0) (l.drop 0) := by unfold lckA; rw [if_neg hc']; rfl
 refine Wc.skip (Wc.seqR (fun y => lckA l = 0 ∧ y.ds = [] ∧ y.e.length = 44) ?_ ?_)
 ·refine gS fun K F => ?_; simp only [go_sem, nZ]; apply F; clear F K
  refine Wc.block (Wc.loop (fun k y => ∃ i : Nat, k = l.length - i ∧ i ≤ l.length ∧ y.ds = [] ∧ y.e.length = 44 ∧ y.e.getD 0 .junk = P' (.lst l.length (l.flatMap lbP)) ∧ y.e.getD 8 .junk = P' (.lst l.length (l.flatMap lbP)) ∧ y.e.getD 9 .junk = P' (pI l.length) ∧ y.e.getD 10 .junk = P' (pI i) ∧ lckA l = lck (prevL l i) (l.drop i)) ?_ (k := l.length) ?_)
  ·rintro k ⟨e, ds, s1⟩ ⟨i, rfl, hi, rfl, hlen, h0, h8, h9, h10, hch⟩
   simp only at hlen h0 h8 h9 h10
   refine gS fun K F => ?_; simp only [go_sem, hlen, h0, h8, h9, h10]; apply F; clear F K
   refine Wc.seq (Wc.cond (t := decide ((i : Int) < l.length)) (by simp only [go_sem, hlen]) (fun hc => ?_) (fun hc => ?_))
   ·have hil : i < l.length := by have : (i : Int) < l.length := by simpa using hc
                                  omega
    obtain ⟨x, hx⟩ : ∃ x, l[i]? = some x := ⟨l[i], List.getElem?_eq_getElem hil⟩
    have hxs := hs x (List.mem_of_getElem? hx)
    have hix := ixA ti22 rfl ti117 (j := i) (m := l.length) (cs := l.flatMap lbP) hil hfl (by decide)
    have hca := rpA (off := i * 2) (drop_flat (f := lbP) (k := 2) (fun _ => rfl) hx) (by rw [hfl]; omega)
    rw [lck_step hx] at hch
    refine Wc.skip (Wc.seq (Wc.block (Wc.seq ?_)))
    refine gR fun K F => ?_; simp only [go_sem, hlen, h0, h8, h9, h10, hix, hca]; apply F; clear F K
    refine Wc.block (Wc.seq ?_)
    refine gR fun K F => ?_; simp only [go_sem, hlen, h0, h8, h9, h10]
    refine gP (pf208 x.1) (by kernel_rfl) (by kernel_rfl) rfl rfl ?_
    simp only [go_sem, hlen, h0, h8, h9, h10]; apply F; clear F K
    refine Wc.cond (t := !(nameOK x.1)) (by simp only [go_sem, hlen]) (fun hc => ?_) (fun hc => ?_)
    ·have hn : nameOK x.1 = false := by simpa using hc
     rw [if_pos hn] at hch
     refine gS fun K F => ?_; simp only [go_sem, hlen]; apply F; clear F K
     rw [hch]
     exact Wc.ret (Pf.ret [.tmp 2] [.c (.p (pI 5))] rfl rfl (by simp only [resultsD, go_sem, hlen]) rfl)
    have hn : ¬ nameOK x.1 = false := by simpa using hc
    rw [if_neg hn] at hch
    refine gS fun K F => ?_; simp only [go_sem, hlen, h0, h8, h9, h10]; apply F; clear F K
    refine Wc.cond (t := (x.2 == [])) (by simp only [go_sem, hlen]) (fun hc => ?_) (fun hc => ?_)
    ·have hv : x.2 = [] := by simpa using hc
     rw [if_pos hv] at hch
     refine gS fun K F => ?_; simp only [go_sem, hlen]; apply F; clear F K
     rw [hch]
     exact Wc.ret (Pf.ret [.tmp 2] [.c (.p (pI 1))] rfl rfl (by simp only [resultsD, go_sem, hlen]) rfl)
    have hv : ¬ x.2 = [] := by simpa using hc
    rw [if_neg hv] at hch
    refine gS fun K F => ?_; simp only [go_sem, hlen, h0, h8, h9, h10]; apply F; clear F K
    refine Wc.cond (t := decide ((200 : Int) < x.2.length)) (by simp only [go_sem, hlen]) (fun hc => ?_) (fun hc => ?_)
    ·have hv2 : 200 < x.2.length := by have : (200 : Int) < x.2.length := by simpa using hc
                                       omega
     rw [if_pos hv2] at hch
     refine gS fun K F => ?_; simp only [go_sem, hlen]; apply F; clear F K
     rw [hch]
     exact Wc.ret (Pf.ret [.tmp 2] [.c (.p (pI 4))] rfl rfl (by simp only [resultsD, go_sem, hlen]) rfl)
    have hv2 : ¬ 200 < x.2.length := by have : ¬ (200 : Int) < x.2.length := by simpa using hc
                                        omega
    rw [if_neg hv2] at hch
    refine Wc.seq ?_
    by_cases hi0 : 0 < i
    ·obtain ⟨y, hy⟩ : ∃ y, l[i - 1]? = some y := ⟨l[i - 1], List.getElem?_eq_getElem (by omega)⟩
     have hiy := ixA ti22 rfl ti117 (j := i - 1) (m := l.length) (cs := l.flatMap lbP) (by omega) hfl (by decide)
     have hcb := rpA (off := (i - 1) * 2) (drop_flat (f := lbP) (k := 2) (fun _ => rfl) hy) (by rw [hfl]; omega)
     have e1 : IntKind.i64.wrap ((i : Int) - 1) = ((i - 1 : Nat) : Int) := by rw [wi64]; omega
     have hd : (0 < (i : Int)) = True := by simp; omega
     have hpr : prevL l i = some y.1 := by unfold prevL; rw [if_neg (by omega), hy]; rfl
     rw [hpr] at hch
     simp only at hch
     refine Wc.regD fun K F => ?_; simp only [go_sem, hlen, h0, h8, h9, h10, hiy, hcb, e1, hd]; apply F; clear F K
     refine Wc.cond (t := leB x.1 y.1) (by simp only [go_sem, hlen, hd]; rfl) (fun hc => ?_) (fun hc => ?_)
     ·rw [if_pos hc] at hch
      refine gS fun K F => ?_; simp only [go_sem, hlen]; apply F; clear F K
      rw [hch]
      exact Wc.ret (Pf.ret [.tmp 2] [.c (.p (pI 9))] rfl rfl (by simp only [resultsD, go_sem, hlen]) rfl)
     ·rw [if_neg (by rw [hc]; decide)] at hch
      refine Wc.skip ?_
      refine gR fun K F => ?_; simp only [go_sem, hlen, h0, h8, h9, h10, i64n i (by omega)]; apply F; clear F K
      exact ⟨l.length - (i + 1), by omega, i + 1, rfl, by omega, rfl, by simp only [go_sem, hlen], by simp only [go_sem, hlen, h0], by simp only [go_sem, hlen, h8], by simp only [go_sem, hlen, h9], by simp only [go_sem, hlen], hch⟩
    ·have hd : (0 < (i : Int)) = False := by simp; omega
     have hpr : prevL l i = none := by unfold prevL; rw [if_pos (by omega)]
     rw [hpr] at hch
     simp only at hch
     refine Wc.regD fun K F => ?_; simp only [go_sem, hlen, h0, h8, h9, h10, hd]; apply F; clear F K
     refine Wc.cond (t := false) (by simp only [go_sem, hlen, hd]) (fun hc => by cases hc) (fun hc => ?_)
     refine Wc.skip ?_
     refine gR fun K F => ?_; simp only [go_sem, hlen, h0, h8, h9, h10, i64n i (by omega)]; apply F; clear F K
     exact ⟨l.length - (i + 1), by omega, i + 1, rfl, by omega, rfl, by simp only [go_sem, hlen], by simp only [go_sem, hlen, h0], by simp only [go_sem, hlen, h8], by simp only [go_sem, hlen, h9], by simp only [go_sem, hlen], hch⟩
   ·have hil : i = l.length := by have : ¬ (i : Int) < l.length := by simpa using hc
                                  omega
    rw [hil, List.drop_length, lck_end] at hch
    exact Wc.exit ⟨hch, rfl, by simp only [go_sem, hlen]⟩
  ·exact ⟨0, rfl, by omega, rfl, rfl, rfl, rfl, rfl, rfl, e0⟩
 ·rintro ⟨e, ds, s1⟩ ⟨hch, rfl, hlen⟩
  simp only at hlen
  rw [hch]
  refine gS fun K F => ?_; simp only [go_sem, hlen]; apply F; clear F K
  exact Wc.ret (Pf.ret [.tmp 2] [.c (.p (pI 0))] rfl rfl (by simp only [resultsD, go_sem, hlen]) rfl)
theorem pf92 (l : List Lb) (hl : l.length < 2^40) (hs : ∀ x ∈ l, x.1.length < 2^50 ∧ x.2.length < 2^50) : Pf E0 92 [.c (.p (.lst l.length (l.flatMap lbP)))] (P' (pI (lckA l))) := by
 have hfl : (l.flatMap lbP).length = l.length * 2 := flat_len (k := 2) (fun _ => rfl) l
 refine Pf.body (fn := Tryz.f92) (by kernel_rfl) rfl ?_; simp only [List.map_cons, List.map_nil, List.cons_append, List.nil_append, List.length_cons, List.length_nil, Tryz.ntmps92, List.replicate, Nat.reduceSub, Nat.reduceAdd]
 refine gS fun K F => ?_; simp only [go_sem]; apply F; clear F K
 refine Wc.seq (Wc.seq ?_)
 refine gR fun K F => ?_; simp only [go_sem]; apply F; clear F K
 refine Wc.cond (t := decide ((16 : Int) < l.length)) (by simp only [go_sem]) (fun hc => ?_) (fun hc => ?_)
 ·have hc' : 16 < l.length := by have : (16 : Int) < l.length := by simpa using hc
                                 omega
  refine gS fun K F => ?_; simp only [go_sem]; apply F; clear F K
  have e : lckA l = 4 := by unfold lckA; rw [if_pos hc']
  rw [e]
  exact Wc.ret (Pf.ret [.tmp 2] [.c (.p (pI 4))] rfl rfl (by simp only [resultsD, go_sem]) rfl)
 have hc' : ¬ 16 < l.length := by have : ¬ (16 : Int) < l.length := by simpa using hc
                                  omega
 have e0 : lckA l = lck (prevL l 0) (l.drop 0) := by unfold lckA; rw [if_neg hc']; rfl
 refine Wc.skip (Wc.seqR (fun y => lckA l = 0 ∧ y.ds = [] ∧ y.e.length = 49) ?_ ?_)
 ·refine gS fun K F => ?_; simp only [go_sem, nZ]; apply F; clear F K
  refine Wc.block (Wc.loop (fun k y => ∃ i : Nat, k = l.length - i ∧ i ≤ l.length ∧ y.ds = [] ∧ y.e.length = 49 ∧ y.e.getD 0 .junk = P' (.lst l.length (l.flatMap lbP)) ∧ y.e.getD 3 .junk = P' (pI i) ∧ lckA l = lck (prevL l i) (l.drop i)) ?_ (k := l.length) ?_)
  ·rintro k ⟨e, ds, s1⟩ ⟨i, rfl, hi, rfl, hlen, h0, h3, hch⟩
   simp only at hlen h0 h3
   refine Wc.seq (Wc.seq ?_)
   refine gR fun K F => ?_; simp only [go_sem, hlen, h0, h3]; apply F; clear F K
   refine Wc.cond (t := decide ((i : Int) < l.length)) (by simp only [go_sem, hlen]) (fun hc => ?_) (fun hc => ?_)
   ·have hil : i < l.length := by have : (i : Int) < l.length := by simpa using hc
                                  omega
    obtain ⟨x, hx⟩ : ∃ x, l[i]? = some x := ⟨l[i], List.getElem?_eq_getElem hil⟩
    have hxs := hs x (List.mem_of_getElem? hx)
    have hix := ixA ti22 rfl ti117 (j := i) (m := l.length) (cs := l.flatMap lbP) hil hfl (by decide)
    have hca := rpA (off := i * 2) (drop_flat (f := lbP) (k := 2) (fun _ => rfl) hx) (by rw [hfl]; omega)
    have hcc := rpA (off := i * 2 + 1) (cs := l.flatMap lbP) (pre := [.str x.2]) (rest := (l.drop (i + 1)).flatMap lbP) (by rw [← List.drop_drop, drop_flat (f := lbP) (k := 2) (fun _ => rfl) hx]; rfl) (by rw [hfl]; omega)
    rw [lck_step hx] at hch
    refine Wc.skip (Wc.seq (Wc.block (Wc.seq (Wc.seq ?_))))
    refine gR fun K F => ?_; simp only [go_sem, hlen, h0, h3, hix, hca]
    refine gP (pf149 x.1 (by omega)) (by kernel_rfl) (by kernel_rfl) rfl rfl ?_
    simp only [go_sem, hlen, h0, h3]; apply F; clear F K
    refine Wc.cond (t := !(nameOK x.1)) (by simp only [go_sem, hlen]) (fun hc => ?_) (fun hc => ?_)
    ·have hn : nameOK x.1 = false := by simpa using hc
     rw [if_pos hn] at hch
     refine gS fun K F => ?_; simp only [go_sem, hlen]; apply F; clear F K
     rw [hch]
     exact Wc.ret (Pf.ret [.tmp 2] [.c (.p (pI 5))] rfl rfl (by simp only [resultsD, go_sem, hlen]) rfl)
    have hn : ¬ nameOK x.1 = false := by simpa using hc
    rw [if_neg hn] at hch
    refine Wc.skip (Wc.seq (Wc.seq ?_))
    refine gR fun K F => ?_; simp only [go_sem, hlen, h0, h3, hix, hcc]; apply F; clear F K
    refine Wc.cond (t := (x.2 == [])) (by simp only [go_sem, hlen]) (fun hc => ?_) (fun hc => ?_)
    ·have hv : x.2 = [] := by simpa using hc
     rw [if_pos hv] at hch
     refine gS fun K F => ?_; simp only [go_sem, hlen]; apply F; clear F K
     rw [hch]
     exact Wc.ret (Pf.ret [.tmp 2] [.c (.p (pI 1))] rfl rfl (by simp only [resultsD, go_sem, hlen]) rfl)
    have hv : ¬ x.2 = [] := by simpa using hc
    rw [if_neg hv] at hch
    refine Wc.skip (Wc.seq (Wc.seq ?_))
    refine gR fun K F => ?_; simp only [go_sem, hlen, h0, h3, hix, hcc]; apply F; clear F K
    refine Wc.cond (t := decide ((200 : Int) < x.2.length)) (by simp only [go_sem, hlen]) (fun hc => ?_) (fun hc => ?_)
    ·have hv2 : 200 < x.2.length := by have : (200 : Int) < x.2.length := by simpa using hc
                                       omega
     rw [if_pos hv2] at hch
     refine gS fun K F => ?_; simp only [go_sem, hlen]; apply F; clear F K
     rw [hch]
     exact Wc.ret (Pf.ret [.tmp 2] [.c (.p (pI 4))] rfl rfl (by simp only [resultsD, go_sem, hlen]) rfl)
    have hv2 : ¬ 200 < x.2.length := by have : ¬ (200 : Int) < x.2.length := by simpa using hc
                                        omega
    rw [if_neg hv2] at hch
    refine Wc.skip (Wc.seq ?_)
    by_cases hi0 : 0 < i
    ·obtain ⟨y, hy⟩ : ∃ y, l[i - 1]? = some y := ⟨l[i - 1], List.getElem?_eq_getElem (by omega)⟩
     have hiy := ixA ti22 rfl ti117 (j := i - 1) (m := l.length) (cs := l.flatMap lbP) (by omega) hfl (by decide)
     have hcb := rpA (off := (i - 1) * 2) (drop_flat (f := lbP) (k := 2) (fun _ => rfl) hy) (by rw [hfl]; omega)
     have e1 : IntKind.i64.wrap ((i : Int) - 1) = ((i - 1 : Nat) : Int) := by rw [wi64]; omega
     have hd : (0 < (i : Int)) = True := by simp; omega
     have hpr : prevL l i = some y.1 := by unfold prevL; rw [if_neg (by omega), hy]; rfl
     rw [hpr] at hch
     simp only at hch
     refine Wc.regD fun K F => ?_; simp only [go_sem, hlen, h0, h3, hix, hca, hiy, hcb, e1, hd]; apply F; clear F K
     refine Wc.cond (t := leB x.1 y.1) (by simp only [go_sem, hlen, hd]; rfl) (fun hc => ?_) (fun hc => ?_)
     ·rw [if_pos hc] at hch
      refine gS fun K F => ?_; simp only [go_sem, hlen]; apply F; clear F K
      rw [hch]
      exact Wc.ret (Pf.ret [.tmp 2] [.c (.p (pI 9))] rfl rfl (by simp only [resultsD, go_sem, hlen]) rfl)
     ·rw [if_neg (by rw [hc]; decide)] at hch
      refine Wc.skip ?_
      refine gR fun K F => ?_; simp only [go_sem, hlen, h0, h3, i64n i (by omega)]; apply F; clear F K
      exact ⟨l.length - (i + 1), by omega, i + 1, rfl, by omega, rfl, by simp only [go_sem, hlen], by simp only [go_sem, hlen, h0], by simp only [go_sem, hlen], hch⟩
    ·have hd : (0 < (i : Int)) = False := by simp; omega
     have hpr : prevL l i = none := by unfold prevL; rw [if_pos (by omega)]
     rw [hpr] at hch
     simp only at hch
     refine Wc.regD fun K F => ?_; simp only [go_sem, hlen, h0, h3, hd]; apply F; clear F K
     refine Wc.cond (t := false) (by simp only [go_sem, hlen, hd]) (fun hc => by cases hc) (fun hc => ?_)
     refine Wc.skip ?_
     refine gR fun K F => ?_; simp only [go_sem, hlen, h0, h3, i64n i (by omega)]; apply F; clear F K
     exact ⟨l.length - (i + 1), by omega, i + 1, rfl, by omega, rfl, by simp only [go_sem, hlen], by simp only [go_sem, hlen, h0], by simp only [go_sem, hlen], hch⟩
   ·have hil : i = l.length := by have : ¬ (i : Int) < l.length := by simpa using hc
                                  omega
    rw [hil, List.drop_length, lck_end] at hch
    exact Wc.exit ⟨hch, rfl, by simp only [go_sem, hlen]⟩
  ·exact ⟨0, rfl, by omega, rfl, rfl, rfl, rfl, e0⟩
 ·rintro ⟨e, ds, s1⟩ ⟨hch, rfl, hlen⟩
  simp only at hlen
  rw [hch]
  refine gS fun K F => ?_; simp only [go_sem, hlen]; apply F; clear F K
  exact Wc.ret (Pf.ret [.tmp 2] [.c (.p (pI 0))] rfl rfl (by simp only [resultsD, go_sem, hlen]) rfl)
set_option maxHeartbeats 4000000
set_option maxRecDepth 10000
set_option linter.unusedSimpArgs false
set_option linter.unusedVariables false
end Go.Proofs.YtedcnhbblgmdnaaGreat.Ab
/- Histograms' buckets: the plain law of their bounds. -/
namespace Go.Proofs.YtedcnhbblgmdnaaGreat.Ab
set_option linter.unusedVariables false
set_option linter.unusedSimpArgs false
def blen (v : Nat) : Nat := if v = 0 then 0 else v.log2 + 1
theorem blen_pos {v : Nat} (h : 0 < v) : ∃ m, blen v = m + 1 ∧ 2 ^ m ≤ v ∧ v < 2 ^ (m + 1) := by
 refine ⟨v.log2, ?_, ?_⟩
 ·unfold blen; rw [if_neg (by omega)]
 ·exact (Nat.log2_eq_iff (by omega)).1 rfl
def ix (q v : Nat) : Nat := if v < 2 ^ (q + 1) then v else 2 ^ q + ix q (v / 2)
termination_by v
decreasing_by
 have := Nat.two_pow_pos (q + 1)
 omega
theorem ix_lt {q v : Nat} (h : v < 2 ^ (q + 1)) : ix q v = v := by rw [ix, if_pos h]
theorem ix_ge {q v : Nat} (h : 2 ^ (q + 1) ≤ v) : ix q v = 2 ^ q + ix q (v / 2) := by rw [ix, if_neg (by omega)]
theorem ix_closed (q : Nat) : ∀ k v, 2 ^ (q + k) ≤ v → v < 2 ^ (q + k + 1) → ix q v = k * 2 ^ q + v / 2 ^ k
 | 0, v, h1, h2 => by rw [ix_lt (by simpa using h2)]; simp
 | k + 1, v, h1, h2 => by
  have e1 : 2 ^ (q + (k + 1)) = 2 ^ (q + k) * 2 := by rw [← Nat.add_assoc, Nat.pow_succ]
  have e2 : 2 ^ (q + (k + 1) + 1) = 2 ^ (q + k + 1) * 2 := by rw [Nat.pow_succ, ← Nat.add_assoc]
  have h3 : 2 ^ (q + 1) ≤ v := Nat.le_trans (Nat.pow_le_pow_right (by decide) (by omega)) h1
  rw [ix_ge h3, ix_closed q k (v / 2) (by omega) (by omega), Nat.div_div_eq_div_mul, Nat.add_mul, Nat.pow_succ, Nat.mul_comm 2]
  omega
def kf (q i : Nat) : Nat := i / 2 ^ q - 1
def lo (q i : Nat) : Nat := (i - kf q i * 2 ^ q) * 2 ^ kf q i
def hiU (q i : Nat) : Nat := lo q i + 2 ^ kf q i - 1
def hi (q i : Nat) : Nat := min (hiU q i) 1099511627776
theorem kf_of {q k r : Nat} (h1 : 2 ^ q ≤ r) (h2 : r < 2 ^ q * 2) : kf q (k * 2 ^ q + r) = k := by
 have hp := Nat.two_pow_pos q
 unfold kf
 have : (k * 2 ^ q + r) / 2 ^ q = k + 1 := by
  rw [Nat.div_eq_iff hp]
  rw [Nat.add_mul]
  omega
 omega
theorem lo_of {q k r : Nat} (h1 : 2 ^ q ≤ r) (h2 : r < 2 ^ q * 2) : lo q (k * 2 ^ q + r) = r * 2 ^ k := by
 unfold lo; rw [kf_of h1 h2, Nat.add_sub_cancel_left]
theorem lo_small {q i : Nat} (h : i < 2 ^ q) : lo q i = i ∧ kf q i = 0 := by
 have : kf q i = 0 := by unfold kf; rw [Nat.div_eq_of_lt h]
 exact ⟨by unfold lo; rw [this]; simp, this⟩
theorem ix_form (q i : Nat) : i < 2 ^ q ∨ ∃ k r, i = k * 2 ^ q + r ∧ 2 ^ q ≤ r ∧ r < 2 ^ q * 2 := by
 have hp := Nat.two_pow_pos q
 rcases Nat.lt_or_ge i (2 ^ q) with h | h
 ·exact .inl h
 ·refine .inr ⟨i / 2 ^ q - 1, 2 ^ q + i % 2 ^ q, ?_, by omega, by have := Nat.mod_lt i hp; omega⟩
  have h1 : 1 ≤ i / 2 ^ q := (Nat.le_div_iff_mul_le hp).2 (by omega)
  have h2 := Nat.div_add_mod i (2 ^ q)
  have h3 : (i / 2 ^ q - 1) * 2 ^ q + 2 ^ q = 2 ^ q * (i / 2 ^ q) := by
   rw [Nat.sub_mul, Nat.one_mul, Nat.mul_comm (2 ^ q)]
   have : 1 * 2 ^ q ≤ i / 2 ^ q * 2 ^ q := Nat.mul_le_mul_right _ h1
   omega
  omega
theorem hiU_succ (q i : Nat) : hiU q i + 1 = lo q (i + 1) := by
 have hp := Nat.two_pow_pos q
 rcases ix_form q i with h | ⟨k, r, rfl, h1, h2⟩
 ·obtain ⟨h3, h4⟩ := lo_small h
  have : lo q (i + 1) = i + 1 := by
   rcases Nat.lt_or_ge (i + 1) (2 ^ q) with h5 | h5
   ·exact (lo_small h5).1
   ·have h6 : i + 1 = 0 * 2 ^ q + 2 ^ q := by omega
    rw [h6, lo_of (Nat.le_refl _) (by omega)]; simp
  unfold hiU
  rw [h3, h4, this]; simp
 ·have hk := Nat.two_pow_pos k
  have e : hiU q (k * 2 ^ q + r) + 1 = (r + 1) * 2 ^ k := by
   unfold hiU; rw [lo_of h1 h2, kf_of h1 h2, Nat.add_mul]; omega
  rw [e]
  rcases Nat.lt_or_ge (r + 1) (2 ^ q * 2) with h5 | h5
  ·rw [Nat.add_assoc, lo_of (by omega) h5]
  ·have h6 : k * 2 ^ q + r + 1 = (k + 1) * 2 ^ q + 2 ^ q := by rw [Nat.add_mul]; omega
   have h7 : r + 1 = 2 ^ q * 2 := by omega
   rw [h6, lo_of (Nat.le_refl _) (by omega), h7, Nat.pow_succ, Nat.mul_assoc, Nat.mul_comm 2]
theorem lo_hiU (q i : Nat) : lo q i ≤ hiU q i := by
 have := Nat.two_pow_pos (kf q i)
 unfold hiU; omega
theorem lo_mono {q i j : Nat} (h : i ≤ j) : lo q i ≤ lo q j := by
 induction h with
 | refl => exact Nat.le_refl _
 | step _ ih => have := hiU_succ q; rename_i m _; have h1 := this m; have h2 := lo_hiU q m; simp only [Nat.succ_eq_add_one]; omega
theorem lo_ix (q v : Nat) : lo q (ix q v) ≤ v ∧ v ≤ hiU q (ix q v) := by
 have hp := Nat.two_pow_pos q
 rcases Nat.lt_or_ge v (2 ^ q) with h | h
 ·rw [ix_lt (by rw [Nat.pow_succ]; omega)]
  obtain ⟨h3, h4⟩ := lo_small h
  unfold hiU
  rw [h3, h4]; simp
 ·obtain ⟨m, _, h1, h2⟩ := blen_pos (v := v) (by omega)
  have hqm : q ≤ m := by
   rcases Nat.lt_or_ge m q with h3 | h3
   ·exfalso
    have : 2 ^ (m + 1) ≤ 2 ^ q := Nat.pow_le_pow_right (by decide) h3
    omega
   ·exact h3
  obtain ⟨k, rfl⟩ := Nat.exists_eq_add_of_le hqm
  have hk := Nat.two_pow_pos k
  rw [ix_closed q k v h1 h2]
  have a1 : 2 ^ q ≤ v / 2 ^ k := (Nat.le_div_iff_mul_le hk).2 (by rw [← Nat.pow_add]; exact h1)
  have a2 : v / 2 ^ k < 2 ^ q * 2 := by
   rw [Nat.div_lt_iff_lt_mul hk, ← Nat.pow_succ, ← Nat.pow_add]
   have e : q.succ + k = q + k + 1 := by omega
   rw [e]; exact h2
  unfold hiU
  rw [lo_of a1 a2, kf_of a1 a2]
  have := Nat.div_add_mod v (2 ^ k)
  have h5 := Nat.mod_lt v hk
  rw [Nat.mul_comm (v / 2 ^ k)]
  omega
theorem ix_last : ∀ q, q ≤ 8 → ix q 1099511627776 = (41 - q) * 2 ^ q := by
 intro q hq
 have e1 : q + (40 - q) = 40 := by omega
 have h := ix_closed q (40 - q) 1099511627776 (by rw [e1]; decide) (by rw [e1]; decide)
 rw [h]
 have : q = 0 ∨ q = 1 ∨ q = 2 ∨ q = 3 ∨ q = 4 ∨ q = 5 ∨ q = 6 ∨ q = 7 ∨ q = 8 := by omega
 rcases this with rfl | rfl | rfl | rfl | rfl | rfl | rfl | rfl | rfl <;> decide
theorem lo_last {q i : Nat} (hq : q ≤ 8) (h : i ≤ (41 - q) * 2 ^ q) : lo q i ≤ 1099511627776 := by
 refine Nat.le_trans (lo_mono h) ?_
 rw [← ix_last q hq]
 exact (lo_ix q 1099511627776).1
set_option maxHeartbeats 4000000
set_option maxRecDepth 10000
set_option linter.unusedSimpArgs false
set_option linter.unusedVariables false
set_option maxHeartbeats 4000000
set_option maxRecDepth 10000
theorem min2 (a b : Int) : foldO minD (.v (.c (.p (.int .i64 a)))) [.v (.c (.p (.int .i64 b)))] = some (.v (.c (.p (.int .i64 (min a b))))) := by
 simp only [foldO, minD, P', if_true, Option.some.injEq, D.v.injEq, V.c.injEq, C.p.injEq, Pd.int.injEq, true_and, decide_eq_true_eq]
 split <;> omega
theorem max2 (a b : Int) : foldO maxD (.v (.c (.p (.int .i64 a)))) [.v (.c (.p (.int .i64 b)))] = some (.v (.c (.p (.int .i64 (max a b))))) := by
 simp only [foldO, maxD, P', if_true, Option.some.injEq, D.v.injEq, V.c.injEq, C.p.injEq, Pd.int.injEq, true_and, decide_eq_true_eq]
 split <;> omega
end Go.Proofs.YtedcnhbblgmdnaaGreat.Ab
/- Histograms: the two ways to tell whether there are values with a histogram's numbers come to the same. -/
namespace Go.Proofs.YtedcnhbblgmdnaaGreat.Ab
set_option linter.unusedVariables false
set_option linter.unusedSimpArgs false
def sumI (f : Nat → Int × Int → Int) : Nat → List (Int × Int) → Int
 | _, [] => 0
 | i, b :: r => f i b + sumI f (i + 1) r
def cnt (l : List (Int × Int)) : Int := sumI (fun _ b => b.2) 0 l
theorem sumI_bound {f : Nat → Int × Int → Int} {m : Int} : ∀ {l : List (Int × Int)} {i : Nat}, (∀ j b, l[j]? = some b → 0 ≤ f (i + j) b ∧ f (i + j) b ≤ m * b.2) → 0 ≤ sumI f i l ∧ sumI f i l ≤ m * sumI (fun _ b => b.2) i l
 | [], i, h => by simp [sumI]
 | b :: r, i, h => by
  have h1 := h 0 b rfl
  have h2 := sumI_bound (f := f) (m := m) (l := r) (i := i + 1) fun j c hj => by
   have := h (j + 1) c (by simpa using hj)
   have e : i + 1 + j = i + (j + 1) := by omega
   rw [e]; exact this
  simp only [sumI, Int.mul_add]
  simp only [Nat.add_zero] at h1
  omega
structure BsOK (q : Nat) (bs : List (Int × Int)) : Prop where
 lo0 : ∀ b ∈ bs, 0 ≤ b.1 ∧ b.1 ≤ ((41 - q) * 2 ^ q : Nat)
 cn : ∀ b ∈ bs, 1 ≤ b.2
 asc : ∀ (i j : Nat) (b c : Int × Int), i < j → bs[i]? = some b → bs[j]? = some c → b.1 < c.1
section
variable {q : Nat} {bs : List (Int × Int)} {mn mx : Int} {f l : Int × Int}
end
end Go.Proofs.YtedcnhbblgmdnaaGreat.Ab
namespace Go.Proofs.YtedcnhbblgmdnaaGreat.Ab
set_option maxHeartbeats 4000000
set_option maxRecDepth 10000
set_option linter.unusedSimpArgs false
set_option linter.unusedVariables false
set_option maxHeartbeats 8000000
theorem St.adv_adv (s : St) (m n : Nat) : (s.adv m).adv n = s.adv (m + n) := by simp [St.adv, Nat.add_assoc]
set_option maxRecDepth 10000
set_option linter.unusedSimpArgs false
set_option linter.unusedVariables false
set_option maxHeartbeats 8000000
structure HCx (h : Hst) (q : Nat) : Prop where
 q8 : q ≤ 8
 p : h.p = q
 bs : BsOK q h.bs
 n : h.bs.length ≤ 500
 c : cnt h.bs ≤ 1048576
 a : 0 ≤ h.mn
 b : h.mn ≤ h.mx
 d : h.mx ≤ 1099511627776
theorem HCx.lo {h : Hst} {q : Nat} (x : HCx h q) {b : I2} (hb : b ∈ h.bs) : b.1.toNat ≤ (41 - q) * 2 ^ q ∧ (Go.Proofs.YtedcnhbblgmdnaaGreat.Ab.lo q b.1.toNat : Int) ≤ 1099511627776 ∧ (hi q b.1.toNat : Int) ≤ 1099511627776 ∧ 1 ≤ b.2 ∧ 0 ≤ b.1 := by
 have h0 := x.bs.lo0 b hb
 have h1 : b.1.toNat ≤ (41 - q) * 2 ^ q := by omega
 have h2 := lo_last x.q8 h1
 have h3 : hi q b.1.toNat ≤ 1099511627776 := Nat.min_le_right _ _
 have h4 := x.bs.cn b hb
 omega
theorem HCx.mulB {h : Hst} {q : Nat} (x : HCx h q) {g : Nat → I2 → Int} (hg : ∀ (i : Nat) (b : I2), b ∈ h.bs → 0 ≤ g i b ∧ g i b ≤ 1099511627776) (i : Nat) : 0 ≤ sumI (fun i b => g i b * b.2) 0 (h.bs.take i) ∧ sumI (fun i b => g i b * b.2) 0 (h.bs.take i) ≤ 1099511627776 * cnt (h.bs.take i) := by
 refine sumI_bound (m := 1099511627776) fun j c hc => ?_
 have hcm := List.mem_of_mem_take (List.mem_of_getElem? hc)
 have h1 := hg (0 + j) c hcm
 have h2 := x.bs.cn c hcm
 exact ⟨Int.mul_nonneg h1.1 (by omega), Int.mul_le_mul_of_nonneg_right h1.2 (by omega)⟩
set_option maxRecDepth 10000
set_option linter.unusedSimpArgs false
set_option linter.unusedVariables false
set_option maxHeartbeats 8000000
set_option maxRecDepth 10000
set_option linter.unusedSimpArgs false
set_option linter.unusedVariables false
structure Ser where
 lb : List Lb
 k : Int
 sm : List I2
 hs : List HSm
abbrev Ser.pd (x : Ser) : List Pd := [.lst x.lb.length (x.lb.flatMap lbP), pI x.k, .lst x.sm.length (x.sm.flatMap p2), .lst x.hs.length (x.hs.flatMap HSm.pd)]
set_option maxHeartbeats 8000000
end Go.Proofs.YtedcnhbblgmdnaaGreat.Ab
