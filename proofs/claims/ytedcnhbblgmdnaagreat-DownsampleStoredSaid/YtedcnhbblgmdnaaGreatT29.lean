/- A part of the proof: an evaluator of the code, its contracts, the law. No condition. -/
import Derived.Test.YtedcnhbblgmdnaaGreatT28
import Derived.Test.YtedcnhbblgmdnaaGreatT22
import Derived.Test.YtedcnhbblgmdnaaGreatT24
namespace Go.Proofs.YtedcnhbblgmdnaaGreat.Ab
set_option maxHeartbeats 8000000
set_option maxRecDepth 10000
set_option linter.unusedSimpArgs false
set_option linter.unusedVariables false
/-- A method of the reader that reads a column's numbers. -/
def RdM (r g : Nat) (t : List UInt8) (rd : Nat → RdT → List Int × RdT) : Prop := ∀ {s : St} {L : List (Nat × D × Nat × List Pd)} {M1 M2 : List (Nat × Ob)} {m : Nat} {st : RdT} {K : D → St → Prop}, OA s.nx s L (M1 ++ (r, RO t st) :: M2) → st.1 ≤ t.length → m ≤ 20000 →
    (∀ s' c, OA s'.nx s' L (M1 ++ (r, RO t (rd m st).2) :: M2) → purS c = some (.lst (rd m st).1.length ((rd m st).1.map pI)) → K (.v (.c c)) s') → wpCall E0 (.v (.c (.fn (.func g) [.ref r 0] []))) [.v (.c (.p (pI m)))] s K
theorem purVs_cc {s : St} {c : C} {x y : Pd} (h : purS c = some y) : purVs s [.c (.p x), .c c] = some ([.c (.p x), .c (.p y)], s) := purVs_pc (purC_S h)
theorem purVs_c1 {s : St} {c : C} {y : Pd} (h : purS c = some y) : purVs s [.c c] = some ([.c (.p y)], s) := by simp only [purVs, purV, purC_S h]
/-- 138: values -/
theorem call284 {r : Nat} {t : List UInt8} (ht : t.length < 2^40) : RdM r 284 t (valuesR t) := by
  intro s L M1 M2 m st K h hat hm hK
  refine wpCall.val (fn := Tryz.f284) rfl (by kernel_rfl) rfl ?_; simp only [List.map_cons, List.map_nil, List.cons_append, List.nil_append, List.append_nil, List.length_cons, List.length_nil, Tryz.ntmps284, List.replicate, Nat.reduceSub, Nat.reduceAdd]
  refine Wc.seq ?_
  refine Wc.reg fun K hK => ?_; simp only [go_sem, ti3, ti216, ti9, ti5, ti4, ti32, ti155, ti175, ti293, ti208]; refine hK _ _ ?_; clear hK K
  refine Wc.seq (Wc.seq ?_)
  refine Wc.reg fun K hK => ?_; simp only [go_sem, ti3, ti216, ti9, ti5, ti4, ti32, ti155, ti175, ti293, ti208]; refine hK _ _ ?_; clear hK K
  refine Wc.cond (t := ((m : Int) == 0)) (by simp only [go_sem, ti3, ti216, ti9, ti5, ti4, ti32, ti155, ti175, ti293, ti208]) (fun hc => ?_) (fun hc => ?_)
  · have h0 : m = 0 := by have : (m : Int) = 0 := by simpa using hc
                          omega
    have e : valuesR t m st = ([], st) := by unfold valuesR; rw [if_pos h0]
    rw [e] at hK
    refine Wc.seq ?_
    refine Wc.reg fun K hK => ?_; simp only [go_sem, ti3, ti216, ti9, ti5, ti4, ti32, ti155, ti175, ti293, ti208]; refine hK _ _ ?_; clear hK K
    exact Wc.ret (show bodyQ E0 Tryz.f284 K .ret _ from Op.ret [.tmp 4] [.c .nils] rfl rfl (by simp only [resultsD, go_sem, ti3, ti216, ti9, ti5, ti4, ti32, ti155, ti175, ti293, ti208]) (hK _ _ (by (try simp only [St.nx_put, St.nx_adv]); repeat (first | exact OA.mono h (by omega) | refine OA.newB ?_ (by omega) rfl | refine OA.advB ?_)) rfl))
  · have h0 : ¬ m = 0 := by have : ¬ (m : Int) = 0 := by simpa using hc
                            omega
    have e : valuesR t m st = (sumsW (numR rdS t st).1 (runsR t (m - 1) (m - 1) (numR rdS t st).2).1, (runsR t (m - 1) (m - 1) (numR rdS t st).2).2) := by unfold valuesR; rw [if_neg h0]
    rw [e] at hK
    have hx1 := numR_le rdfS hat (rd := rdS) (t := t) (st := st)
    have w1 : IntKind.i64.wrap ((m : Int) - 1) = ((m - 1 : Nat) : Int) := by rw [wi64]; omega
    refine Wc.skip (Wc.seq ?_)
    refine Wc.reg fun K hK => ?_; simp only [go_sem, ti3, ti216, ti9, ti5, ti4, ti32, ti155, ti175, ti293, ti208]
    refine call292 rdfS (h.adv.adv.adv.mono (by simp only [St.nx_adv]; omega)) hat ht fun s2 ho2 => ?_
    simp only [go_sem, ti3, ti216, ti9, ti5, ti4, ti32, ti155, ti175, ti293, ti208]; refine hK _ _ ?_; clear hK K
    generalize numR rdS t st = x at *
    refine Wc.seq ?_
    refine Wc.reg fun K hK => ?_; simp only [go_sem, ti3, ti216, ti9, ti5, ti4, ti32, ti155, ti175, ti293, ti208, w1]
    refine call293 (ho2.adv.mono (by simp only [St.nx_adv]; omega)) hx1 ht (by omega) fun s3 c3 ho3 => ?_
    simp only [go_sem, ti3, ti216, ti9, ti5, ti4, ti32, ti155, ti175, ti293, ti208]; refine hK _ _ ?_; clear hK K
    have hlen := runsR_len t (m - 1) (m - 1) x.2
    have hpu := (ho3.own _ (List.mem_cons_self ..)).purS
    have hsub := ho3.sub (List.sublist_cons_self _ _) (List.Sublist.refl _)
    generalize runsR t (m - 1) (m - 1) x.2 = q at *
    refine Wc.seq ?_
    refine Wc.reg fun K hK => ?_; simp only [go_sem, ti3, ti216, ti9, ti5, ti4, ti32, ti155, ti175, ti293, ti208]
    refine wpCall.pf (pf294 x.1 q.1 (by omega)) (by kernel_rfl) (by kernel_rfl) rfl (purVs_cc hpu) ?_
    simp only [go_sem, ti3, ti216, ti9, ti5, ti4, ti32, ti155, ti175, ti293, ti208]; refine hK _ _ ?_; clear hK K
    exact Wc.ret (show bodyQ E0 Tryz.f284 K .ret _ from Op.ret [.tmp 4] [.c (.p (.lst (sumsW x.1 q.1).length ((sumsW x.1 q.1).map pI)))] rfl rfl (by simp only [resultsD, go_sem, ti3, ti216, ti9, ti5, ti4, ti32, ti155, ti175, ti293, ti208]) (hK _ _ (by (try simp only [St.nx_put, St.nx_adv]); repeat (first | exact OA.mono hsub (by omega) | refine OA.newB ?_ (by omega) rfl | refine OA.advB ?_)) rfl))
/-- 154: times -/
theorem call283 {r : Nat} {t : List UInt8} (ht : t.length < 2^40) : RdM r 283 t (timesR t) := by
  intro s L M1 M2 m st K h hat hm hK
  refine wpCall.val (fn := Tryz.f283) rfl (by kernel_rfl) rfl ?_; simp only [List.map_cons, List.map_nil, List.cons_append, List.nil_append, List.append_nil, List.length_cons, List.length_nil, Tryz.ntmps283, List.replicate, Nat.reduceSub, Nat.reduceAdd]
  refine Wc.seq ?_
  refine Wc.reg fun K hK => ?_; simp only [go_sem, ti3, ti216, ti9, ti5, ti4, ti32, ti155, ti175, ti293, ti208]; refine hK _ _ ?_; clear hK K
  refine Wc.seq (Wc.seq ?_)
  refine Wc.reg fun K hK => ?_; simp only [go_sem, ti3, ti216, ti9, ti5, ti4, ti32, ti155, ti175, ti293, ti208]; refine hK _ _ ?_; clear hK K
  refine Wc.cond (t := ((m : Int) == 0)) (by simp only [go_sem, ti3, ti216, ti9, ti5, ti4, ti32, ti155, ti175, ti293, ti208]) (fun hc => ?_) (fun hc => ?_)
  · have h0 : m = 0 := by have : (m : Int) = 0 := by simpa using hc
                          omega
    have e : timesR t m st = ([], st) := by unfold timesR; rw [if_pos h0]
    rw [e] at hK
    refine Wc.seq ?_
    refine Wc.reg fun K hK => ?_; simp only [go_sem, ti3, ti216, ti9, ti5, ti4, ti32, ti155, ti175, ti293, ti208]; refine hK _ _ ?_; clear hK K
    exact Wc.ret (show bodyQ E0 Tryz.f283 K .ret _ from Op.ret [.tmp 4] [.c .nils] rfl rfl (by simp only [resultsD, go_sem, ti3, ti216, ti9, ti5, ti4, ti32, ti155, ti175, ti293, ti208]) (hK _ _ (by (try simp only [St.nx_put, St.nx_adv]); repeat (first | exact OA.mono h (by omega) | refine OA.newB ?_ (by omega) rfl | refine OA.advB ?_)) rfl))
  have h0 : ¬ m = 0 := by have : ¬ (m : Int) = 0 := by simpa using hc
                          omega
  have hx1 := numR_le rdfS hat (rd := rdS) (t := t) (st := st)
  have e : timesR t m st = if m = 1 then ([(numR rdS t st).1], (numR rdS t st).2) else (sumsW (numR rdS t st).1 (sumsW (numR rdS t (numR rdS t st).2).1 (runsR t (m - 2) (m - 2) (numR rdS t (numR rdS t st).2).2).1), (runsR t (m - 2) (m - 2) (numR rdS t (numR rdS t st).2).2).2) := by unfold timesR; rw [if_neg h0]
  rw [e] at hK
  clear e
  refine Wc.skip (Wc.seq ?_)
  refine Wc.reg fun K hK => ?_; simp only [go_sem, ti3, ti216, ti9, ti5, ti4, ti32, ti155, ti175, ti293, ti208]
  refine call292 rdfS (h.adv.adv.adv.mono (by simp only [St.nx_adv]; omega)) hat ht fun s2 ho2 => ?_
  simp only [go_sem, ti3, ti216, ti9, ti5, ti4, ti32, ti155, ti175, ti293, ti208]; refine hK _ _ ?_; clear hK K
  generalize numR rdS t st = x at *
  refine Wc.seq (Wc.seq ?_)
  refine Wc.reg fun K hK => ?_; simp only [go_sem, ti3, ti216, ti9, ti5, ti4, ti32, ti155, ti175, ti293, ti208]; refine hK _ _ ?_; clear hK K
  refine Wc.cond (t := ((m : Int) == 1)) (by simp only [go_sem, ti3, ti216, ti9, ti5, ti4, ti32, ti155, ti175, ti293, ti208]) (fun hc => ?_) (fun hc => ?_)
  · have h1 : m = 1 := by have : (m : Int) = 1 := by simpa using hc
                          omega
    rw [if_pos h1] at hK
    refine Wc.seq ?_
    refine Wc.reg fun K hK => ?_; simp only [go_sem, ti3, ti216, ti9, ti5, ti4, ti32, ti155, ti175, ti293, ti208]; refine hK _ _ ?_; clear hK K
    exact Wc.ret (show bodyQ E0 Tryz.f283 K .ret _ from Op.ret [.tmp 4] [.c (.own 1 [pI x.1] (s2.nx + 2 + 1))] rfl rfl (by simp only [resultsD, go_sem, ti3, ti216, ti9, ti5, ti4, ti32, ti155, ti175, ti293, ti208]) (hK _ _ ((OA.put (ho2.adv.adv) (by omega)).mono (by simp only [St.nx_put, St.nx_adv]; omega)) rfl))
  have h1 : ¬ m = 1 := by have : ¬ (m : Int) = 1 := by simpa using hc
                          omega
  rw [if_neg h1] at hK
  have hx2 := numR_le rdfS hx1 (rd := rdS) (t := t) (st := x.2)
  have w1 : IntKind.i64.wrap ((m : Int) - 2) = ((m - 2 : Nat) : Int) := by rw [wi64]; omega
  refine Wc.skip (Wc.seq ?_)
  refine Wc.reg fun K hK => ?_; simp only [go_sem, ti3, ti216, ti9, ti5, ti4, ti32, ti155, ti175, ti293, ti208]
  refine call292 rdfS (ho2.adv.adv.mono (by simp only [St.nx_adv]; omega)) hx1 ht fun s3 ho3 => ?_
  simp only [go_sem, ti3, ti216, ti9, ti5, ti4, ti32, ti155, ti175, ti293, ti208]; refine hK _ _ ?_; clear hK K
  generalize numR rdS t x.2 = y at *
  refine Wc.seq ?_
  refine Wc.reg fun K hK => ?_; simp only [go_sem, ti3, ti216, ti9, ti5, ti4, ti32, ti155, ti175, ti293, ti208, w1]
  refine call293 (ho3.adv.mono (by simp only [St.nx_adv]; omega)) hx2 ht (by omega) fun s4 c4 ho4 => ?_
  simp only [go_sem, ti3, ti216, ti9, ti5, ti4, ti32, ti155, ti175, ti293, ti208]; refine hK _ _ ?_; clear hK K
  have hlen := runsR_len t (m - 2) (m - 2) y.2
  have hpu := (ho4.own _ (List.mem_cons_self ..)).purS
  have hsub := ho4.sub (List.sublist_cons_self _ _) (List.Sublist.refl _)
  generalize runsR t (m - 2) (m - 2) y.2 = q at *
  have hl2 := sumsW_len q.1 y.1
  refine Wc.seq ?_
  refine Wc.reg fun K hK => ?_; simp only [go_sem, ti3, ti216, ti9, ti5, ti4, ti32, ti155, ti175, ti293, ti208]
  refine wpCall.pf (pf294 y.1 q.1 (by omega)) (by kernel_rfl) (by kernel_rfl) rfl (purVs_cc hpu) ?_
  simp only [go_sem, ti3, ti216, ti9, ti5, ti4, ti32, ti155, ti175, ti293, ti208]
  refine wpCall.pf (pf294 x.1 (sumsW y.1 q.1) (by omega)) (by kernel_rfl) (by kernel_rfl) rfl rfl ?_
  simp only [go_sem, ti3, ti216, ti9, ti5, ti4, ti32, ti155, ti175, ti293, ti208]; refine hK _ _ ?_; clear hK K
  exact Wc.ret (show bodyQ E0 Tryz.f283 K .ret _ from Op.ret [.tmp 4] [.c (.p (.lst (sumsW x.1 (sumsW y.1 q.1)).length ((sumsW x.1 (sumsW y.1 q.1)).map pI)))] rfl rfl (by simp only [resultsD, go_sem, ti3, ti216, ti9, ti5, ti4, ti32, ti155, ti175, ti293, ti208]) (hK _ _ (by (try simp only [St.nx_put, St.nx_adv]); repeat (first | exact OA.mono hsub (by omega) | refine OA.newB ?_ (by omega) rfl | refine OA.advB ?_)) rfl))
theorem valuesR_len (t : List UInt8) (m : Nat) (st : RdT) : (valuesR t m st).1.length ≤ m := by
  unfold valuesR
  split
  · simp
  · simp only [sumsW_len]
    have := runsR_len t (m - 1) (m - 1) (numR rdS t st).2
    omega
theorem timesR_len (t : List UInt8) (m : Nat) (st : RdT) : (timesR t m st).1.length ≤ m := by
  unfold timesR
  split
  · simp
  · simp only
    split
    · simp; omega
    · simp only [sumsW_len]
      have := runsR_len t (m - 2) (m - 2) (numR rdS t (numR rdS t st).2).2
      omega
/-- 137: column, in its caller's state -/
theorem call282 {s : St} {L : List (Nat × D × Nat × List Pd)} {M1 M2 : List (Nat × Ob)} {r g ge : Nat} {t : List UInt8} {rd : Nat → RdT → List Int × RdT} {enc : List Int → List UInt8 × Int} {K : D → St → Prop} (h : OA s.nx s L (M1 ++ (r, RO t (0, 0)) :: M2)) (ht : t.length < 2^40)
    (hr : RdM r g t rd) (hrl : ∀ m st, (rd m st).1.length ≤ m) (he : ∀ l, l.length < 2^40 → Pf E0 ge [.c (.p (.lst l.length (l.map pI)))] (.tup [.c (.p (.str (enc l).1)), .c (.p (.int .i64 (enc l).2))])) (hxt : E0.xt ge = none) (hopn : E0.opn ge = false)
    (hK : ∀ s' c, purS c = some (.lst (colR rd enc t).1.length ((colR rd enc t).1.map pI)) → K (.tup [.c c, .c (.p (pI (colR rd enc t).2))]) s') : wpCall E0 (.v (.c (.p (.fnc 282)))) [.v (.c (.ref r 0)), .v (.c (.fn (.func g) [.ref r 0] [])), .v (.c (.p (.fnc ge)))] s K := by
  have ecol : colR rd enc t = (if 20000 < (numR rdV t (0, 0)).1 then ([], 4) else if (rd (numR rdV t (0, 0)).1.toNat (numR rdV t (0, 0)).2).2.2 ≠ 0 then ([], (rd (numR rdV t (0, 0)).1.toNat (numR rdV t (0, 0)).2).2.2) else if (rd (numR rdV t (0, 0)).1.toNat (numR rdV t (0, 0)).2).2.1 ≠ t.length then ([], 12) else
      if (enc (rd (numR rdV t (0, 0)).1.toNat (numR rdV t (0, 0)).2).1).2 = 0 ∧ (enc (rd (numR rdV t (0, 0)).1.toNat (numR rdV t (0, 0)).2).1).1 = t then ((rd (numR rdV t (0, 0)).1.toNat (numR rdV t (0, 0)).2).1, 0) else ([], 12)) := rfl
  rw [ecol] at hK
  clear ecol
  refine wpCall.opn (fn := Tryz.f282) (by kernel_rfl) (by kernel_rfl) rfl (by kernel_rfl) rfl ?_; simp only [List.map_cons, List.map_nil, List.cons_append, List.nil_append, List.length_cons, List.length_nil, Tryz.ntmps282, List.replicate, Nat.reduceSub, Nat.reduceAdd]
  refine Wc.seq ?_
  refine Wc.reg fun K hK => ?_; simp only [go_sem, ti3, ti216, ti9, ti5, ti4, ti32, ti155, ti175, ti293, ti208]; refine hK _ _ ?_; clear hK K
  refine Wc.seq ?_
  have hx1 := numR_le rdfV (Nat.zero_le t.length) (rd := rdV) (t := t) (st := (0, 0))
  have hy2 : ∃ n : Nat, (numR rdV t (0, 0)).1 = (n : Int) := by
    unfold numR
    split
    · exact ⟨0, rfl⟩
    · have := (rdV_le (t.drop 0)).2.1
      exact ⟨(rdV (t.drop 0)).1.toNat, (Int.toNat_of_nonneg this).symm⟩
  refine Wc.reg fun K hK => ?_; simp only [go_sem, ti3, ti216, ti9, ti5, ti4, ti32, ti155, ti175, ti293, ti208]
  refine call292 rdfV (h.adv.adv.mono (by simp only [St.nx_adv]; omega)) (Nat.zero_le _) ht fun s2 ho2 => ?_
  simp only [go_sem, ti3, ti216, ti9, ti5, ti4, ti32, ti155, ti175, ti293, ti208]; refine hK _ _ ?_; clear hK K
  generalize numR rdV t (0, 0) = x at *
  obtain ⟨n, hn⟩ := hy2
  obtain ⟨x1, x2⟩ := x
  simp only at hn hx1 ho2 hK
  subst hn
  simp only [Int.toNat_natCast] at hK
  refine Wc.seq (Wc.seq ?_)
  refine Wc.reg fun K hK => ?_; simp only [go_sem, ti3, ti216, ti9, ti5, ti4, ti32, ti155, ti175, ti293, ti208]; refine hK _ _ ?_; clear hK K
  refine Wc.cond (t := decide ((20000 : Int) < n)) (by simp only [go_sem, ti3, ti216, ti9, ti5, ti4, ti32, ti155, ti175, ti293, ti208]) (fun hc => ?_) (fun hc => ?_)
  · rw [if_pos (of_decide_eq_true hc)] at hK
    refine Wc.seq ?_
    refine Wc.reg fun K hK => ?_; simp only [go_sem, ti3, ti216, ti9, ti5, ti4, ti32, ti155, ti175, ti293, ti208]; refine hK _ _ ?_; clear hK K
    exact Wc.ret (show bodyQ E0 Tryz.f282 K .ret _ from Op.ret [.tmp 6, .tmp 7] [.c .nils, .c (.p (pI 4))] rfl rfl (by simp only [resultsD, go_sem, ti3, ti216, ti9, ti5, ti4, ti32, ti155, ti175, ti293, ti208]) (hK _ .nils rfl))
  have h20 := of_decide_eq_false hc
  rw [if_neg h20] at hK
  refine Wc.skip (Wc.seq ?_)
  refine Wc.reg fun K hK => ?_; simp only [go_sem, ti3, ti216, ti9, ti5, ti4, ti32, ti155, ti175, ti293, ti208]
  refine hr (ho2.adv.adv.mono (by simp only [St.nx_adv]; omega)) hx1 (by omega) fun s3 c3 ho3 hpu => ?_
  simp only [go_sem, ti3, ti216, ti9, ti5, ti4, ti32, ti155, ti175, ti293, ti208]; refine hK _ _ ?_; clear hK K
  have hql := hrl n x2
  generalize rd n x2 = q at *
  obtain ⟨l, p, er⟩ := q
  simp only at hK ho3 hpu hql
  have o3 := ho3.at_ (r, RO t (p, er)) (by simp)
  simp only [RO] at o3
  refine Wc.seq (Wc.seq ?_)
  refine Wc.reg fun K hK => ?_; simp only [go_sem, ti3, ti216, ti9, ti5, ti4, ti32, ti155, ti175, ti293, ti208, o3]; refine hK _ _ ?_; clear hK K
  refine Wc.cond (t := (er != 0)) (by simp only [go_sem, ti3, ti216, ti9, ti5, ti4, ti32, ti155, ti175, ti293, ti208]) (fun hc => ?_) (fun hc => ?_)
  · have h0 : er ≠ 0 := by simpa using hc
    rw [if_pos h0] at hK
    refine Wc.seq ?_
    refine Wc.regD fun K hK => ?_; simp only [go_sem, ti3, ti216, ti9, ti5, ti4, ti32, ti155, ti175, ti293, ti208, o3]; refine hK _ _ ?_; clear hK K
    exact Wc.ret (show bodyQ E0 Tryz.f282 K .ret _ from Op.ret [.tmp 6, .tmp 7] [.c .nils, .c (.p (pI er))] rfl rfl (by simp only [resultsD, go_sem, ti3, ti216, ti9, ti5, ti4, ti32, ti155, ti175, ti293, ti208]) (hK _ .nils rfl))
  have h0 : ¬ er ≠ 0 := by simpa using hc
  rw [if_neg h0] at hK
  refine Wc.skip (Wc.seq (Wc.seq ?_))
  refine Wc.regD fun K hK => ?_; simp only [go_sem, ti3, ti216, ti9, ti5, ti4, ti32, ti155, ti175, ti293, ti208, o3]; refine hK _ _ ?_; clear hK K
  refine Wc.cond (t := ((p : Int) != (t.length : Int))) (by simp only [go_sem, ti3, ti216, ti9, ti5, ti4, ti32, ti155, ti175, ti293, ti208]) (fun hc => ?_) (fun hc => ?_)
  · have h1 : p ≠ t.length := by have : ¬ (p : Int) = (t.length : Int) := by simpa using hc
                                 omega
    rw [if_pos h1] at hK
    refine Wc.seq ?_
    refine Wc.reg fun K hK => ?_; simp only [go_sem, ti3, ti216, ti9, ti5, ti4, ti32, ti155, ti175, ti293, ti208]; refine hK _ _ ?_; clear hK K
    exact Wc.ret (show bodyQ E0 Tryz.f282 K .ret _ from Op.ret [.tmp 6, .tmp 7] [.c .nils, .c (.p (pI 12))] rfl rfl (by simp only [resultsD, go_sem, ti3, ti216, ti9, ti5, ti4, ti32, ti155, ti175, ti293, ti208]) (hK _ .nils rfl))
  have h1 : ¬ p ≠ t.length := by have : (p : Int) = (t.length : Int) := by simpa using hc
                                 omega
  rw [if_neg h1] at hK
  refine Wc.skip (Wc.seq ?_)
  refine Wc.reg fun K hK => ?_; simp only [go_sem, ti3, ti216, ti9, ti5, ti4, ti32, ti155, ti175, ti293, ti208]
  refine wpCall.pf (he l (by omega)) hxt hopn rfl (purVs_c1 hpu) ?_
  simp only [go_sem, ti3, ti216, ti9, ti5, ti4, ti32, ti155, ti175, ti293, ti208]; refine hK _ _ ?_; clear hK K
  generalize enc l = w at *
  obtain ⟨w1, w2⟩ := w
  simp only at hK
  have fin : ∀ (b : Bool), (w2 = 0 ∧ w1 = t ↔ b = false) → (b = true → ∀ s', K (.tup [.c .nils, .c (.p (pI 12))]) s') ∧ (b = false → ∀ s', K (.tup [.c c3, .c (.p (pI 0))]) s') := fun b hb => by
    refine ⟨fun h s' => ?_, fun h s' => ?_⟩
    · rw [if_neg (by rw [hb, h]; decide)] at hK
      exact hK s' .nils rfl
    · rw [if_pos (hb.2 h)] at hK
      exact hK s' c3 hpu
  refine Wc.seqR (fun y => y.ds = [] ∧ Fs y.e 55 [(9, .v (.c c3))] ∧ (w2 = 0 ∧ w1 = t)) ?_ ?_
  · refine Wc.seq ?_
    by_cases hw : w2 = 0
    · have d0 : (w2 != 0) = false := by simpa using hw
      refine Wc.reg fun K hK => ?_; simp only [go_sem, ti3, ti216, ti9, ti5, ti4, ti32, ti155, ti175, ti293, ti208, o3, d0]; refine hK _ _ ?_; clear hK K
      refine Wc.cond (t := !(w1 == t)) (by simp only [go_sem, ti3, ti216, ti9, ti5, ti4, ti32, ti155, ti175, ti293, ti208]) (fun hc => ?_) (fun hc => ?_)
      · refine Wc.seq ?_
        refine Wc.reg fun K hK => ?_; simp only [go_sem, ti3, ti216, ti9, ti5, ti4, ti32, ti155, ti175, ti293, ti208]; refine hK _ _ ?_; clear hK K
        exact Wc.ret (show bodyQ E0 Tryz.f282 K .ret _ from Op.ret [.tmp 6, .tmp 7] [.c .nils, .c (.p (pI 12))] rfl rfl (by simp only [resultsD, go_sem, ti3, ti216, ti9, ti5, ti4, ti32, ti155, ti175, ti293, ti208]) ((fin _ (by simp [hw])).1 hc _))
      · exact Wc.skip ⟨rfl, by simp only [Fs, Int.natCast_zero, go_sem, ti3, ti216, ti9, ti5, ti4, ti32, ti155, ti175, ti293, ti208], hw, by simpa using hc⟩
    · have d0 : (w2 != 0) = true := by simpa using hw
      refine Wc.reg fun K hK => ?_; simp only [go_sem, ti3, ti216, ti9, ti5, ti4, ti32, ti155, ti175, ti293, ti208, o3, d0]; refine hK _ _ ?_; clear hK K
      refine Wc.cond (t := true) (by simp only [go_sem, ti3, ti216, ti9, ti5, ti4, ti32, ti155, ti175, ti293, ti208]) (fun hc => ?_) (fun hc => by cases hc)
      refine Wc.seq ?_
      refine Wc.reg fun K hK => ?_; simp only [go_sem, ti3, ti216, ti9, ti5, ti4, ti32, ti155, ti175, ti293, ti208]; refine hK _ _ ?_; clear hK K
      exact Wc.ret (show bodyQ E0 Tryz.f282 K .ret _ from Op.ret [.tmp 6, .tmp 7] [.c .nils, .c (.p (pI 12))] rfl rfl (by simp only [resultsD, go_sem, ti3, ti216, ti9, ti5, ti4, ti32, ti155, ti175, ti293, ti208]) ((fin true (by simp [hw])).1 rfl _))
  rintro ⟨e, ds, s5⟩ ⟨rfl, hF, hw⟩
  simp only [Fs] at hF
  refine Wc.seq ?_
  refine Wc.reg fun K hK => ?_; simp only [go_sem, ti3, ti216, ti9, ti5, ti4, ti32, ti155, ti175, ti293, ti208, hF]; refine hK _ _ ?_; clear hK K
  exact Wc.ret (show bodyQ E0 Tryz.f282 K .ret _ from Op.ret [.tmp 6, .tmp 7] [.c c3, .c (.p (pI 0))] rfl rfl (by simp only [resultsD, go_sem, ti3, ti216, ti9, ti5, ti4, ti32, ti155, ti175, ti293, ti208, hF]) ((fin false (by simp [hw])).2 rfl _))
/-- 140: DecodeTimes -/
theorem pf266 (t : List UInt8) (ht : t.length < 2^40) : Pf E0 266 [.c (.p (.str t))] (.tup [.c (.p (.lst (decT t).1.length ((decT t).1.map pI))), .c (.p (.int .i64 (decT t).2))]) := by
  refine Pf.body (fn := Tryz.f266) (by kernel_rfl) rfl ?_; simp only [List.map_cons, List.map_nil, List.cons_append, List.nil_append, List.length_cons, List.length_nil, Tryz.ntmps266, List.replicate, Nat.reduceSub, Nat.reduceAdd]
  refine Wc.seq ?_
  refine Wc.reg fun K hK => ?_; simp only [go_sem, ti3, ti216, ti9, ti5, ti4, ti32, ti155, ti175, ti293, ti208]; refine hK _ _ ?_; clear hK K
  refine Wc.seqA (fun y => ∃ k, y.ds = [] ∧ Fs y.e 14 [(4, .v (.c (.ref k 0)))] ∧ OA y.s.nx y.s [] ([] ++ (k, RO t (0, 0)) :: [])) ?_ ?_
  · refine Wc.reg fun K hK => ?_; simp only [go_sem, ti3, ti216, ti9, ti5, ti4, ti32, ti155, ti175, ti293, ti208]; refine hK _ _ ?_; clear hK K
    exact ⟨rfl, 4, rfl, by simp only [Fs, Int.natCast_zero, go_sem, ti3, ti216, ti9, ti5, ti4, ti32, ti155, ti175, ti293, ti208], by (try simp only [St.nx_put, St.nx_adv]); repeat (first | exact OA.mono s00_oa (by omega) | refine OA.newB ?_ (by omega) rfl | refine OA.advB ?_)⟩
  rintro ⟨e, ds, s1⟩ ⟨k, rfl, hF, ho⟩
  simp only [Fs] at hF ho
  refine Wc.seq ?_
  refine Wc.reg fun K hK => ?_; simp only [go_sem, ti3, ti216, ti9, ti5, ti4, ti32, ti155, ti175, ti293, ti208, hF]
  refine call282 (ho.adv.mono (by simp only [St.nx_adv]; omega)) ht (call283 ht) (timesR_len t) (fun l hl => pf225 l hl) (by kernel_rfl) (by kernel_rfl) fun s2 c hpu => ?_
  simp only [go_sem, ti3, ti216, ti9, ti5, ti4, ti32, ti155, ti175, ti293, ti208, hF]; refine hK _ _ ?_; clear hK K
  exact Wc.ret (Pf.ret [.tmp 2, .tmp 3] [.c c, .c (.p (pI (decT t).2))] rfl rfl (by simp only [resultsD, go_sem, ti3, ti216, ti9, ti5, ti4, ti32, ti155, ti175, ti293, ti208, hF]; rfl) (purD_cb (purVs_c1 hpu)))
/-- 119: DecodeValues -/
theorem pf267 (t : List UInt8) (ht : t.length < 2^40) : Pf E0 267 [.c (.p (.str t))] (.tup [.c (.p (.lst (decV t).1.length ((decV t).1.map pI))), .c (.p (.int .i64 (decV t).2))]) := by
  refine Pf.body (fn := Tryz.f267) (by kernel_rfl) rfl ?_; simp only [List.map_cons, List.map_nil, List.cons_append, List.nil_append, List.length_cons, List.length_nil, Tryz.ntmps267, List.replicate, Nat.reduceSub, Nat.reduceAdd]
  refine Wc.seq ?_
  refine Wc.reg fun K hK => ?_; simp only [go_sem, ti3, ti216, ti9, ti5, ti4, ti32, ti155, ti175, ti293, ti208]; refine hK _ _ ?_; clear hK K
  refine Wc.seqA (fun y => ∃ k, y.ds = [] ∧ Fs y.e 14 [(4, .v (.c (.ref k 0)))] ∧ OA y.s.nx y.s [] ([] ++ (k, RO t (0, 0)) :: [])) ?_ ?_
  · refine Wc.reg fun K hK => ?_; simp only [go_sem, ti3, ti216, ti9, ti5, ti4, ti32, ti155, ti175, ti293, ti208]; refine hK _ _ ?_; clear hK K
    exact ⟨rfl, 4, rfl, by simp only [Fs, Int.natCast_zero, go_sem, ti3, ti216, ti9, ti5, ti4, ti32, ti155, ti175, ti293, ti208], by (try simp only [St.nx_put, St.nx_adv]); repeat (first | exact OA.mono s00_oa (by omega) | refine OA.newB ?_ (by omega) rfl | refine OA.advB ?_)⟩
  rintro ⟨e, ds, s1⟩ ⟨k, rfl, hF, ho⟩
  simp only [Fs] at hF ho
  refine Wc.seq ?_
  refine Wc.reg fun K hK => ?_; simp only [go_sem, ti3, ti216, ti9, ti5, ti4, ti32, ti155, ti175, ti293, ti208, hF]
  refine call282 (ho.adv.mono (by simp only [St.nx_adv]; omega)) ht (call284 ht) (valuesR_len t) (fun l hl => pf226 l hl) (by kernel_rfl) (by kernel_rfl) fun s2 c hpu => ?_
  simp only [go_sem, ti3, ti216, ti9, ti5, ti4, ti32, ti155, ti175, ti293, ti208, hF]; refine hK _ _ ?_; clear hK K
  exact Wc.ret (Pf.ret [.tmp 2, .tmp 3] [.c c, .c (.p (pI (decV t).2))] rfl rfl (by simp only [resultsD, go_sem, ti3, ti216, ti9, ti5, ti4, ti32, ti155, ti175, ti293, ti208, hF]; rfl) (purD_cb (purVs_c1 hpu)))
/-- 122: form.decode -/
theorem pf241 (f : Int) (t : List UInt8) (ht : t.length < 2^40) : Pf E0 241 [.c (.p (pI f)), .c (.p (.str t))] (.tup [.c (.p (.lst (decF f t).1.length ((decF f t).1.map pI))), .c (.p (.int .i64 (decF f t).2))]) := by
  refine Pf.body (fn := Tryz.f241) (by kernel_rfl) rfl ?_; simp only [List.map_cons, List.map_nil, List.cons_append, List.nil_append, List.length_cons, List.length_nil, Tryz.ntmps241, List.replicate, Nat.reduceSub, Nat.reduceAdd]
  refine Wc.seq ?_
  refine Wc.reg fun K hK => ?_; simp only [go_sem, ti3, ti216, ti9, ti5, ti4, ti32, ti155, ti175, ti293, ti208]; refine hK _ _ ?_; clear hK K
  refine Wc.seq (Wc.seq ?_)
  refine Wc.reg fun K hK => ?_; simp only [go_sem, ti3, ti216, ti9, ti5, ti4, ti32, ti155, ti175, ti293, ti208]; refine hK _ _ ?_; clear hK K
  refine Wc.block (Wc.seq ?_)
  refine Wc.reg fun K hK => ?_; simp only [go_sem, ti3, ti216, ti9, ti5, ti4, ti32, ti155, ti175, ti293, ti208]; refine hK _ _ ?_; clear hK K
  refine Wc.cond (t := (f == 0)) (by simp only [go_sem, ti3, ti216, ti9, ti5, ti4, ti32, ti155, ti175, ti293, ti208]) (fun hc => ?_) (fun hc => ?_)
  · have e : decF f t = decT t := by unfold decF; rw [if_pos (by simpa using hc)]
    rw [e]
    refine Wc.seq ?_
    refine Wc.reg fun K hK => ?_; simp only [go_sem, ti3, ti216, ti9, ti5, ti4, ti32, ti155, ti175, ti293, ti208]
    refine wpCall.pf (pf266 t ht) (by kernel_rfl) (by kernel_rfl) rfl rfl ?_
    simp only [go_sem, ti3, ti216, ti9, ti5, ti4, ti32, ti155, ti175, ti293, ti208]; refine hK _ _ ?_; clear hK K
    exact Wc.ret (Pf.ret [.tmp 4, .tmp 5] [.c (.p (.lst (decT t).1.length ((decT t).1.map pI))), .c (.p (.int .i64 (decT t).2))] rfl rfl (by simp only [resultsD, go_sem, ti3, ti216, ti9, ti5, ti4, ti32, ti155, ti175, ti293, ti208]) rfl)
  · have h0 : ¬ f = 0 := by simpa using hc
    refine Wc.seq ?_
    refine Wc.reg fun K hK => ?_; simp only [go_sem, ti3, ti216, ti9, ti5, ti4, ti32, ti155, ti175, ti293, ti208]; refine hK _ _ ?_; clear hK K
    refine Wc.cond (t := (f == 1)) (by simp only [go_sem, ti3, ti216, ti9, ti5, ti4, ti32, ti155, ti175, ti293, ti208]) (fun hc => ?_) (fun hc => ?_)
    · have e : decF f t = decV t := by unfold decF; rw [if_neg h0, if_pos (by simpa using hc)]
      rw [e]
      refine Wc.seq ?_
      refine Wc.reg fun K hK => ?_; simp only [go_sem, ti3, ti216, ti9, ti5, ti4, ti32, ti155, ti175, ti293, ti208]
      refine wpCall.pf (pf267 t ht) (by kernel_rfl) (by kernel_rfl) rfl rfl ?_
      simp only [go_sem, ti3, ti216, ti9, ti5, ti4, ti32, ti155, ti175, ti293, ti208]; refine hK _ _ ?_; clear hK K
      exact Wc.ret (Pf.ret [.tmp 4, .tmp 5] [.c (.p (.lst (decV t).1.length ((decV t).1.map pI))), .c (.p (.int .i64 (decV t).2))] rfl rfl (by simp only [resultsD, go_sem, ti3, ti216, ti9, ti5, ti4, ti32, ti155, ti175, ti293, ti208]) rfl)
    · have h1 : ¬ f = 1 := by simpa using hc
      have e : decF f t = decI t := by unfold decF; rw [if_neg h0, if_neg h1]
      rw [e]
      refine Wc.skip (Wc.seq ?_)
      refine Wc.reg fun K hK => ?_; simp only [go_sem, ti3, ti216, ti9, ti5, ti4, ti32, ti155, ti175, ti293, ti208]
      refine wpCall.pf (pf268 t ht) (by kernel_rfl) (by kernel_rfl) rfl rfl ?_
      simp only [go_sem, ti3, ti216, ti9, ti5, ti4, ti32, ti155, ti175, ti293, ti208]; refine hK _ _ ?_; clear hK K
      exact Wc.ret (Pf.ret [.tmp 4, .tmp 5] [.c (.p (.lst (decI t).1.length ((decI t).1.map pI))), .c (.p (.int .i64 (decI t).2))] rfl rfl (by simp only [resultsD, go_sem, ti3, ti216, ti9, ti5, ti4, ti32, ti155, ti175, ti293, ti208]) rfl)
end Go.Proofs.YtedcnhbblgmdnaaGreat.Ab
namespace Go.Proofs.YtedcnhbblgmdnaaGreat.Ab
set_option maxHeartbeats 8000000
set_option maxRecDepth 10000
set_option linter.unusedSimpArgs false
set_option linter.unusedVariables false
/-- A column that is read: its form, its getter, its setter, and what that does. -/
structure ColU (A : Type) where
  f : Int
  g : Nat
  w : Nat
  set : A → Int → A
abbrev ColU.pd {A : Type} (c : ColU A) : List Pd := [pI c.f, .fnc c.g, .fnc c.w]
abbrev ColU.r {A : Type} (c : ColU A) : ColR A := (c.f, c.set)
/-- A setter. -/
def SetOK {A : Type} (enc : A → List C) (c : ColU A) : Prop := E0.xt c.w = none ∧ E0.opn c.w = true ∧ ∀ {s : St} {L : List (Nat × D × Nat × List Pd)} {M1 M2 : List (Nat × Ob)} {k o : Nat} {pre post : List C} {a : A} {n : Int} {K : D → St → Prop},
    OA s.nx s L (M1 ++ (k, .cells (pre ++ enc a ++ post) false) :: M2) → o = pre.length → (∀ s', OA s'.nx s' L (M1 ++ (k, .cells (pre ++ enc (c.set a n) ++ post) false) :: M2) → K (.tup []) s') → wpCall E0 (.v (.c (.p (.fnc c.w)))) [.v (.c (.ref k o)), .v (.c (.p (pI n)))] s K
/-- A slice that is being filled, and objects. -/
def SlS {A : Type} (enc : A → List C) (es : Nat) (l : List A) (L : List (Nat × D × Nat × List Pd)) (M : List (Nat × Ob)) (c6 : C) (s : St) : Prop :=
  (l = [] ∧ (c6 = .nils ∨ ∃ k, c6 = .own 0 [] k) ∧ OA s.nx s L M) ∨ (∃ k, c6 = .mt k 0 l.length es ∧ OA s.nx s L ((k, .cells (l.flatMap enc) false) :: M) ∧ l ≠ []) ∨ ∃ k, c6 = .gs 0 k 0 0 es ∧ OA s.nx s L ((k, .grow es 0 [] false) :: M) ∧ l = []
section
variable {A : Type} {enc : A → List C} {es : Nat} {l : List A} {L : List (Nat × D × Nat × List Pd)} {M : List (Nat × Ob)} {c6 : C} {s : St}
theorem SlS.adv (h : SlS enc es l L M c6 s) {n : Nat} : SlS enc es l L M c6 (s.adv n) := by
  rcases h with ⟨h1, h2, h3⟩ | ⟨k, h1, h2, h3⟩ | ⟨k, h1, h2, h3⟩
  · exact .inl ⟨h1, h2, (h3.mono (Nat.le_add_right _ n)).adv⟩
  · exact .inr (.inl ⟨k, h1, (h2.mono (Nat.le_add_right _ n)).adv, h3⟩)
  · exact .inr (.inr ⟨k, h1, (h2.mono (Nat.le_add_right _ n)).adv, h3⟩)
theorem OA.swap {b : Nat} {x y : Nat × Ob} (h : OA b s L (x :: y :: M)) : OA b s L (y :: x :: M) := by
  refine ⟨h.free, h.own, h.dis, fun z hz => h.at_ z ?_, fun z hz => h.nof z ?_, ?_⟩
  · simp only [List.mem_cons] at hz ⊢; rcases hz with h | h | h <;> simp [h]
  · simp only [List.mem_cons] at hz ⊢; rcases hz with h | h | h <;> simp [h]
  · have hd := h.dism
    simp only [List.pairwise_cons, List.mem_cons] at hd ⊢
    obtain ⟨a1, a2, a3⟩ := hd
    refine ⟨fun z hz => ?_, fun z hz => a1 z (.inr hz), a3⟩
    rcases hz with rfl | hz
    · exact fun e => a1 y (.inl rfl) e.symm
    · exact a2 z hz
theorem SlS.newB (h : SlS enc es l L M c6 s) {n k : Nat} {o : Ob} (h1 : s.nx ≤ k) (h2 : k < s.nx + n) (hf : o.isFront = false) : SlS enc es l L ((k, o) :: M) c6 ((s.adv n).put k o) := by
  rcases h with ⟨h3, h4, h5⟩ | ⟨k6, h3, h4, h5⟩ | ⟨k6, h3, h4, h5⟩
  · exact .inl ⟨h3, h4, ((h5.adv.new h1 hf).mono (by simp only [St.nx_put, St.nx_adv]; omega))⟩
  · exact .inr (.inl ⟨k6, h3, ((h4.adv.new h1 hf).mono (by simp only [St.nx_put, St.nx_adv]; omega)).swap, h5⟩)
  · exact .inr (.inr ⟨k6, h3, ((h4.adv.new h1 hf).mono (by simp only [St.nx_put, St.nx_adv]; omega)).swap, h5⟩)
theorem SlS.at8 (h : SlS enc es l L M c6 s) (y : Nat × Ob) (hy : y ∈ M) : s.get y.1 = some y.2 := by
  rcases h with ⟨_, _, h3⟩ | ⟨k, _, h2, _⟩ | ⟨k, _, h2, _⟩
  · exact h3.at_ y hy
  · exact h2.at_ y (List.mem_cons_of_mem _ hy)
  · exact h2.at_ y (List.mem_cons_of_mem _ hy)
theorem SlS.oa (h : SlS enc es l L M c6 s) : OA s.nx s L M := by
  rcases h with ⟨_, _, h3⟩ | ⟨k, _, h2, _⟩ | ⟨k, _, h2, _⟩
  · exact h3
  · exact h2.sub (List.Sublist.refl _) (List.sublist_cons_self _ _)
  · exact h2.sub (List.Sublist.refl _) (List.sublist_cons_self _ _)
theorem SlS.drop {x : Nat × Ob} (h : SlS enc es l L (x :: M) c6 s) : SlS enc es l L M c6 s := by
  rcases h with ⟨h3, h4, h5⟩ | ⟨k6, h3, h4, h5⟩ | ⟨k6, h3, h4, h5⟩
  · exact .inl ⟨h3, h4, h5.sub (List.Sublist.refl _) (List.sublist_cons_self _ _)⟩
  · exact .inr (.inl ⟨k6, h3, h4.sub (List.Sublist.refl _) ((List.sublist_cons_self x M).cons_cons _), h5⟩)
  · exact .inr (.inr ⟨k6, h3, h4.sub (List.Sublist.refl _) ((List.sublist_cons_self x M).cons_cons _), h5⟩)
theorem SlS.len {t e : Nat} {i : TI} (h : SlS enc es l L M c6 s) (ht : E0.ti t = some i) (hk : i.kn = .slice e) : lenD E0 t (.v (.c c6)) = some (.v (.c (.p (.int .i64 (l.length : Int))))) := by
  rcases h with ⟨rfl, h4 | ⟨k, h4⟩, h5⟩ | ⟨k6, h3, h4, h5⟩ | ⟨k6, h3, h4, h5⟩
  · subst h4; unfold lenD; rw [ht]; simp only [hk]; rfl
  · subst h4; unfold lenD; rw [ht]; simp only [hk]; rfl
  · subst h3; unfold lenD; rw [ht]; simp only [hk]; rfl
  · subst h3 h5; unfold lenD; rw [ht]; simp only [hk]; rfl
theorem SlS.mt (h : SlS enc es l L M c6 s) (hl : l ≠ []) : ∃ k, c6 = .mt k 0 l.length es ∧ OA s.nx s L ((k, .cells (l.flatMap enc) false) :: M) := by
  rcases h with ⟨h3, _⟩ | ⟨k6, h3, h4, h5⟩ | ⟨k6, h3, h4, h5⟩
  · exact absurd h3 hl
  · exact ⟨k6, h3, h4⟩
  · exact absurd h5 hl
end
/-- The list, j of its elements set. -/
def prog {A : Type} (f : A → Int → A) (l : List A) (d : List Int) (j : Nat) : List A := List.zipWith f (l.take j) (d.take j) ++ l.drop j
theorem prog_0 {A : Type} (f : A → Int → A) (l : List A) (d : List Int) : prog f l d 0 = l := by simp [prog]
theorem prog_all {A : Type} (f : A → Int → A) {l : List A} {d : List Int} (h : d.length = l.length) : prog f l d d.length = List.zipWith f l d := by
  unfold prog
  rw [List.take_of_length_le (by omega), List.take_of_length_le (by omega), List.drop_of_length_le (by omega), List.append_nil]
theorem prog_len {A : Type} (f : A → Int → A) (l : List A) (d : List Int) (j : Nat) (h : d.length = l.length := by omega) : (prog f l d j).length = l.length := by
  unfold prog
  simp only [List.length_append, List.length_zipWith, List.length_take, List.length_drop]
  omega
theorem zip_snoc {A : Type} (f : A → Int → A) : ∀ {l : List A} {d : List Int} {j : Nat} {a : A} {n : Int}, l[j]? = some a → d[j]? = some n → List.zipWith f (l.take (j + 1)) (d.take (j + 1)) = List.zipWith f (l.take j) (d.take j) ++ [f a n]
  | [], d, j, a, n, h, _ => by simp at h
  | _ :: _, [], j, a, n, _, h => by simp at h
  | x :: l, y :: d, 0, a, n, h1, h2 => by
    simp at h1 h2
    subst h1 h2
    simp
  | x :: l, y :: d, j + 1, a, n, h1, h2 => by
    simp only [List.take_succ_cons, List.zipWith_cons_cons, List.cons_append]
    rw [zip_snoc f (by simpa using h1) (by simpa using h2)]
theorem prog_step {A : Type} (f : A → Int → A) {l : List A} {d : List Int} {j : Nat} {a : A} {n : Int} (h1 : l[j]? = some a) (h2 : d[j]? = some n) :
    prog f l d j = List.zipWith f (l.take j) (d.take j) ++ a :: l.drop (j + 1) ∧ prog f l d (j + 1) = List.zipWith f (l.take j) (d.take j) ++ f a n :: l.drop (j + 1) := by
  have hj := (List.getElem?_eq_some_iff.1 h1).1
  refine ⟨?_, ?_⟩
  · unfold prog
    rw [List.drop_eq_getElem_cons hj, (List.getElem?_eq_some_iff.1 h1).2]
  · unfold prog
    rw [zip_snoc f h1 h2]; simp
theorem flat_mid {A B : Type} (f : A → List B) (p q : List A) (a : A) : (p ++ a :: q).flatMap f = p.flatMap f ++ f a ++ q.flatMap f := by simp
theorem flatC_len {A B : Type} {f : A → List B} {k : Nat} (h : ∀ a, (f a).length = k) : ∀ l : List A, (l.flatMap f).length = l.length * k
  | [] => by simp
  | a :: r => by rw [List.flatMap_cons, List.length_append, h, flatC_len h r, List.length_cons, Nat.add_mul]; omega
theorem repl_flat {A : Type} (f : A → List C) (z : A) : ∀ n : Nat, repl n (f z) = (List.replicate n z).flatMap f
  | 0 => rfl
  | n + 1 => by rw [repl, repl_flat f z n, List.replicate_succ, List.flatMap_cons]
theorem zipWith_rep {A : Type} (f : A → Int → A) (z : A) : ∀ d : List Int, List.zipWith f (List.replicate d.length z) d = d.map (f z)
  | [] => rfl
  | x :: r => by rw [List.length_cons, List.replicate_succ, List.zipWith_cons_cons, zipWith_rep f z r, List.map_cons]
theorem unpk_first {A : Type} (z : A) (c : ColR A) (cs : List (ColR A)) (x : List UInt8) (ss : List (List UInt8)) : unpk z (c :: cs) (x :: ss) = unpkG (c :: cs) (x :: ss) (List.replicate (decF c.1 x).1.length z) := by
  simp only [unpk, unpkG, zipWith_rep, List.length_replicate]
  by_cases h : (decF c.1 x).2 ≠ 0
  · rw [if_pos h, if_pos (.inl h)]
  · rw [if_neg h, if_neg (by rintro (h' | h'); exact h h'; exact h' rfl)]
theorem decF_len (f : Int) (s : List UInt8) : (decF f s).1.length ≤ 20001 := by
  have col : ∀ rd enc, (∀ m st, (rd m st : List Int × RdT).1.length ≤ m) → (colR rd enc s).1.length ≤ 20000 := fun rd enc h => by
    unfold colR
    simp only
    split
    · simp
    · split
      · simp
      · split
        · simp
        · split
          · have := h (numR rdV s (0, 0)).1.toNat (numR rdV s (0, 0)).2
            simp only
            omega
          · simp
  have rn : ∀ k s, (rdN k s).1.length ≤ k := fun k => by
    induction k with
    | zero => intro s; simp [rdN]
    | succ k ih =>
      intro s
      rw [rdN]
      split
      · simp
      · split
        · simp
        · have := ih (s.drop (rdS s).2.1)
          simp only [List.length_cons]; omega
  unfold decF
  split
  · have := col (timesR s) encT (timesR_len s); unfold decT; omega
  · split
    · have := col (valuesR s) encV (valuesR_len s); unfold decV; omega
    · unfold decI
      split
      · simp
      · split
        · simp
        · split
          · simp
          · split
            · simp
            · have := rn (rdV s).1.toNat (s.drop (rdV s).2.1)
              simp only
              omega
theorem o241 : E0.opn 241 = false := by kernel_rfl
theorem x241 : E0.xt 241 = none := by kernel_rfl
theorem setR_mid {pre E post : List C} {o : Nat} {c : C} (h : o < E.length) : setR (pre ++ E ++ post) (pre.length + o) [c] = pre ++ E.set o c ++ post := by
  have h1 : setR (pre ++ E ++ post) (pre.length + o) [c] = (pre ++ E ++ post).set (pre.length + o) c := by
    rw [List.set_eq_take_append_cons_drop, if_pos (by simp; omega)]
    simp only [setR, List.length_cons, List.length_nil, Nat.zero_add, List.append_assoc, List.cons_append, List.nil_append]
  rw [h1, List.append_assoc, List.set_append, if_neg (by omega), Nat.add_sub_cancel_left, List.set_append, if_pos h, List.append_assoc]
theorem setOK_of {A : Type} {enc : A → List C} {c : ColU A} {fn : Func} {code : Code} (hx : E0.xt c.w = none) (ho : E0.opn c.w = true) (hf : E0.fn c.w = some fn) (hb : fn.body = some code) (j : Nat) (hj : ∀ a, j < (enc a).length) (hse : ∀ a n, (enc a).set j (.p (pI n)) = enc (c.set a n))
    (h : ∀ (s : St) (k o : Nat) (n : Int) (cs : List C) (K : D → St → Prop), s.get k = some (.cells cs false) → o + j + 1 ≤ cs.length → (∀ m, K (.tup []) ((s.adv m).put k (.cells (setR cs (o + j) [.p (pI n)]) false))) → Wc E0 none code { e := [.v (.c (.ref k o)), .v (.c (.p (pI n)))] ++ List.replicate (fn.ntmps - 2) (.tup []), ds := [], s := s } (bodyQ E0 fn K)) : SetOK enc c := by
  refine ⟨hx, ho, fun {s L M1 M2 k o pre post a n K} hoa hop hK => ?_⟩
  subst hop
  refine wpCall.opn hx ho rfl hf hb ?_
  have hg := hoa.at_ (k, .cells (pre ++ enc a ++ post) false) (by simp)
  refine h s k pre.length n _ K hg (by have := hj a; simp only [List.length_append]; omega) fun m => hK _ ?_
  rw [setR_mid (hj a), hse]
  exact (OA.set hoa.adv rfl).mono (by simp only [St.nx_put, St.nx_adv]; omega)
end Go.Proofs.YtedcnhbblgmdnaaGreat.Ab
namespace Go.Proofs.YtedcnhbblgmdnaaGreat.Ab
set_option maxHeartbeats 8000000
set_option maxRecDepth 10000
set_option linter.unusedSimpArgs false
set_option linter.unusedVariables false
abbrev encB (b : Bkt) : List C := b.pd.map .p
theorem setOK_ofV {A : Type} {enc : A → List C} {c : ColU A} {fn : Func} {code : Code} (v : Int → Int) (hx : E0.xt c.w = none) (ho : E0.opn c.w = true) (hf : E0.fn c.w = some fn) (hb : fn.body = some code) (j : Nat) (hj : ∀ a, j < (enc a).length) (hse : ∀ a n, (enc a).set j (.p (pI (v n))) = enc (c.set a n))
    (h : ∀ (s : St) (k o : Nat) (n : Int) (cs : List C) (K : D → St → Prop), s.get k = some (.cells cs false) → o + j + 1 ≤ cs.length → (∀ m, K (.tup []) ((s.adv m).put k (.cells (setR cs (o + j) [.p (pI (v n))]) false))) → Wc E0 none code { e := [.v (.c (.ref k o)), .v (.c (.p (pI n)))] ++ List.replicate (fn.ntmps - 2) (.tup []), ds := [], s := s } (bodyQ E0 fn K)) : SetOK enc c := by
  refine ⟨hx, ho, fun {s L M1 M2 k o pre post a n K} hoa hop hK => ?_⟩
  subst hop
  refine wpCall.opn hx ho rfl hf hb ?_
  have hg := hoa.at_ (k, .cells (pre ++ enc a ++ post) false) (by simp)
  refine h s k pre.length n _ K hg (by have := hj a; simp only [List.length_append]; omega) fun m => hK _ ?_
  rw [setR_mid (hj a), hse]
  exact (OA.set hoa.adv rfl).mono (by simp only [St.nx_put, St.nx_adv]; omega)
/-- 158: a setter -/
theorem set158 : SetOK encB (⟨0, 157, 158, fun b n => { b with st := IntKind.i64.wrap (n - 1) }⟩ : ColU Bkt) := setOK_ofV (fun n => IntKind.i64.wrap (n - 1)) (fn := Tryz.f158) (by kernel_rfl) (by kernel_rfl) (by kernel_rfl) rfl 0 (fun a => by simp) (fun a n => rfl) fun s k o n cs K hg hl hK => by
  have hl' : (o + 1 ≤ cs.length) = True := eq_true hl
  simp only [List.map_cons, List.map_nil, List.cons_append, List.nil_append, List.length_cons, List.length_nil, Tryz.ntmps158, List.replicate, Nat.reduceSub, Nat.reduceAdd]
  refine Wc.reg fun K hK => ?_; simp only [go_sem, ti3, ti41, ti152, ti150, ti205, hg, hl']; refine hK _ _ ?_; clear hK K
  exact bodyQ.normal (vs := []) rfl rfl (hK _)
/-- 160: a setter -/
theorem set160 : SetOK encB (⟨1, 159, 160, fun b n => { b with c := n }⟩ : ColU Bkt) := setOK_of (fn := Tryz.f160) (by kernel_rfl) (by kernel_rfl) (by kernel_rfl) rfl 1 (fun a => by simp) (fun a n => rfl) fun s k o n cs K hg hl hK => by
  have hl' : (o + 2 ≤ cs.length) = True := eq_true hl
  simp only [List.map_cons, List.map_nil, List.cons_append, List.nil_append, List.length_cons, List.length_nil, Tryz.ntmps160, List.replicate, Nat.reduceSub, Nat.reduceAdd]
  refine Wc.reg fun K hK => ?_; simp only [go_sem, ti3, ti41, ti152, ti150, ti205, hg, hl']; refine hK _ _ ?_; clear hK K
  exact bodyQ.normal (vs := []) rfl rfl (hK _)
/-- 162: a setter -/
theorem set162 : SetOK encB (⟨1, 161, 162, fun b n => { b with s := n }⟩ : ColU Bkt) := setOK_of (fn := Tryz.f162) (by kernel_rfl) (by kernel_rfl) (by kernel_rfl) rfl 2 (fun a => by simp) (fun a n => rfl) fun s k o n cs K hg hl hK => by
  have hl' : (o + 3 ≤ cs.length) = True := eq_true hl
  simp only [List.map_cons, List.map_nil, List.cons_append, List.nil_append, List.length_cons, List.length_nil, Tryz.ntmps162, List.replicate, Nat.reduceSub, Nat.reduceAdd]
  refine Wc.reg fun K hK => ?_; simp only [go_sem, ti3, ti41, ti152, ti150, ti205, hg, hl']; refine hK _ _ ?_; clear hK K
  exact bodyQ.normal (vs := []) rfl rfl (hK _)
/-- 164: a setter -/
theorem set164 : SetOK encB (⟨1, 163, 164, fun b n => { b with mn := n }⟩ : ColU Bkt) := setOK_of (fn := Tryz.f164) (by kernel_rfl) (by kernel_rfl) (by kernel_rfl) rfl 3 (fun a => by simp) (fun a n => rfl) fun s k o n cs K hg hl hK => by
  have hl' : (o + 4 ≤ cs.length) = True := eq_true hl
  simp only [List.map_cons, List.map_nil, List.cons_append, List.nil_append, List.length_cons, List.length_nil, Tryz.ntmps164, List.replicate, Nat.reduceSub, Nat.reduceAdd]
  refine Wc.reg fun K hK => ?_; simp only [go_sem, ti3, ti41, ti152, ti150, ti205, hg, hl']; refine hK _ _ ?_; clear hK K
  exact bodyQ.normal (vs := []) rfl rfl (hK _)
/-- 166: a setter -/
theorem set166 : SetOK encB (⟨1, 165, 166, fun b n => { b with mx := n }⟩ : ColU Bkt) := setOK_of (fn := Tryz.f166) (by kernel_rfl) (by kernel_rfl) (by kernel_rfl) rfl 4 (fun a => by simp) (fun a n => rfl) fun s k o n cs K hg hl hK => by
  have hl' : (o + 5 ≤ cs.length) = True := eq_true hl
  simp only [List.map_cons, List.map_nil, List.cons_append, List.nil_append, List.length_cons, List.length_nil, Tryz.ntmps166, List.replicate, Nat.reduceSub, Nat.reduceAdd]
  refine Wc.reg fun K hK => ?_; simp only [go_sem, ti3, ti41, ti152, ti150, ti205, hg, hl']; refine hK _ _ ?_; clear hK K
  exact bodyQ.normal (vs := []) rfl rfl (hK _)
/-- 168: a setter -/
theorem set168 : SetOK encB (⟨1, 167, 168, fun b n => { b with f := n }⟩ : ColU Bkt) := setOK_of (fn := Tryz.f168) (by kernel_rfl) (by kernel_rfl) (by kernel_rfl) rfl 5 (fun a => by simp) (fun a n => rfl) fun s k o n cs K hg hl hK => by
  have hl' : (o + 6 ≤ cs.length) = True := eq_true hl
  simp only [List.map_cons, List.map_nil, List.cons_append, List.nil_append, List.length_cons, List.length_nil, Tryz.ntmps168, List.replicate, Nat.reduceSub, Nat.reduceAdd]
  refine Wc.reg fun K hK => ?_; simp only [go_sem, ti3, ti41, ti152, ti150, ti205, hg, hl']; refine hK _ _ ?_; clear hK K
  exact bodyQ.normal (vs := []) rfl rfl (hK _)
/-- 170: a setter -/
theorem set170 : SetOK encB (⟨1, 169, 170, fun b n => { b with l := n }⟩ : ColU Bkt) := setOK_of (fn := Tryz.f170) (by kernel_rfl) (by kernel_rfl) (by kernel_rfl) rfl 6 (fun a => by simp) (fun a n => rfl) fun s k o n cs K hg hl hK => by
  have hl' : (o + 7 ≤ cs.length) = True := eq_true hl
  simp only [List.map_cons, List.map_nil, List.cons_append, List.nil_append, List.length_cons, List.length_nil, Tryz.ntmps170, List.replicate, Nat.reduceSub, Nat.reduceAdd]
  refine Wc.reg fun K hK => ?_; simp only [go_sem, ti3, ti41, ti152, ti150, ti205, hg, hl']; refine hK _ _ ?_; clear hK K
  exact bodyQ.normal (vs := []) rfl rfl (hK _)
/-- 172: a setter -/
theorem set172 : SetOK encB (⟨1, 171, 172, fun b n => { b with ft := n }⟩ : ColU Bkt) := setOK_of (fn := Tryz.f172) (by kernel_rfl) (by kernel_rfl) (by kernel_rfl) rfl 7 (fun a => by simp) (fun a n => rfl) fun s k o n cs K hg hl hK => by
  have hl' : (o + 8 ≤ cs.length) = True := eq_true hl
  simp only [List.map_cons, List.map_nil, List.cons_append, List.nil_append, List.length_cons, List.length_nil, Tryz.ntmps172, List.replicate, Nat.reduceSub, Nat.reduceAdd]
  refine Wc.reg fun K hK => ?_; simp only [go_sem, ti3, ti41, ti152, ti150, ti205, hg, hl']; refine hK _ _ ?_; clear hK K
  exact bodyQ.normal (vs := []) rfl rfl (hK _)
/-- 174: a setter -/
theorem set174 : SetOK encB (⟨1, 173, 174, fun b n => { b with lt := n }⟩ : ColU Bkt) := setOK_of (fn := Tryz.f174) (by kernel_rfl) (by kernel_rfl) (by kernel_rfl) rfl 8 (fun a => by simp) (fun a n => rfl) fun s k o n cs K hg hl hK => by
  have hl' : (o + 9 ≤ cs.length) = True := eq_true hl
  simp only [List.map_cons, List.map_nil, List.cons_append, List.nil_append, List.length_cons, List.length_nil, Tryz.ntmps174, List.replicate, Nat.reduceSub, Nat.reduceAdd]
  refine Wc.reg fun K hK => ?_; simp only [go_sem, ti3, ti41, ti152, ti150, ti205, hg, hl']; refine hK _ _ ?_; clear hK K
  exact bodyQ.normal (vs := []) rfl rfl (hK _)
/-- 176: a setter -/
theorem set176 : SetOK encB (⟨1, 175, 176, fun b n => { b with inc := n }⟩ : ColU Bkt) := setOK_of (fn := Tryz.f176) (by kernel_rfl) (by kernel_rfl) (by kernel_rfl) rfl 9 (fun a => by simp) (fun a n => rfl) fun s k o n cs K hg hl hK => by
  have hl' : (o + 10 ≤ cs.length) = True := eq_true hl
  simp only [List.map_cons, List.map_nil, List.cons_append, List.nil_append, List.length_cons, List.length_nil, Tryz.ntmps176, List.replicate, Nat.reduceSub, Nat.reduceAdd]
  refine Wc.reg fun K hK => ?_; simp only [go_sem, ti3, ti41, ti152, ti150, ti205, hg, hl']; refine hK _ _ ?_; clear hK K
  exact bodyQ.normal (vs := []) rfl rfl (hK _)
def bktU : List (ColU Bkt) := [(⟨0, 157, 158, fun b n => { b with st := IntKind.i64.wrap (n - 1) }⟩ : ColU Bkt), (⟨1, 159, 160, fun b n => { b with c := n }⟩ : ColU Bkt), (⟨1, 161, 162, fun b n => { b with s := n }⟩ : ColU Bkt), (⟨1, 163, 164, fun b n => { b with mn := n }⟩ : ColU Bkt), (⟨1, 165, 166, fun b n => { b with mx := n }⟩ : ColU Bkt), (⟨1, 167, 168, fun b n => { b with f := n }⟩ : ColU Bkt), (⟨1, 169, 170, fun b n => { b with l := n }⟩ : ColU Bkt), (⟨1, 171, 172, fun b n => { b with ft := n }⟩ : ColU Bkt), (⟨1, 173, 174, fun b n => { b with lt := n }⟩ : ColU Bkt), (⟨1, 175, 176, fun b n => { b with inc := n }⟩ : ColU Bkt)]
theorem bktU_ok : ∀ c ∈ bktU, SetOK encB c := by
  intro c hc
  simp only [bktU, List.mem_cons, List.not_mem_nil, or_false] at hc
  rcases hc with rfl | rfl | rfl | rfl | rfl | rfl | rfl | rfl | rfl | rfl
  · exact set158
  · exact set160
  · exact set162
  · exact set164
  · exact set166
  · exact set168
  · exact set170
  · exact set172
  · exact set174
  · exact set176
end Go.Proofs.YtedcnhbblgmdnaaGreat.Ab
