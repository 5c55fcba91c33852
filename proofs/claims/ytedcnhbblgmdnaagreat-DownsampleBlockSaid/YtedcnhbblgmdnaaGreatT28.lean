/- A part of the proof. -/
import Derived.Test.YtedcnhbblgmdnaaGreatT27
import Derived.Test.YtedcnhbblgmdnaaGreatT22
import Derived.Test.YtedcnhbblgmdnaaGreatT23
import Derived.Test.YtedcnhbblgmdnaaGreatT24
namespace Go.Proofs.YtedcnhbblgmdnaaGreat.Ab
set_option maxHeartbeats 8000000
set_option maxRecDepth 10000
set_option linter.unusedSimpArgs false
set_option linter.unusedVariables false
def RdM (r g : Nat) (t : List UInt8) (rd : Nat → RdT → List Int × RdT) : Prop := ∀ {s : St} {L : List (Nat × D × Nat × List Pd)} {M1 M2 : List (Nat × Ob)} {m : Nat} {st : RdT} {K : D → St → Prop}, OA s.nx s L (M1 ++ (r, RO t st) :: M2) → st.1 ≤ t.length → m ≤ 20000 →
  (∀ s' c, OA s'.nx s' L (M1 ++ (r, RO t (rd m st).2) :: M2) → purS c = some (.lst (rd m st).1.length ((rd m st).1.map pI)) → K (.v (.c c)) s') → wpCall E0 (.v (.c (.fn (.func g) [.ref r 0] []))) [.v (.c (.p (pI m)))] s K
theorem purVs_cc {s : St} {c : C} {x y : Pd} (h : purS c = some y) : purVs s [.c (.p x), .c c] = some ([.c (.p x), .c (.p y)], s) := purVs_pc (purC_S h)
theorem purVs_c1 {s : St} {c : C} {y : Pd} (h : purS c = some y) : purVs s [.c c] = some ([.c (.p y)], s) := by simp only [purVs, purV, purC_S h]
theorem call284 {r : Nat} {t : List UInt8} (ht : t.length < 2^40) : RdM r 284 t (valuesR t) := by
 intro s L M1 M2 m st K h hat hm F
 refine wpCall.val (fn := Tryz.f284) rfl (by kernel_rfl) rfl ?_; simp only [List.map_cons, List.map_nil, List.cons_append, List.nil_append, List.append_nil, List.length_cons, List.length_nil, Tryz.ntmps284, List.replicate, Nat.reduceSub, Nat.reduceAdd]
 refine gS fun K F => ?_; simp only [go_sem]; apply F; clear F K
 refine Wc.seq (Wc.seq ?_)
 refine gR fun K F => ?_; simp only [go_sem]; apply F; clear F K
 refine Wc.cond (t := ((m : Int) == 0)) (by simp only [go_sem]) (fun hc => ?_) (fun hc => ?_)
 ·have h0 : m = 0 := by have : (m : Int) = 0 := by simpa using hc
                        omega
  have e : valuesR t m st = ([], st) := by unfold valuesR; rw [if_pos h0]
  rw [e] at F
  refine gS fun K F => ?_; simp only [go_sem]; apply F; clear F K
  exact Wc.ret (show bodyQ E0 Tryz.f284 K .ret _ from Op.ret [.tmp 4] [.c .nils] rfl rfl (by simp only [resultsD, go_sem]) (F _ _ (by (try simp only [St.nx_put, St.nx_adv]); repeat (first | exact OA.mono h (by omega) | refine OA.newB ?_ (by omega) rfl | refine OA.advB ?_)) rfl))
 ·have h0 : ¬ m = 0 := by have : ¬ (m : Int) = 0 := by simpa using hc
                          omega
  have e : valuesR t m st = (sumsW (numR rdS t st).1 (runsR t (m - 1) (m - 1) (numR rdS t st).2).1, (runsR t (m - 1) (m - 1) (numR rdS t st).2).2) := by unfold valuesR; rw [if_neg h0]
  rw [e] at F
  have hx1 := numR_le rdfS hat (rd := rdS) (t := t) (st := st)
  have w1 : IntKind.i64.wrap ((m : Int) - 1) = ((m - 1 : Nat) : Int) := by rw [wi64]; omega
  refine Wc.skip (Wc.seq ?_)
  refine gR fun K F => ?_; simp only [go_sem]
  refine call292 rdfS (h.adv.adv.adv.mono (by simp only [St.nx_adv]; omega)) hat ht fun s2 ho2 => ?_
  simp only [go_sem]; apply F; clear F K
  generalize numR rdS t st = x at *
  refine gS fun K F => ?_; simp only [go_sem, w1]
  refine call293 (ho2.adv.mono (by simp only [St.nx_adv]; omega)) hx1 ht (by omega) fun s3 c3 ho3 => ?_
  simp only [go_sem]; apply F; clear F K
  have hlen := runsR_len t (m - 1) (m - 1) x.2
  have hpu := (ho3.own _ (List.mem_cons_self ..)).purS
  have hsub := ho3.sub (List.sublist_cons_self _ _) (List.Sublist.refl _)
  generalize runsR t (m - 1) (m - 1) x.2 = q at *
  refine gS fun K F => ?_; simp only [go_sem]
  refine gP (pf294 x.1 q.1 (by omega)) (by kernel_rfl) (by kernel_rfl) rfl (purVs_cc hpu) ?_
  simp only [go_sem]; apply F; clear F K
  exact Wc.ret (show bodyQ E0 Tryz.f284 K .ret _ from Op.ret [.tmp 4] [.c (.p (.lst (sumsW x.1 q.1).length ((sumsW x.1 q.1).map pI)))] rfl rfl (by simp only [resultsD, go_sem]) (F _ _ (by (try simp only [St.nx_put, St.nx_adv]); repeat (first | exact OA.mono hsub (by omega) | refine OA.newB ?_ (by omega) rfl | refine OA.advB ?_)) rfl))
theorem call283 {r : Nat} {t : List UInt8} (ht : t.length < 2^40) : RdM r 283 t (timesR t) := by
 intro s L M1 M2 m st K h hat hm F
 refine wpCall.val (fn := Tryz.f283) rfl (by kernel_rfl) rfl ?_; simp only [List.map_cons, List.map_nil, List.cons_append, List.nil_append, List.append_nil, List.length_cons, List.length_nil, Tryz.ntmps283, List.replicate, Nat.reduceSub, Nat.reduceAdd]
 refine gS fun K F => ?_; simp only [go_sem]; apply F; clear F K
 refine Wc.seq (Wc.seq ?_)
 refine gR fun K F => ?_; simp only [go_sem]; apply F; clear F K
 refine Wc.cond (t := ((m : Int) == 0)) (by simp only [go_sem]) (fun hc => ?_) (fun hc => ?_)
 ·have h0 : m = 0 := by have : (m : Int) = 0 := by simpa using hc
                        omega
  have e : timesR t m st = ([], st) := by unfold timesR; rw [if_pos h0]
  rw [e] at F
  refine gS fun K F => ?_; simp only [go_sem]; apply F; clear F K
  exact Wc.ret (show bodyQ E0 Tryz.f283 K .ret _ from Op.ret [.tmp 4] [.c .nils] rfl rfl (by simp only [resultsD, go_sem]) (F _ _ (by (try simp only [St.nx_put, St.nx_adv]); repeat (first | exact OA.mono h (by omega) | refine OA.newB ?_ (by omega) rfl | refine OA.advB ?_)) rfl))
 have h0 : ¬ m = 0 := by have : ¬ (m : Int) = 0 := by simpa using hc
                         omega
 have hx1 := numR_le rdfS hat (rd := rdS) (t := t) (st := st)
 have e : timesR t m st = if m = 1 then ([(numR rdS t st).1], (numR rdS t st).2) else (sumsW (numR rdS t st).1 (sumsW (numR rdS t (numR rdS t st).2).1 (runsR t (m - 2) (m - 2) (numR rdS t (numR rdS t st).2).2).1), (runsR t (m - 2) (m - 2) (numR rdS t (numR rdS t st).2).2).2) := by unfold timesR; rw [if_neg h0]
 rw [e] at F
 clear e
 refine Wc.skip (Wc.seq ?_)
 refine gR fun K F => ?_; simp only [go_sem]
 refine call292 rdfS (h.adv.adv.adv.mono (by simp only [St.nx_adv]; omega)) hat ht fun s2 ho2 => ?_
 simp only [go_sem]; apply F; clear F K
 generalize numR rdS t st = x at *
 refine Wc.seq (Wc.seq ?_)
 refine gR fun K F => ?_; simp only [go_sem]; apply F; clear F K
 refine Wc.cond (t := ((m : Int) == 1)) (by simp only [go_sem]) (fun hc => ?_) (fun hc => ?_)
 ·have h1 : m = 1 := by have : (m : Int) = 1 := by simpa using hc
                        omega
  rw [if_pos h1] at F
  refine gS fun K F => ?_; simp only [go_sem]; apply F; clear F K
  exact Wc.ret (show bodyQ E0 Tryz.f283 K .ret _ from Op.ret [.tmp 4] [.c (.own 1 [pI x.1] (s2.nx + 2 + 1))] rfl rfl (by simp only [resultsD, go_sem]) (F _ _ ((OA.put (ho2.adv.adv) (by omega)).mono (by simp only [St.nx_put, St.nx_adv]; omega)) rfl))
 have h1 : ¬ m = 1 := by have : ¬ (m : Int) = 1 := by simpa using hc
                         omega
 rw [if_neg h1] at F
 have hx2 := numR_le rdfS hx1 (rd := rdS) (t := t) (st := x.2)
 have w1 : IntKind.i64.wrap ((m : Int) - 2) = ((m - 2 : Nat) : Int) := by rw [wi64]; omega
 refine Wc.skip (Wc.seq ?_)
 refine gR fun K F => ?_; simp only [go_sem]
 refine call292 rdfS (ho2.adv.adv.mono (by simp only [St.nx_adv]; omega)) hx1 ht fun s3 ho3 => ?_
 simp only [go_sem]; apply F; clear F K
 generalize numR rdS t x.2 = y at *
 refine gS fun K F => ?_; simp only [go_sem, w1]
 refine call293 (ho3.adv.mono (by simp only [St.nx_adv]; omega)) hx2 ht (by omega) fun s4 c4 ho4 => ?_
 simp only [go_sem]; apply F; clear F K
 have hlen := runsR_len t (m - 2) (m - 2) y.2
 have hpu := (ho4.own _ (List.mem_cons_self ..)).purS
 have hsub := ho4.sub (List.sublist_cons_self _ _) (List.Sublist.refl _)
 generalize runsR t (m - 2) (m - 2) y.2 = q at *
 have hl2 := sumsW_len q.1 y.1
 refine gS fun K F => ?_; simp only [go_sem]
 refine gP (pf294 y.1 q.1 (by omega)) (by kernel_rfl) (by kernel_rfl) rfl (purVs_cc hpu) ?_
 simp only [go_sem]
 refine gP (pf294 x.1 (sumsW y.1 q.1) (by omega)) (by kernel_rfl) (by kernel_rfl) rfl rfl ?_
 simp only [go_sem]; apply F; clear F K
 exact Wc.ret (show bodyQ E0 Tryz.f283 K .ret _ from Op.ret [.tmp 4] [.c (.p (.lst (sumsW x.1 (sumsW y.1 q.1)).length ((sumsW x.1 (sumsW y.1 q.1)).map pI)))] rfl rfl (by simp only [resultsD, go_sem]) (F _ _ (by (try simp only [St.nx_put, St.nx_adv]); repeat (first | exact OA.mono hsub (by omega) | refine OA.newB ?_ (by omega) rfl | refine OA.advB ?_)) rfl))
theorem valuesR_len (t : List UInt8) (m : Nat) (st : RdT) : (valuesR t m st).1.length ≤ m := by
 unfold valuesR
 split
 ·simp
 ·simp only [sumsW_len]
  have := runsR_len t (m - 1) (m - 1) (numR rdS t st).2
  omega
theorem timesR_len (t : List UInt8) (m : Nat) (st : RdT) : (timesR t m st).1.length ≤ m := by
 unfold timesR
 split
 ·simp
 ·simp only
  split
  ·simp; omega
  ·simp only [sumsW_len]
   have := runsR_len t (m - 2) (m - 2) (numR rdS t (numR rdS t st).2).2
   omega
theorem call282 {s : St} {L : List (Nat × D × Nat × List Pd)} {M1 M2 : List (Nat × Ob)} {r g ge : Nat} {t : List UInt8} {rd : Nat → RdT → List Int × RdT} {enc : List Int → List UInt8 × Int} {K : D → St → Prop} (h : OA s.nx s L (M1 ++ (r, RO t (0, 0)) :: M2)) (ht : t.length < 2^40)
  (hr : RdM r g t rd) (hrl : ∀ m st, (rd m st).1.length ≤ m) (he : ∀ l, l.length < 2^40 → Pf E0 ge [.c (.p (.lst l.length (l.map pI)))] (.tup [.c (.p (.str (enc l).1)), .c (.p (.int .i64 (enc l).2))])) (hxt : E0.xt ge = none) (hopn : E0.opn ge = false)
  (F : ∀ s' c, purS c = some (.lst (colR rd enc t).1.length ((colR rd enc t).1.map pI)) → K (.tup [.c c, .c (.p (pI (colR rd enc t).2))]) s') : wpCall E0 (.v (.c (.p (.fnc 282)))) [.v (.c (.ref r 0)), .v (.c (.fn (.func g) [.ref r 0] [])), .v (.c (.p (.fnc ge)))] s K := by
 have ecol : colR rd enc t = (if 20000 < (numR rdV t (0, 0)).1 then ([], 4) else if (rd (numR rdV t (0, 0)).1.toNat (numR rdV t (0, 0)).2).2.2 ≠ 0 then ([], (rd (numR rdV t (0, 0)).1.toNat (numR rdV t (0, 0)).2).2.2) else if (rd (numR rdV t (0, 0)).1.toNat (numR rdV t (0, 0)).2).2.1 ≠ t.length then ([], 12) else
   if (enc (rd (numR rdV t (0, 0)).1.toNat (numR rdV t (0, 0)).2).1).2 = 0 ∧ (enc (rd (numR rdV t (0, 0)).1.toNat (numR rdV t (0, 0)).2).1).1 = t then ((rd (numR rdV t (0, 0)).1.toNat (numR rdV t (0, 0)).2).1, 0) else ([], 12)) := rfl
 rw [ecol] at F
 clear ecol
 refine wpCall.opn (fn := Tryz.f282) (by kernel_rfl) (by kernel_rfl) rfl (by kernel_rfl) rfl ?_; simp only [List.map_cons, List.map_nil, List.cons_append, List.nil_append, List.length_cons, List.length_nil, Tryz.ntmps282, List.replicate, Nat.reduceSub, Nat.reduceAdd]
 refine gS fun K F => ?_; simp only [go_sem]; apply F; clear F K
 refine Wc.seq ?_
 have hx1 := numR_le rdfV (Nat.zero_le t.length) (rd := rdV) (t := t) (st := (0, 0))
 have hy2 : ∃ n : Nat, (numR rdV t (0, 0)).1 = (n : Int) := by
  unfold numR
  split
  ·exact ⟨0, rfl⟩
  ·have := (rdV_le (t.drop 0)).2.1
   exact ⟨(rdV (t.drop 0)).1.toNat, (Int.toNat_of_nonneg this).symm⟩
 refine gR fun K F => ?_; simp only [go_sem]
 refine call292 rdfV (h.adv.adv.mono (by simp only [St.nx_adv]; omega)) (Nat.zero_le _) ht fun s2 ho2 => ?_
 simp only [go_sem]; apply F; clear F K
 generalize numR rdV t (0, 0) = x at *
 obtain ⟨n, hn⟩ := hy2
 obtain ⟨x1, x2⟩ := x
 simp only at hn hx1 ho2 F
 subst hn
 simp only [Int.toNat_natCast] at F
 refine Wc.seq (Wc.seq ?_)
 refine gR fun K F => ?_; simp only [go_sem]; apply F; clear F K
 refine Wc.cond (t := decide ((20000 : Int) < n)) (by simp only [go_sem]) (fun hc => ?_) (fun hc => ?_)
 ·rw [if_pos (of_decide_eq_true hc)] at F
  refine gS fun K F => ?_; simp only [go_sem]; apply F; clear F K
  exact Wc.ret (show bodyQ E0 Tryz.f282 K .ret _ from Op.ret [.tmp 6, .tmp 7] [.c .nils, .c (.p (pI 4))] rfl rfl (by simp only [resultsD, go_sem]) (F _ .nils rfl))
 have h20 := of_decide_eq_false hc
 rw [if_neg h20] at F
 refine Wc.skip (Wc.seq ?_)
 refine gR fun K F => ?_; simp only [go_sem]
 refine hr (ho2.adv.adv.mono (by simp only [St.nx_adv]; omega)) hx1 (by omega) fun s3 c3 ho3 hpu => ?_
 simp only [go_sem]; apply F; clear F K
 have hql := hrl n x2
 generalize rd n x2 = q at *
 obtain ⟨l, p, er⟩ := q
 simp only at F ho3 hpu hql
 have o3 := ho3.at_ (r, RO t (p, er)) (by simp)
 simp only [RO] at o3
 refine Wc.seq (Wc.seq ?_)
 refine gR fun K F => ?_; simp only [go_sem, o3]; apply F; clear F K
 refine Wc.cond (t := (er != 0)) (by simp only [go_sem]) (fun hc => ?_) (fun hc => ?_)
 ·have h0 : er ≠ 0 := by simpa using hc
  rw [if_pos h0] at F
  refine Wc.seq ?_
  refine Wc.regD fun K F => ?_; simp only [go_sem, o3]; apply F; clear F K
  exact Wc.ret (show bodyQ E0 Tryz.f282 K .ret _ from Op.ret [.tmp 6, .tmp 7] [.c .nils, .c (.p (pI er))] rfl rfl (by simp only [resultsD, go_sem]) (F _ .nils rfl))
 have h0 : ¬ er ≠ 0 := by simpa using hc
 rw [if_neg h0] at F
 refine Wc.skip (Wc.seq (Wc.seq ?_))
 refine Wc.regD fun K F => ?_; simp only [go_sem, o3]; apply F; clear F K
 refine Wc.cond (t := ((p : Int) != (t.length : Int))) (by simp only [go_sem]) (fun hc => ?_) (fun hc => ?_)
 ·have h1 : p ≠ t.length := by have : ¬ (p : Int) = (t.length : Int) := by simpa using hc
                               omega
  rw [if_pos h1] at F
  refine gS fun K F => ?_; simp only [go_sem]; apply F; clear F K
  exact Wc.ret (show bodyQ E0 Tryz.f282 K .ret _ from Op.ret [.tmp 6, .tmp 7] [.c .nils, .c (.p (pI 12))] rfl rfl (by simp only [resultsD, go_sem]) (F _ .nils rfl))
 have h1 : ¬ p ≠ t.length := by have : (p : Int) = (t.length : Int) := by simpa using hc
                                omega
 rw [if_neg h1] at F
 refine Wc.skip (Wc.seq ?_)
 refine gR fun K F => ?_; simp only [go_sem]
 refine gP (he l (by omega)) hxt hopn rfl (purVs_c1 hpu) ?_
 simp only [go_sem]; apply F; clear F K
 generalize enc l = w at *
 obtain ⟨w1, w2⟩ := w
 simp only at F
 have fin : ∀ (b : Bool), (w2 = 0 ∧ w1 = t ↔ b = false) → (b = true → ∀ s', K (.tup [.c .nils, .c (.p (pI 12))]) s') ∧ (b = false → ∀ s', K (.tup [.c c3, .c (.p (pI 0))]) s') := fun b hb => by
  refine ⟨fun h s' => ?_, fun h s' => ?_⟩
  ·rw [if_neg (by rw [hb, h]; decide)] at F
   exact F s' .nils rfl
  ·rw [if_pos (hb.2 h)] at F
   exact F s' c3 hpu
 refine Wc.seqR (fun y => y.ds = [] ∧ Fs y.e 55 [(9, .v (.c c3))] ∧ (w2 = 0 ∧ w1 = t)) ?_ ?_
 ·refine Wc.seq ?_
  by_cases hw : w2 = 0
  ·have d0 : (w2 != 0) = false := by simpa using hw
   refine gR fun K F => ?_; simp only [go_sem, o3, d0]; apply F; clear F K
   refine Wc.cond (t := !(w1 == t)) (by simp only [go_sem]) (fun hc => ?_) (fun hc => ?_)
   ·refine gS fun K F => ?_; simp only [go_sem]; apply F; clear F K
    exact Wc.ret (show bodyQ E0 Tryz.f282 K .ret _ from Op.ret [.tmp 6, .tmp 7] [.c .nils, .c (.p (pI 12))] rfl rfl (by simp only [resultsD, go_sem]) ((fin _ (by simp [hw])).1 hc _))
   ·exact Wc.skip ⟨rfl, by simp only [Fs, nZ, go_sem], hw, by simpa using hc⟩
  ·have d0 : (w2 != 0) = true := by simpa using hw
   refine gR fun K F => ?_; simp only [go_sem, o3, d0]; apply F; clear F K
   refine Wc.cond (t := true) (by simp only [go_sem]) (fun hc => ?_) (fun hc => by cases hc)
   refine gS fun K F => ?_; simp only [go_sem]; apply F; clear F K
   exact Wc.ret (show bodyQ E0 Tryz.f282 K .ret _ from Op.ret [.tmp 6, .tmp 7] [.c .nils, .c (.p (pI 12))] rfl rfl (by simp only [resultsD, go_sem]) ((fin true (by simp [hw])).1 rfl _))
 rintro ⟨e, ds, s5⟩ ⟨rfl, hF, hw⟩
 simp only [Fs] at hF
 refine gS fun K F => ?_; simp only [go_sem, hF]; apply F; clear F K
 exact Wc.ret (show bodyQ E0 Tryz.f282 K .ret _ from Op.ret [.tmp 6, .tmp 7] [.c c3, .c (.p (pI 0))] rfl rfl (by simp only [resultsD, go_sem, hF]) ((fin false (by simp [hw])).2 rfl _))
theorem pf266 (t : List UInt8) (ht : t.length < 2^40) : Pf E0 266 [.c (.p (.str t))] (.tup [.c (.p (.lst (decT t).1.length ((decT t).1.map pI))), .c (.p (.int .i64 (decT t).2))]) := by
 refine Pf.body (fn := Tryz.f266) (by kernel_rfl) rfl ?_; simp only [List.map_cons, List.map_nil, List.cons_append, List.nil_append, List.length_cons, List.length_nil, Tryz.ntmps266, List.replicate, Nat.reduceSub, Nat.reduceAdd]
 refine gS fun K F => ?_; simp only [go_sem]; apply F; clear F K
 refine Wc.seqA (fun y => ∃ k, y.ds = [] ∧ Fs y.e 14 [(4, .v (.c (.ref k 0)))] ∧ OA y.s.nx y.s [] ([] ++ (k, RO t (0, 0)) :: [])) ?_ ?_
 ·refine gR fun K F => ?_; simp only [go_sem]; apply F; clear F K
  exact ⟨rfl, 4, rfl, by simp only [Fs, nZ, go_sem], by (try simp only [St.nx_put, St.nx_adv]); repeat (first | exact OA.mono s00_oa (by omega) | refine OA.newB ?_ (by omega) rfl | refine OA.advB ?_)⟩
 rintro ⟨e, ds, s1⟩ ⟨k, rfl, hF, ho⟩
 simp only [Fs] at hF ho
 refine gS fun K F => ?_; simp only [go_sem, hF]
 refine call282 (ho.adv.mono (by simp only [St.nx_adv]; omega)) ht (call283 ht) (timesR_len t) (fun l hl => pf225 l hl) (by kernel_rfl) (by kernel_rfl) fun s2 c hpu => ?_
 simp only [go_sem, hF]; apply F; clear F K
 exact Wc.ret (Pf.ret [.tmp 2, .tmp 3] [.c c, .c (.p (pI (decT t).2))] rfl rfl (by simp only [resultsD, go_sem, hF]; rfl) (purD_cb (purVs_c1 hpu)))
theorem pf267 (t : List UInt8) (ht : t.length < 2^40) : Pf E0 267 [.c (.p (.str t))] (.tup [.c (.p (.lst (decV t).1.length ((decV t).1.map pI))), .c (.p (.int .i64 (decV t).2))]) := by
 refine Pf.body (fn := Tryz.f267) (by kernel_rfl) rfl ?_; simp only [List.map_cons, List.map_nil, List.cons_append, List.nil_append, List.length_cons, List.length_nil, Tryz.ntmps267, List.replicate, Nat.reduceSub, Nat.reduceAdd]
 refine gS fun K F => ?_; simp only [go_sem]; apply F; clear F K
 refine Wc.seqA (fun y => ∃ k, y.ds = [] ∧ Fs y.e 14 [(4, .v (.c (.ref k 0)))] ∧ OA y.s.nx y.s [] ([] ++ (k, RO t (0, 0)) :: [])) ?_ ?_
 ·refine gR fun K F => ?_; simp only [go_sem]; apply F; clear F K
  exact ⟨rfl, 4, rfl, by simp only [Fs, nZ, go_sem], by (try simp only [St.nx_put, St.nx_adv]); repeat (first | exact OA.mono s00_oa (by omega) | refine OA.newB ?_ (by omega) rfl | refine OA.advB ?_)⟩
 rintro ⟨e, ds, s1⟩ ⟨k, rfl, hF, ho⟩
 simp only [Fs] at hF ho
 refine gS fun K F => ?_; simp only [go_sem, hF]
 refine call282 (ho.adv.mono (by simp only [St.nx_adv]; omega)) ht (call284 ht) (valuesR_len t) (fun l hl => pf226 l hl) (by kernel_rfl) (by kernel_rfl) fun s2 c hpu => ?_
 simp only [go_sem, hF]; apply F; clear F K
 exact Wc.ret (Pf.ret [.tmp 2, .tmp 3] [.c c, .c (.p (pI (decV t).2))] rfl rfl (by simp only [resultsD, go_sem, hF]; rfl) (purD_cb (purVs_c1 hpu)))
theorem pf241 (f : Int) (t : List UInt8) (ht : t.length < 2^40) : Pf E0 241 [.c (.p (pI f)), .c (.p (.str t))] (.tup [.c (.p (.lst (decF f t).1.length ((decF f t).1.map pI))), .c (.p (.int .i64 (decF f t).2))]) := by
 refine Pf.body (fn := Tryz.f241) (by kernel_rfl) rfl ?_; simp only [List.map_cons, List.map_nil, List.cons_append, List.nil_append, List.length_cons, List.length_nil, Tryz.ntmps241, List.replicate, Nat.reduceSub, Nat.reduceAdd]
 refine gS fun K F => ?_; simp only [go_sem]; apply F; clear F K
 refine Wc.seq (Wc.seq ?_)
 refine gR fun K F => ?_; simp only [go_sem]; apply F; clear F K
 refine Wc.block (Wc.seq ?_)
 refine gR fun K F => ?_; simp only [go_sem]; apply F; clear F K
 refine Wc.cond (t := (f == 0)) (by simp only [go_sem]) (fun hc => ?_) (fun hc => ?_)
 ·have e : decF f t = decT t := by unfold decF; rw [if_pos (by simpa using hc)]
  rw [e]
  refine gS fun K F => ?_; simp only [go_sem]
  refine gP (pf266 t ht) (by kernel_rfl) (by kernel_rfl) rfl rfl ?_
  simp only [go_sem]; apply F; clear F K
  exact Wc.ret (Pf.ret [.tmp 4, .tmp 5] [.c (.p (.lst (decT t).1.length ((decT t).1.map pI))), .c (.p (.int .i64 (decT t).2))] rfl rfl (by simp only [resultsD, go_sem]) rfl)
 ·have h0 : ¬ f = 0 := by simpa using hc
  refine gS fun K F => ?_; simp only [go_sem]; apply F; clear F K
  refine Wc.cond (t := (f == 1)) (by simp only [go_sem]) (fun hc => ?_) (fun hc => ?_)
  ·have e : decF f t = decV t := by unfold decF; rw [if_neg h0, if_pos (by simpa using hc)]
   rw [e]
   refine gS fun K F => ?_; simp only [go_sem]
   refine gP (pf267 t ht) (by kernel_rfl) (by kernel_rfl) rfl rfl ?_
   simp only [go_sem]; apply F; clear F K
   exact Wc.ret (Pf.ret [.tmp 4, .tmp 5] [.c (.p (.lst (decV t).1.length ((decV t).1.map pI))), .c (.p (.int .i64 (decV t).2))] rfl rfl (by simp only [resultsD, go_sem]) rfl)
  ·have h1 : ¬ f = 1 := by simpa using hc
   have e : decF f t = decI t := by unfold decF; rw [if_neg h0, if_neg h1]
   rw [e]
   refine Wc.skip (Wc.seq ?_)
   refine gR fun K F => ?_; simp only [go_sem]
   refine gP (pf268 t ht) (by kernel_rfl) (by kernel_rfl) rfl rfl ?_
   simp only [go_sem]; apply F; clear F K
   exact Wc.ret (Pf.ret [.tmp 4, .tmp 5] [.c (.p (.lst (decI t).1.length ((decI t).1.map pI))), .c (.p (.int .i64 (decI t).2))] rfl rfl (by simp only [resultsD, go_sem]) rfl)
structure ColU (A : Type) where
 f : Int
 g : Nat
 w : Nat
 set : A → Int → A
abbrev ColU.pd {A : Type} (c : ColU A) : List Pd := [pI c.f, .fnc c.g, .fnc c.w]
abbrev ColU.r {A : Type} (c : ColU A) : ColR A := (c.f, c.set)
def SetOK {A : Type} (enc : A → List C) (c : ColU A) : Prop := E0.xt c.w = none ∧ E0.opn c.w = true ∧ ∀ {s : St} {L : List (Nat × D × Nat × List Pd)} {M1 M2 : List (Nat × Ob)} {k o : Nat} {pre post : List C} {a : A} {n : Int} {K : D → St → Prop},
  OA s.nx s L (M1 ++ (k, .cells (pre ++ enc a ++ post) false) :: M2) → o = pre.length → (∀ s', OA s'.nx s' L (M1 ++ (k, .cells (pre ++ enc (c.set a n) ++ post) false) :: M2) → K (.tup []) s') → wpCall E0 (.v (.c (.p (.fnc c.w)))) [.v (.c (.ref k o)), .v (.c (.p (pI n)))] s K
def SlS {A : Type} (enc : A → List C) (es : Nat) (l : List A) (L : List (Nat × D × Nat × List Pd)) (M : List (Nat × Ob)) (c6 : C) (s : St) : Prop :=
 (l = [] ∧ (c6 = .nils ∨ ∃ k, c6 = .own 0 [] k) ∧ OA s.nx s L M) ∨ (∃ k, c6 = .mt k 0 l.length es ∧ OA s.nx s L ((k, .cells (l.flatMap enc) false) :: M) ∧ l ≠ []) ∨ ∃ k, c6 = .gs 0 k 0 0 es ∧ OA s.nx s L ((k, .grow es 0 [] false) :: M) ∧ l = []
section
variable {A : Type} {enc : A → List C} {es : Nat} {l : List A} {L : List (Nat × D × Nat × List Pd)} {M : List (Nat × Ob)} {c6 : C} {s : St}
theorem SlS.adv (h : SlS enc es l L M c6 s) {n : Nat} : SlS enc es l L M c6 (s.adv n) := by
 rcases h with ⟨h1, h2, h3⟩ | ⟨k, h1, h2, h3⟩ | ⟨k, h1, h2, h3⟩
 ·exact .inl ⟨h1, h2, (h3.mono (Nat.le_add_right _ n)).adv⟩
 ·exact .inr (.inl ⟨k, h1, (h2.mono (Nat.le_add_right _ n)).adv, h3⟩)
 ·exact .inr (.inr ⟨k, h1, (h2.mono (Nat.le_add_right _ n)).adv, h3⟩)
theorem OA.swap {b : Nat} {x y : Nat × Ob} (h : OA b s L (x :: y :: M)) : OA b s L (y :: x :: M) := by
 refine ⟨h.free, h.own, h.dis, fun z hz => h.at_ z ?_, fun z hz => h.nof z ?_, ?_⟩
 ·simp only [List.mem_cons] at hz ⊢; rcases hz with h | h | h <;> simp [h]
 ·simp only [List.mem_cons] at hz ⊢; rcases hz with h | h | h <;> simp [h]
 ·have hd := h.dism
  simp only [List.pairwise_cons, List.mem_cons] at hd ⊢
  obtain ⟨a1, a2, a3⟩ := hd
  refine ⟨fun z hz => ?_, fun z hz => a1 z (.inr hz), a3⟩
  rcases hz with rfl | hz
  ·exact fun e => a1 y (.inl rfl) e.symm
  ·exact a2 z hz
theorem SlS.newB (h : SlS enc es l L M c6 s) {n k : Nat} {o : Ob} (h1 : s.nx ≤ k) (h2 : k < s.nx + n) (hf : o.isFront = false) : SlS enc es l L ((k, o) :: M) c6 ((s.adv n).put k o) := by
 rcases h with ⟨h3, h4, h5⟩ | ⟨k6, h3, h4, h5⟩ | ⟨k6, h3, h4, h5⟩
 ·exact .inl ⟨h3, h4, ((h5.adv.new h1 hf).mono (by simp only [St.nx_put, St.nx_adv]; omega))⟩
 ·exact .inr (.inl ⟨k6, h3, ((h4.adv.new h1 hf).mono (by simp only [St.nx_put, St.nx_adv]; omega)).swap, h5⟩)
 ·exact .inr (.inr ⟨k6, h3, ((h4.adv.new h1 hf).mono (by simp only [St.nx_put, St.nx_adv]; omega)).swap, h5⟩)
theorem SlS.at8 (h : SlS enc es l L M c6 s) (y : Nat × Ob) (hy : y ∈ M) : s.get y.1 = some y.2 := by
 rcases h with ⟨_, _, h3⟩ | ⟨k, _, h2, _⟩ | ⟨k, _, h2, _⟩
 ·exact h3.at_ y hy
 ·exact h2.at_ y (List.mem_cons_of_mem _ hy)
 ·exact h2.at_ y (List.mem_cons_of_mem _ hy)
theorem SlS.oa (h : SlS enc es l L M c6 s) : OA s.nx s L M := by
 rcases h with ⟨_, _, h3⟩ | ⟨k, _, h2, _⟩ | ⟨k, _, h2, _⟩
 ·exact h3
 ·exact h2.sub (List.Sublist.refl _) (List.sublist_cons_self _ _)
 ·exact h2.sub (List.Sublist.refl _) (List.sublist_cons_self _ _)
theorem SlS.drop {x : Nat × Ob} (h : SlS enc es l L (x :: M) c6 s) : SlS enc es l L M c6 s := by
 rcases h with ⟨h3, h4, h5⟩ | ⟨k6, h3, h4, h5⟩ | ⟨k6, h3, h4, h5⟩
 ·exact .inl ⟨h3, h4, h5.sub (List.Sublist.refl _) (List.sublist_cons_self _ _)⟩
 ·exact .inr (.inl ⟨k6, h3, h4.sub (List.Sublist.refl _) ((List.sublist_cons_self x M).cons_cons _), h5⟩)
 ·exact .inr (.inr ⟨k6, h3, h4.sub (List.Sublist.refl _) ((List.sublist_cons_self x M).cons_cons _), h5⟩)
theorem SlS.len {t e : Nat} {i : TI} (h : SlS enc es l L M c6 s) (ht : E0.ti t = some i) (hk : i.kn = .slice e) : lenD E0 t (.v (.c c6)) = some (.v (.c (.p (.int .i64 (l.length : Int))))) := by
 rcases h with ⟨rfl, h4 | ⟨k, h4⟩, h5⟩ | ⟨k6, h3, h4, h5⟩ | ⟨k6, h3, h4, h5⟩
 ·subst h4; unfold lenD; rw [ht]; simp only [hk]; rfl
 ·subst h4; unfold lenD; rw [ht]; simp only [hk]; rfl
 ·subst h3; unfold lenD; rw [ht]; simp only [hk]; rfl
 ·subst h3 h5; unfold lenD; rw [ht]; simp only [hk]; rfl
theorem SlS.mt (h : SlS enc es l L M c6 s) (hl : l ≠ []) : ∃ k, c6 = .mt k 0 l.length es ∧ OA s.nx s L ((k, .cells (l.flatMap enc) false) :: M) := by
 rcases h with ⟨h3, _⟩ | ⟨k6, h3, h4, h5⟩ | ⟨k6, h3, h4, h5⟩
 ·exact absurd h3 hl
 ·exact ⟨k6, h3, h4⟩
 ·exact absurd h5 hl
end
def prog {A : Type} (f : A → Int → A) (l : List A) (d : List Int) (j : Nat) : List A := List.zipWith f (l.take j) (d.take j) ++ l.drop j
theorem prog_0 {A : Type} (f : A → Int → A) (l : List A) (d : List Int) : prog f l d 0 = l := by simp [prog]
theorem prog_all {A : Type} (f : A → Int → A) {l : List A} {d : List Int} (h : d.length = l.length) : prog f l d d.length = List.zipWith f l d := by
 unfold prog
 rw [List.take_of_length_le (by omega), List.take_of_length_le (by omega), List.drop_of_length_le (by omega), List.append_nil]
theorem prog_len {A : Type} (f : A → Int → A) (l : List A) (d : List Int) (j : Nat) (h : d.length = l.length := by omega) : (prog f l d j).length = l.length := by
 unfold prog
 simp only [List.length_append, List.length_zipWith, List.length_take, List.length_drop]
 omega
theorem zip_snoc {A : Type} (f : A → Int → A) : ∀ {l : List A} {d : List Int} {j : Nat} {a : A} {n : Int}, l[j]? = some a → d[j]? = some n → List.zipWith f (l.take (j + 1)) (d.take (j + 1)) = List.zipWith f (l.take j) (d.take j) ++ [f a n]
 | [], d, j, a, n, h, _ => by simp at h
 | _ :: _, [], j, a, n, _, h => by simp at h
 | x :: l, y :: d, 0, a, n, h1, h2 => by
  simp at h1 h2
  subst h1 h2
  simp
 | x :: l, y :: d, j + 1, a, n, h1, h2 => by
  simp only [List.take_succ_cons, List.zipWith_cons_cons, List.cons_append]
  rw [zip_snoc f (by simpa using h1) (by simpa using h2)]
theorem prog_step {A : Type} (f : A → Int → A) {l : List A} {d : List Int} {j : Nat} {a : A} {n : Int} (h1 : l[j]? = some a) (h2 : d[j]? = some n) :
  prog f l d j = List.zipWith f (l.take j) (d.take j) ++ a :: l.drop (j + 1) ∧ prog f l d (j + 1) = List.zipWith f (l.take j) (d.take j) ++ f a n :: l.drop (j + 1) := by
 have hj := (List.getElem?_eq_some_iff.1 h1).1
 refine ⟨?_, ?_⟩
 ·unfold prog
  rw [List.drop_eq_getElem_cons hj, (List.getElem?_eq_some_iff.1 h1).2]
 ·unfold prog
  rw [zip_snoc f h1 h2]; simp
theorem flat_mid {A B : Type} (f : A → List B) (p q : List A) (a : A) : (p ++ a :: q).flatMap f = p.flatMap f ++ f a ++ q.flatMap f := by simp
theorem flatC_len {A B : Type} {f : A → List B} {k : Nat} (h : ∀ a, (f a).length = k) : ∀ l : List A, (l.flatMap f).length = l.length * k
 | [] => by simp
 | a :: r => by rw [List.flatMap_cons, List.length_append, h, flatC_len h r, List.length_cons, Nat.add_mul]; omega
theorem repl_flat {A : Type} (f : A → List C) (z : A) : ∀ n : Nat, repl n (f z) = (List.replicate n z).flatMap f
 | 0 => rfl
 | n + 1 => by rw [repl, repl_flat f z n, List.replicate_succ, List.flatMap_cons]
theorem zipWith_rep {A : Type} (f : A → Int → A) (z : A) : ∀ d : List Int, List.zipWith f (List.replicate d.length z) d = d.map (f z)
 | [] => rfl
 | x :: r => by rw [List.length_cons, List.replicate_succ, List.zipWith_cons_cons, zipWith_rep f z r, List.map_cons]
theorem unpk_first {A : Type} (z : A) (c : ColR A) (cs : List (ColR A)) (x : List UInt8) (ss : List (List UInt8)) : unpk z (c :: cs) (x :: ss) = unpkG (c :: cs) (x :: ss) (List.replicate (decF c.1 x).1.length z) := by
 simp only [unpk, unpkG, zipWith_rep, List.length_replicate]
 by_cases h : (decF c.1 x).2 ≠ 0
 ·rw [if_pos h, if_pos (.inl h)]
 ·rw [if_neg h, if_neg (by rintro (h' | h'); exact h h'; exact h' rfl)]
theorem decF_len (f : Int) (s : List UInt8) : (decF f s).1.length ≤ 20001 := by
 have col : ∀ rd enc, (∀ m st, (rd m st : List Int × RdT).1.length ≤ m) → (colR rd enc s).1.length ≤ 20000 := fun rd enc h => by
  unfold colR
  simp only
  split
  ·simp
  ·split
   ·simp
   ·split
    ·simp
    ·split
     ·have := h (numR rdV s (0, 0)).1.toNat (numR rdV s (0, 0)).2
      simp only
      omega
     ·simp
 have rn : ∀ k s, (rdN k s).1.length ≤ k := fun k => by
  induction k with
  | zero => intro s; simp [rdN]
  | succ k ih =>
   intro s
   rw [rdN]
   split
   ·simp
   ·split
    ·simp
    ·have := ih (s.drop (rdS s).2.1)
     simp only [List.length_cons]; omega
 unfold decF
 split
 ·have := col (timesR s) encT (timesR_len s); unfold decT; omega
 ·split
  ·have := col (valuesR s) encV (valuesR_len s); unfold decV; omega
  ·unfold decI
   split
   ·simp
   ·split
    ·simp
    ·split
     ·simp
     ·split
      ·simp
      ·have := rn (rdV s).1.toNat (s.drop (rdV s).2.1)
       simp only
       omega
theorem o241 : E0.opn 241 = false := by kernel_rfl
theorem x241 : E0.xt 241 = none := by kernel_rfl
theorem setR_mid {pre E post : List C} {o : Nat} {c : C} (h : o < E.length) : setR (pre ++ E ++ post) (pre.length + o) [c] = pre ++ E.set o c ++ post := by
 have h1 : setR (pre ++ E ++ post) (pre.length + o) [c] = (pre ++ E ++ post).set (pre.length + o) c := by
  rw [List.set_eq_take_append_cons_drop, if_pos (by simp; omega)]
  simp only [setR, List.length_cons, List.length_nil, Nat.zero_add, List.append_assoc, List.cons_append, List.nil_append]
 rw [h1, List.append_assoc, List.set_append, if_neg (by omega), Nat.add_sub_cancel_left, List.set_append, if_pos h, List.append_assoc]
theorem setOK_of {A : Type} {enc : A → List C} {c : ColU A} {fn : Func} {code : Code} (hx : E0.xt c.w = none) (ho : E0.opn c.w = true) (hf : E0.fn c.w = some fn) (hb : fn.body = some code) (j : Nat) (hj : ∀ a, j < (enc a).length) (hse : ∀ a n, (enc a).set j (.p (pI n)) = enc (c.set a n))
  (h : ∀ (s : St) (k o : Nat) (n : Int) (cs : List C) (K : D → St → Prop), s.get k = some (.cells cs false) → o + j + 1 ≤ cs.length → (∀ m, K (.tup []) ((s.adv m).put k (.cells (setR cs (o + j) [.p (pI n)]) false))) → Wc E0 none code { e := [.v (.c (.ref k o)), .v (.c (.p (pI n)))] ++ List.replicate (fn.ntmps - 2) (.tup []), ds := [], s := s } (bodyQ E0 fn K)) : SetOK enc c := by
 refine ⟨hx, ho, fun {s L M1 M2 k o pre post a n K} hoa hop F => ?_⟩
 subst hop
 refine wpCall.opn hx ho rfl hf hb ?_
 have hg := hoa.at_ (k, .cells (pre ++ enc a ++ post) false) (by simp)
 refine h s k pre.length n _ K hg (by have := hj a; simp only [List.length_append]; omega) fun m => F _ ?_
 rw [setR_mid (hj a), hse]
 exact (OA.set hoa.adv rfl).mono (by simp only [St.nx_put, St.nx_adv]; omega)
end Go.Proofs.YtedcnhbblgmdnaaGreat.Ab
namespace Go.Proofs.YtedcnhbblgmdnaaGreat.Ab
set_option maxHeartbeats 8000000
set_option maxRecDepth 10000
set_option linter.unusedSimpArgs false
set_option linter.unusedVariables false
abbrev encB (b : Bkt) : List C := b.pd.map .p
theorem setOK_ofV {A : Type} {enc : A → List C} {c : ColU A} {fn : Func} {code : Code} (v : Int → Int) (hx : E0.xt c.w = none) (ho : E0.opn c.w = true) (hf : E0.fn c.w = some fn) (hb : fn.body = some code) (j : Nat) (hj : ∀ a, j < (enc a).length) (hse : ∀ a n, (enc a).set j (.p (pI (v n))) = enc (c.set a n))
  (h : ∀ (s : St) (k o : Nat) (n : Int) (cs : List C) (K : D → St → Prop), s.get k = some (.cells cs false) → o + j + 1 ≤ cs.length → (∀ m, K (.tup []) ((s.adv m).put k (.cells (setR cs (o + j) [.p (pI (v n))]) false))) → Wc E0 none code { e := [.v (.c (.ref k o)), .v (.c (.p (pI n)))] ++ List.replicate (fn.ntmps - 2) (.tup []), ds := [], s := s } (bodyQ E0 fn K)) : SetOK enc c := by
 refine ⟨hx, ho, fun {s L M1 M2 k o pre post a n K} hoa hop F => ?_⟩
 subst hop
 refine wpCall.opn hx ho rfl hf hb ?_
 have hg := hoa.at_ (k, .cells (pre ++ enc a ++ post) false) (by simp)
 refine h s k pre.length n _ K hg (by have := hj a; simp only [List.length_append]; omega) fun m => F _ ?_
 rw [setR_mid (hj a), hse]
 exact (OA.set hoa.adv rfl).mono (by simp only [St.nx_put, St.nx_adv]; omega)
theorem set158 : SetOK encB (⟨0, 157, 158, fun b n => { b with st := IntKind.i64.wrap (n - 1) }⟩ : ColU Bkt) := setOK_ofV (fun n => IntKind.i64.wrap (n - 1)) (fn := Tryz.f158) (by kernel_rfl) (by kernel_rfl) (by kernel_rfl) rfl 0 (fun a => by simp) (fun a n => rfl) fun s k o n cs K hg hl F => by
 have hl' : (o + 1 ≤ cs.length) = True := eq_true hl
 simp only [List.map_cons, List.map_nil, List.cons_append, List.nil_append, List.length_cons, List.length_nil, Tryz.ntmps158, List.replicate, Nat.reduceSub, Nat.reduceAdd]
 refine gR fun K F => ?_; simp only [go_sem, hg, hl']; apply F; clear F K
 exact bodyQ.normal (vs := []) rfl rfl (F _)
theorem set160 : SetOK encB (⟨1, 159, 160, fun b n => { b with c := n }⟩ : ColU Bkt) := setOK_of (fn := Tryz.f160) (by kernel_rfl) (by kernel_rfl) (by kernel_rfl) rfl 1 (fun a => by simp) (fun a n => rfl) fun s k o n cs K hg hl F => by
 have hl' : (o + 2 ≤ cs.length) = True := eq_true hl
 simp only [List.map_cons, List.map_nil, List.cons_append, List.nil_append, List.length_cons, List.length_nil, Tryz.ntmps160, List.replicate, Nat.reduceSub, Nat.reduceAdd]
 refine gR fun K F => ?_; simp only [go_sem, hg, hl']; apply F; clear F K
 exact bodyQ.normal (vs := []) rfl rfl (F _)
theorem set162 : SetOK encB (⟨1, 161, 162, fun b n => { b with s := n }⟩ : ColU Bkt) := setOK_of (fn := Tryz.f162) (by kernel_rfl) (by kernel_rfl) (by kernel_rfl) rfl 2 (fun a => by simp) (fun a n => rfl) fun s k o n cs K hg hl F => by
 have hl' : (o + 3 ≤ cs.length) = True := eq_true hl
 simp only [List.map_cons, List.map_nil, List.cons_append, List.nil_append, List.length_cons, List.length_nil, Tryz.ntmps162, List.replicate, Nat.reduceSub, Nat.reduceAdd]
 refine gR fun K F => ?_; simp only [go_sem, hg, hl']; apply F; clear F K
 exact bodyQ.normal (vs := []) rfl rfl (F _)
theorem set164 : SetOK encB (⟨1, 163, 164, fun b n => { b with mn := n }⟩ : ColU Bkt) := setOK_of (fn := Tryz.f164) (by kernel_rfl) (by kernel_rfl) (by kernel_rfl) rfl 3 (fun a => by simp) (fun a n => rfl) fun s k o n cs K hg hl F => by
 have hl' : (o + 4 ≤ cs.length) = True := eq_true hl
 simp only [List.map_cons, List.map_nil, List.cons_append, List.nil_append, List.length_cons, List.length_nil, Tryz.ntmps164, List.replicate, Nat.reduceSub, Nat.reduceAdd]
 refine gR fun K F => ?_; simp only [go_sem, hg, hl']; apply F; clear F K
 exact bodyQ.normal (vs := []) rfl rfl (F _)
theorem set166 : SetOK encB (⟨1, 165, 166, fun b n => { b with mx := n }⟩ : ColU Bkt) := setOK_of (fn := Tryz.f166) (by kernel_rfl) (by kernel_rfl) (by kernel_rfl) rfl 4 (fun a => by simp) (fun a n => rfl) fun s k o n cs K hg hl F => by
 have hl' : (o + 5 ≤ cs.length) = True := eq_true hl
 simp only [List.map_cons, List.map_nil, List.cons_append, List.nil_append, List.length_cons, List.length_nil, Tryz.ntmps166, List.replicate, Nat.reduceSub, Nat.reduceAdd]
 refine gR fun K F => ?_; simp only [go_sem, hg, hl']; apply F; clear F K
 exact bodyQ.normal (vs := []) rfl rfl (F _)
theorem set168 : SetOK encB (⟨1, 167, 168, fun b n => { b with f := n }⟩ : ColU Bkt) := setOK_of (fn := Tryz.f168) (by kernel_rfl) (by kernel_rfl) (by kernel_rfl) rfl 5 (fun a => by simp) (fun a n => rfl) fun s k o n cs K hg hl F => by
 have hl' : (o + 6 ≤ cs.length) = True := eq_true hl
 simp only [List.map_cons, List.map_nil, List.cons_append, List.nil_append, List.length_cons, List.length_nil, Tryz.ntmps168, List.replicate, Nat.reduceSub, Nat.reduceAdd]
 refine gR fun K F => ?_; simp only [go_sem, hg, hl']; apply F; clear F K
 exact bodyQ.normal (vs := []) rfl rfl (F _)
theorem set170 : SetOK encB (⟨1, 169, 170, fun b n => { b with l := n }⟩ : ColU Bkt) := setOK_of (fn := Tryz.f170) (by kernel_rfl) (by kernel_rfl) (by kernel_rfl) rfl 6 (fun a => by simp) (fun a n => rfl) fun s k o n cs K hg hl F => by
 have hl' : (o + 7 ≤ cs.length) = True := eq_true hl
 simp only [List.map_cons, List.map_nil, List.cons_append, List.nil_append, List.length_cons, List.length_nil, Tryz.ntmps170, List.replicate, Nat.reduceSub, Nat.reduceAdd]
 refine gR fun K F => ?_; simp only [go_sem, hg, hl']; apply F; clear F K
 exact bodyQ.normal (vs := []) rfl rfl (F _)
theorem set172 : SetOK encB (⟨1, 171, 172, fun b n => { b with ft := n }⟩ : ColU Bkt) := setOK_of (fn := Tryz.f172) (by kernel_rfl) (by kernel_rfl) (by kernel_rfl) rfl 7 (fun a => by simp) (fun a n => rfl) fun s k o n cs K hg hl F => by
 have hl' : (o + 8 ≤ cs.length) = True := eq_true hl
 simp only [List.map_cons, List.map_nil, List.cons_append, List.nil_append, List.length_cons, List.length_nil, Tryz.ntmps172, List.replicate, Nat.reduceSub, Nat.reduceAdd]
 refine gR fun K F => ?_; simp only [go_sem, hg, hl']; apply F; clear F K
 exact bodyQ.normal (vs := []) rfl rfl (F _)
theorem set174 : SetOK encB (⟨1, 173, 174, fun b n => { b with lt := n }⟩ : ColU Bkt) := setOK_of (fn := Tryz.f174) (by kernel_rfl) (by kernel_rfl) (by kernel_rfl) rfl 8 (fun a => by simp) (fun a n => rfl) fun s k o n cs K hg hl F => by
 have hl' : (o + 9 ≤ cs.length) = True := eq_true hl
 simp only [List.map_cons, List.map_nil, List.cons_append, List.nil_append, List.length_cons, List.length_nil, Tryz.ntmps174, List.replicate, Nat.reduceSub, Nat.reduceAdd]
 refine gR fun K F => ?_; simp only [go_sem, hg, hl']; apply F; clear F K
 exact bodyQ.normal (vs := []) rfl rfl (F _)
theorem set176 : SetOK encB (⟨1, 175, 176, fun b n => { b with inc := n }⟩ : ColU Bkt) := setOK_of (fn := Tryz.f176) (by kernel_rfl) (by kernel_rfl) (by kernel_rfl) rfl 9 (fun a => by simp) (fun a n => rfl) fun s k o n cs K hg hl F => by
 have hl' : (o + 10 ≤ cs.length) = True := eq_true hl
 simp only [List.map_cons, List.map_nil, List.cons_append, List.nil_append, List.length_cons, List.length_nil, Tryz.ntmps176, List.replicate, Nat.reduceSub, Nat.reduceAdd]
 refine gR fun K F => ?_; simp only [go_sem, hg, hl']; apply F; clear F K
 exact bodyQ.normal (vs := []) rfl rfl (F _)
def bktU : List (ColU Bkt) := [(⟨0, 157, 158, fun b n => { b with st := IntKind.i64.wrap (n - 1) }⟩ : ColU Bkt), (⟨1, 159, 160, fun b n => { b with c := n }⟩ : ColU Bkt), (⟨1, 161, 162, fun b n => { b with s := n }⟩ : ColU Bkt), (⟨1, 163, 164, fun b n => { b with mn := n }⟩ : ColU Bkt), (⟨1, 165, 166, fun b n => { b with mx := n }⟩ : ColU Bkt), (⟨1, 167, 168, fun b n => { b with f := n }⟩ : ColU Bkt), (⟨1, 169, 170, fun b n => { b with l := n }⟩ : ColU Bkt), (⟨1, 171, 172, fun b n => { b with ft := n }⟩ : ColU Bkt), (⟨1, 173, 174, fun b n => { b with lt := n }⟩ : ColU Bkt), (⟨1, 175, 176, fun b n => { b with inc := n }⟩ : ColU Bkt)]
theorem bktU_ok : ∀ c ∈ bktU, SetOK encB c := by
 intro c hc
 simp only [bktU, List.mem_cons, List.not_mem_nil, or_false] at hc
 rcases hc with rfl | rfl | rfl | rfl | rfl | rfl | rfl | rfl | rfl | rfl
 ·exact set158
 ·exact set160
 ·exact set162
 ·exact set164
 ·exact set166
 ·exact set168
 ·exact set170
 ·exact set172
 ·exact set174
 ·exact set176
theorem uw202 {s : St} {L : List (Nat × D × Nat × List Pd)} {M : List (Nat × Ob)} {z : Bkt} {cols : List (ColU Bkt)} {ss : List (List UInt8)} {K : D → St → Prop} (h : OA s.nx s L M) (hz : ∃ zz, E0.ti 41 = some zz ∧ zz.zero = some (encB z)) (hcl : cols.length < 2^20) (hsl : ss.length = cols.length)
  (hss : ∀ x ∈ ss, x.length < 2^40) (hcol : ∀ c ∈ cols, SetOK encB c) (hel : ∀ a : Bkt, (encB a).length = 10)
  (hK0 : unpk z (cols.map ColU.r) ss = none → ∀ s', OA s'.nx s' L M → K (.tup [.c .nils, .c (.p (.bool false))]) s')
  (hK1 : ∀ l, unpk z (cols.map ColU.r) ss = some l → ∀ s' c6, SlS encB 10 l L M c6 s' → K (.tup [.c c6, .c (.p (.bool true))]) s') :
  Wc E0 none (Tryz.f202.body.get rfl) { e := [V.c (.p (.lst ss.length (ss.map .str))), V.c (.p (.lst cols.length (cols.flatMap ColU.pd)))].map .v ++ List.replicate (Tryz.f202.ntmps - 2) (.tup []), ds := [], s := s } (bodyQ E0 Tryz.f202 K) := by
 show Wc E0 none _ _ _
 simp only [List.map_cons, List.map_nil, List.cons_append, List.nil_append, List.length_cons, List.length_nil, Tryz.ntmps202, List.replicate, Nat.reduceSub, Nat.reduceAdd]
 generalize hU : unpk z (cols.map ColU.r) ss = U at hK0 hK1
 refine gS fun K F => ?_; simp only [go_sem]; apply F; clear F K
 refine gS fun K F => ?_; simp only [go_sem]; apply F; clear F K
 refine Wc.seqR (fun y => ∃ (l : List Bkt) (c6 : C), U = some l ∧ y.ds = [] ∧ Fs y.e 59 [(6, .v (.c c6))] ∧ SlS encB 10 l L M c6 y.s) ?_ ?_
 ·refine gS fun K F => ?_; simp only [go_sem, nZ]; apply F; clear F K
  refine Wc.block (Wc.loop (fun k y => ∃ (i : Nat) (l : List Bkt) (c6 : C), k = cols.length - i ∧ i ≤ cols.length ∧ y.ds = [] ∧ Fs y.e 59 [(0, P' (.lst ss.length (ss.map .str))), (13, P' (.lst cols.length (cols.flatMap ColU.pd))), (14, P' (pI cols.length)), (15, P' (pI i)), (6, .v (.c c6))] ∧ SlS encB 10 l L M c6 y.s ∧ (i = 0 → l = []) ∧ (0 < i → U = unpkG ((cols.map ColU.r).drop i) (ss.drop i) l)) ?_ (k := cols.length) ?_)
  ·rintro k ⟨e, ds, s1⟩ ⟨i, l, c6, rfl, hi, rfl, hF, ho, hi0, hUi⟩
   simp only [Fs] at hF ho
   refine gS fun K F => ?_; simp only [go_sem, hF]; apply F; clear F K
   refine Wc.seq (Wc.cond (t := decide ((i : Int) < cols.length)) (by simp only [go_sem, hF]) (fun hc => ?_) (fun hc => ?_))
   ·have hil : i < cols.length := by have : (i : Int) < cols.length := by simpa using hc
                                     omega
    obtain ⟨c, hc1⟩ : ∃ c, cols[i]? = some c := ⟨cols[i], List.getElem?_eq_getElem hil⟩
    obtain ⟨x, hx1⟩ : ∃ x, ss[i]? = some x := ⟨ss[i], List.getElem?_eq_getElem (by omega)⟩
    have hxl := hss x (List.mem_of_getElem? hx1)
    obtain ⟨hxt, hopn, hset⟩ := hcol c (List.mem_of_getElem? hc1)
    have hcr : (cols.map ColU.r).drop i = c.r :: (cols.map ColU.r).drop (i + 1) := by
     rw [← List.map_drop, List.drop_eq_getElem_cons hil, (List.getElem?_eq_some_iff.1 hc1).2, List.map_cons, List.map_drop]
    have hxr : ss.drop i = x :: ss.drop (i + 1) := by rw [List.drop_eq_getElem_cons (by omega), (List.getElem?_eq_some_iff.1 hx1).2]
    have hU1 : U = if (decF c.f x).2 ≠ 0 ∨ (decF c.f x).1.length ≠ (if i = 0 then List.replicate (decF c.f x).1.length z else l).length then none else unpkG ((cols.map ColU.r).drop (i + 1)) (ss.drop (i + 1)) (List.zipWith c.set (if i = 0 then List.replicate (decF c.f x).1.length z else l) (decF c.f x).1) := by
     by_cases h0 : i = 0
     ·subst h0
      rw [List.drop_zero] at hcr hxr
      rw [← hU, hcr, hxr, if_pos rfl, unpk_first]
      rfl
     ·rw [hUi (by omega), hcr, hxr, if_neg h0]
      rfl
    clear hUi hcr hxr
    have hic := ixA ti158 rfl ti212 (j := i) (m := cols.length) (cs := cols.flatMap ColU.pd) hil (by rw [flat_len (k := 3) (fun _ => rfl)]) (by decide)
    have hca := rpA (off := i * 3) (drop_flat (f := ColU.pd) (k := 3) (fun _ => rfl) hc1) (by rw [flat_len (k := 3) (fun _ => rfl)]; omega)
    have his := ixA ti155 rfl ti9 (j := i) (m := ss.length) (cs := ss.map .str) (by omega) (by simp) (by decide)
    have hcs := rpA (off := i) (drop_map Pd.str hx1) (by simp; omega)
    refine Wc.skip (Wc.seq (Wc.block ?_))
    refine Wc.seqA (fun y => ∃ k8, y.ds = [] ∧ Fs y.e 59 [(0, P' (.lst ss.length (ss.map .str))), (13, P' (.lst cols.length (cols.flatMap ColU.pd))), (14, P' (pI cols.length)), (15, P' (pI i)), (6, .v (.c c6)), (7, P' (pI i)), (8, .v (.c (.ref k8 0)))] ∧ SlS encB 10 l L ((k8, .cells [.p (pI c.f), .p (.fnc c.g), .p (.fnc c.w)] false) :: M) c6 y.s) ?_ ?_
    ·refine gR fun K F => ?_; simp only [go_sem, hF, hic, hca]; apply F; clear F K
     exact ⟨rfl, s1.nx + 1 + 3, rfl, by simp only [Fs, nZ, go_sem, hF], (ho.adv (n := 1)).newB (n := 6) (k := s1.nx + 1 + 3) (by simp only [St.nx_adv]; omega) (by simp only [St.nx_adv]; omega) rfl⟩
    clear hF ho e s1
    rintro ⟨e, ds, s1⟩ ⟨k8, rfl, hF, ho⟩
    simp only [Fs] at hF ho
    have g8 := ho.at8 (k8, .cells [.p (pI c.f), .p (.fnc c.g), .p (.fnc c.w)] false) (by simp)
    simp only at g8
    refine Wc.seq ?_
    refine Wc.regD fun K F => ?_; simp only [go_sem, hF, g8, his, hcs]
    refine ⟨by simp [o241, x241, plainD, plainV, plainC], ?_⟩
    refine gP (pf241 c.f x hxl) x241 o241 rfl rfl ?_
    simp only [go_sem, hF]; apply F; clear F K
    have hoM : OA s1.nx s1 L M := ho.oa.sub (List.Sublist.refl _) (List.sublist_cons_self _ _)
    have hdl : (decF c.f x).1.length ≤ 20001 := decF_len _ _
    generalize hd : decF c.f x = d at *
    obtain ⟨d, er⟩ := d
    simp only at hU1 hdl
    refine Wc.seq (Wc.seq ?_)
    refine gR fun K F => ?_; simp only [go_sem, hF]; apply F; clear F K
    refine Wc.cond (t := (er != 0)) (by simp only [go_sem, hF]) (fun hc => ?_) (fun hc => ?_)
    ·have h0 : er ≠ 0 := by simpa using hc
     rw [if_pos (.inl h0)] at hU1
     refine gS fun K F => ?_; simp only [go_sem, hF]; apply F; clear F K
     exact Wc.ret (show bodyQ E0 Tryz.f202 K .ret _ from Op.ret [.tmp 4, .tmp 5] [.c .nils, .c (.p (.bool false))] rfl rfl (by simp only [resultsD, go_sem, hF]) (hK0 hU1 _ (by (try simp only [St.nx_put, St.nx_adv]); repeat (first | exact OA.mono hoM (by omega) | refine OA.newB ?_ (by omega) rfl | refine OA.advB ?_))))
    have h0 : er = 0 := by simpa using hc
    generalize hl0 : (if i = 0 then List.replicate d.length z else l) = l0 at hU1
    refine Wc.skip ?_
    refine Wc.seqA (fun y => ∃ c6, y.ds = [] ∧ Fs y.e 59 [(0, P' (.lst ss.length (ss.map .str))), (13, P' (.lst cols.length (cols.flatMap ColU.pd))), (14, P' (pI cols.length)), (15, P' (pI i)), (6, .v (.c c6)), (7, P' (pI i)), (8, .v (.c (.ref k8 0))), (9, P' (.lst d.length (d.map pI)))] ∧ SlS encB 10 l0 L ((k8, .cells [.p (pI c.f), .p (.fnc c.g), .p (.fnc c.w)] false) :: M) c6 y.s) ?_ ?_
    ·refine gS fun K F => ?_; simp only [go_sem, hF]; apply F; clear F K
     refine Wc.cond (t := ((i : Int) == 0)) (by simp only [go_sem, hF]) (fun hc => ?_) (fun hc => ?_)
     ·have hi00 : i = 0 := by have : (i : Int) = 0 := by simpa using hc
                              omega
      rw [if_pos hi00] at hl0
      have hll := hi0 hi00
      subst hll
      have ho0 := ho.oa
      have hgt : E0.gt 29 = true := rfl
      by_cases hd0 : d.length = 0
      ·have hsz : (((80 : Nat) : Int) * 0 ≤ 140737488355328) = True := by simp
       have hdi : ((d.length : Nat) : Int) = 0 := by omega
       refine gR fun K F => ?_; simp only [go_sem, hF, hdi, hsz, hgt]; apply F; clear F K
       refine ⟨rfl, .gs 0 (s1.nx + 16 + 2) 0 0 10, rfl, by simp only [Fs, nZ, go_sem, hF, hdi], ?_⟩
       subst hl0
       rw [hd0]
       exact .inr (.inr ⟨_, rfl, (OA.new (k := s1.nx + 16 + 2) (o := .grow 10 0 [] false) ho0.adv.adv.adv.adv (by omega) rfl).mono (by simp only [St.nx_put, St.nx_adv]; omega), rfl⟩)
      ·have hm1 : (((80 : Nat) : Int) * (d.length : Int) ≤ 140737488355328) = True := by simp only [eq_iff_iff, iff_true]; omega
       have hm2 : ((d.length : Int) ≤ 9223372036854775807) = True := by simp only [eq_iff_iff, iff_true]; omega
       have hm3 : ((d.length : Int) = 0) = False := by simp only [eq_iff_iff, iff_false]; omega
       refine gR fun K F => ?_; simp only [go_sem, hF, hm1, hm2, hm3, hgt, Int.le_refl]; apply F; clear F K
       refine ⟨rfl, .mt (s1.nx + 16 + 2) 0 d.length 10, rfl, by simp only [Fs, nZ, go_sem, hF], ?_⟩
       subst hl0
       obtain ⟨zz, hz1, hz2⟩ := hz
       rw [ti41] at hz1
       cases hz1
       simp only [Option.some.injEq] at hz2
       rw [hz2]
       refine .inr (.inl ⟨_, by rw [List.length_replicate], ?_, by intro e; have := congrArg List.length e; rw [List.length_replicate, List.length_nil] at this; exact hd0 this⟩)
       rw [← repl_flat]
       exact by (try simp only [St.nx_put, St.nx_adv]); repeat (first | exact OA.mono ho0 (by omega) | refine OA.newB ?_ (by omega) rfl | refine OA.advB ?_)
     ·have hi00 : ¬ i = 0 := by have : ¬ (i : Int) = 0 := by simpa using hc
                                omega
      rw [if_neg hi00] at hl0
      subst hl0
      exact Wc.skip ⟨rfl, c6, rfl, by simp only [Fs, nZ, go_sem, hF], (by repeat (first | exact ho | refine SlS.adv ?_))⟩
    clear hF ho g8 hoM e s1 hi0
    rintro ⟨e, ds, s1⟩ ⟨c6, rfl, hF, ho⟩
    simp only [Fs] at hF ho
    have hoM : OA s1.nx s1 L M := ho.oa.sub (List.Sublist.refl _) (List.sublist_cons_self _ _)
    have hlen6 : lenD E0 29 (.v (.c c6)) = some (.v (.c (.p (.int .i64 (l0.length : Int))))) := ho.len ti29 rfl
    refine Wc.seq (Wc.seq ?_)
    refine gR fun K F => ?_; simp only [go_sem, hF, hlen6]; apply F; clear F K
    refine Wc.cond (t := ((d.length : Int) != (l0.length : Int))) (by simp only [go_sem, hF]) (fun hc => ?_) (fun hc => ?_)
    ·have h1 : d.length ≠ l0.length := by have : ¬ (d.length : Int) = (l0.length : Int) := by simpa using hc
                                          omega
     rw [if_pos (.inr h1)] at hU1
     refine gS fun K F => ?_; simp only [go_sem, hF]; apply F; clear F K
     exact Wc.ret (show bodyQ E0 Tryz.f202 K .ret _ from Op.ret [.tmp 4, .tmp 5] [.c .nils, .c (.p (.bool false))] rfl rfl (by simp only [resultsD, go_sem, hF]) (hK0 hU1 _ (by (try simp only [St.nx_put, St.nx_adv]); repeat (first | exact OA.mono hoM (by omega) | refine OA.newB ?_ (by omega) rfl | refine OA.advB ?_))))
    have h1 : d.length = l0.length := by have : (d.length : Int) = (l0.length : Int) := by simpa using hc
                                         omega
    rw [if_neg (by rintro (h | h) <;> contradiction)] at hU1
    refine Wc.skip ?_
    refine gS fun K F => ?_; simp only [go_sem, hF, nZ]; apply F; clear F K
    refine Wc.block (Wc.loop (fun q y => ∃ j : Nat, q = d.length - j ∧ j ≤ d.length ∧ y.ds = [] ∧ Fs y.e 59 [(0, P' (.lst ss.length (ss.map .str))), (13, P' (.lst cols.length (cols.flatMap ColU.pd))), (14, P' (pI cols.length)), (15, P' (pI i)), (6, .v (.c c6)), (7, P' (pI i)), (8, .v (.c (.ref k8 0))), (42, P' (.lst d.length (d.map pI))), (43, P' (pI d.length)), (44, P' (pI j))] ∧ SlS encB 10 (prog c.set l0 d j) L ((k8, .cells [.p (pI c.f), .p (.fnc c.g), .p (.fnc c.w)] false) :: M) c6 y.s) ?_ (k := d.length) ?_)
    ·clear hF ho hoM hlen6 e s1
     rintro q ⟨e, ds, s1⟩ ⟨j, rfl, hj, rfl, hF, ho⟩
     simp only [Fs] at hF ho
     refine gS fun K F => ?_; simp only [go_sem, hF]; apply F; clear F K
     refine Wc.seq (Wc.cond (t := decide ((j : Int) < d.length)) (by simp only [go_sem, hF]) (fun hc => ?_) (fun hc => ?_))
     ·have hjl : j < d.length := by have : (j : Int) < d.length := by simpa using hc
                                    omega
      obtain ⟨n, hn⟩ : ∃ n, d[j]? = some n := ⟨d[j], List.getElem?_eq_getElem hjl⟩
      obtain ⟨a, ha⟩ : ∃ a, l0[j]? = some a := ⟨l0[j], List.getElem?_eq_getElem (by omega)⟩
      have hin := ixA ti175 rfl ti3 (j := j) (m := d.length) (cs := d.map pI) hjl (by simp) (by decide)
      have hcn := rpA (off := j) (drop_map pI hn) (by simp; omega)
      obtain ⟨p1, p2⟩ := prog_step c.set ha hn
      have hpl := prog_len c.set l0 d j h1
      have hpl2 := prog_len c.set l0 d (j + 1) h1
      obtain ⟨k6, rfl, ho6⟩ := ho.mt (by rw [p1]; simp)
      rw [p1, flat_mid] at ho6
      have g8 := ho6.at_ ((k8, .cells [.p (pI c.f), .p (.fnc c.g), .p (.fnc c.w)] false)) (by simp)
      simp only at g8
      have hi6 := ixM ti29 rfl ti41 (r := k6) (off := 0) (j := j) (m := (prog c.set l0 d j).length) (es := 10) (by omega) rfl
      have hpre : ((List.zipWith c.set (l0.take j) (d.take j)).flatMap encB).length = j * 10 := by
       rw [flatC_len hel, List.length_zipWith, List.length_take, List.length_take]
       congr 1
       omega
      refine Wc.skip (Wc.seq (Wc.block (Wc.seq ?_)))
      refine gR fun K F => ?_; simp only [go_sem, hF, hin, hcn]; apply F; clear F K
      refine Wc.regT fun K F => ?_; simp only [go_sem, hF, g8, hi6, hxt, hopn]
      refine hset (M1 := []) (OA.mono (ho6.adv.adv.adv) (by simp only [St.nx_adv]; omega)) hpre.symm fun s2 ho2 => ?_
      simp only [go_sem, hF, g8, hi6, hxt, hopn]
      refine ⟨by rfl, F _ _ ?_⟩
      clear F K
      refine gR fun K F => ?_; simp only [go_sem, hF, i64n j (by omega)]; apply F; clear F K
      refine ⟨d.length - (j + 1), by omega, j + 1, rfl, by omega, rfl, by simp only [Fs, nZ, go_sem, hF], .inr (.inl ⟨k6, ?_, ?_, ?_⟩)⟩
      ·rw [hpl, hpl2]
      ·rw [p2, flat_mid]
       exact by (try simp only [St.nx_put, St.nx_adv]); repeat (first | exact OA.mono ho2 (by omega) | refine OA.newB ?_ (by omega) rfl | refine OA.advB ?_)
      ·rw [p2]; simp
     ·have hjl : j = d.length := by have : ¬ (j : Int) < d.length := by simpa using hc
                                    omega
      subst hjl
      rw [prog_all _ h1] at ho
      refine Wc.exit ?_
      refine gR fun K F => ?_; simp only [go_sem, hF, i64n i (by omega)]; apply F; clear F K
      exact ⟨cols.length - (i + 1), by omega, i + 1, _, c6, rfl, by omega, rfl, by simp only [Fs, nZ, go_sem, hF], (SlS.drop (x := (k8, .cells [.p (pI c.f), .p (.fnc c.g), .p (.fnc c.w)] false)) (by repeat (first | exact ho | refine SlS.adv ?_))), fun h => by omega, fun _ => hU1⟩
    ·exact ⟨0, rfl, by omega, rfl, by simp only [Fs, nZ, go_sem, hF], by rw [prog_0]; exact (by repeat (first | exact ho | refine SlS.adv ?_))⟩
   ·have hil : i = cols.length := by have : ¬ (i : Int) < cols.length := by simpa using hc
                                     omega
    subst hil
    refine Wc.exit ⟨l, c6, ?_, rfl, by simp only [Fs, nZ, go_sem, hF], ho.adv (n := 1)⟩
    by_cases h0 : cols.length = 0
    ·rw [hi0 h0, ← hU]
     have : cols = [] := List.length_eq_zero_iff.1 h0
     subst this; rfl
    ·rw [hUi (by omega), List.drop_of_length_le (by simp)]
     unfold unpkG; rfl
  ·exact ⟨0, [], .nils, rfl, by omega, rfl, by simp only [Fs, nZ, go_sem], .inl ⟨rfl, .inl rfl, by (try simp only [St.nx_put, St.nx_adv]); repeat (first | exact OA.mono h (by omega) | refine OA.newB ?_ (by omega) rfl | refine OA.advB ?_)⟩, fun _ => rfl, fun h => by omega⟩
 rintro ⟨e, ds, s1⟩ ⟨l, c6, hUl, rfl, hF, ho⟩
 simp only [Fs] at hF ho
 refine gS fun K F => ?_; simp only [go_sem, hF]; apply F; clear F K
 exact Wc.ret (show bodyQ E0 Tryz.f202 K .ret _ from Op.ret [.tmp 4, .tmp 5] [.c c6, .c (.p (.bool true))] rfl rfl (by simp only [resultsD, go_sem, hF]) (hK1 l hUl _ c6 (ho.adv (n := 3))))
end Go.Proofs.YtedcnhbblgmdnaaGreat.Ab
