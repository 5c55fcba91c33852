/- A part of the proof. -/
import Derived.Test.YtedcnhbblgmdnaaGreatT10
namespace Go.Proofs.YtedcnhbblgmdnaaGreat.Ab
set_option maxHeartbeats 4000000
set_option linter.unusedSimpArgs false
set_option linter.unusedVariables false
set_option maxRecDepth 10000
theorem pf237 (n : Int) (h : 0 ≤ n) (h2 : n < 2^63) : Pf E0 237 [.c (.p (.int .i64 n))] (P' (.str (vb n.toNat))) := by
 refine Pf.body (fn := Tryz.f237) (by kernel_rfl) rfl ?_
 simp only [List.map_cons, List.map_nil, List.cons_append, List.nil_append, List.length_cons, List.length_nil, Tryz.ntmps237, List.replicate]
 refine gS fun K F => ?_; simp only [go_sem]; apply F; clear F K
 refine gS fun K F => ?_; simp only [go_sem]; apply F; clear F K
 refine Wc.seq (Wc.block ?_)
 refine Wc.loop (fun k x => ∃ (m : Int) (b : D) (i : Nat) (cs : List UInt8), k = m.toNat ∧ 0 ≤ m ∧ m < 2^63 ∧ x.ds = [] ∧ x.e.length = 22 ∧ x.e.getD 0 .junk = P' (.int .i64 m) ∧ x.e.getD 3 .junk = b ∧
  OA x.s.nx x.s [(1, b, i, cs.map pdOfByte)] [] ∧ cs ++ vb m.toNat = vb n.toNat ∧ i = cs.length) ?_ (k := n.toNat) ?_
 ·rintro k ⟨e, ds, s⟩ ⟨m, b, i, cs, rfl, hm0, hm1, rfl, hlen, h0, h3, hb, hcs, hi⟩
  simp only at hlen h0 h3 hb
  have hl10 : i + (vb m.toNat).length ≤ 10 := by rw [hi, ← List.length_append, hcs]; exact vb_len10 (by omega)
  refine Wc.seq (Wc.seq ?_)
  refine gR fun K F => ?_; simp only [go_sem, hlen, h0, h3]; apply F; clear F K
  refine Wc.cond (t := decide (128 ≤ m)) (by simp only [go_sem, hlen, h0, h3]) (fun hc => ?_) (fun hc => ?_)
  ·have hc' : 128 ≤ m := by simpa using hc
   have e1 : m.tmod 128 = m % 128 := Int.tmod_eq_emod_of_nonneg hm0
   have e2 : m.tdiv 128 = m / 128 := Int.tdiv_eq_ediv_of_nonneg hm0
   have e3 : IntKind.i64.wrap (m / 128) = m / 128 := by rw [wi64]; omega
   have e4 : IntKind.u8.wrap (IntKind.i64.wrap (m % 128 + 128)) = m % 128 + 128 := by rw [wi64, wu8]; omega
   refine Wc.skip (Wc.block (Wc.seq ?_))
   refine gR fun K F => ?_; simp only [go_sem, hlen, h0, h3, e1, e2, e3, e4]
   refine OA.app (L1 := []) (L2 := []) (by_ := 1) (n := i) (m := 1) (ys := [.int .u8 (m % 128 + 128)]) (OA.put (hb.adv.adv) (by omega)) (by omega) ⟨_, ti214, rfl⟩ ti5 rfl rfl rfl (by decide) (by decide) (by simp only [go_sem]) rfl (by omega) fun b' s' hb' hnx => ?_
   simp only [go_sem, hlen, h0, h3, e1, e2, e3, e4]; apply F; clear F K
   refine gR fun K F => ?_; simp only [go_sem, hlen, h0, h3, e1, e2, e3, e4]; apply F; clear F K
   refine ⟨(m / 128).toNat, by omega, m / 128, b', i + 1, cs ++ [UInt8.ofNat (m.toNat % 128 + 128)], rfl, by omega, by omega, rfl, by simp only [go_sem, hlen], by simp only [go_sem, hlen, h0, h3], by simp only [go_sem, hlen, h0, h3], ?_, ?_, by simp [hi]⟩
   ·have := (hb'.mono (b' := s'.nx) (by rw [hnx]; simp only [St.nx_put, St.nx_adv]; omega)).adv (n := 3)
    rw [pdb _ (by omega) (by omega)] at this
    have e5 : (m % 128 + 128).toNat = m.toNat % 128 + 128 := by omega
    rw [e5] at this
    simpa [St.nx_adv] using this.mono (Nat.le_add_right _ 3)
   ·rw [List.append_assoc, ← hcs, vb_ge (n := m.toNat) (by omega)]
    have : (m / 128).toNat = m.toNat / 128 := by omega
    rw [this]; rfl
  ·have hc' : m < 128 := by simpa using hc
   refine Wc.exit ?_
   have e4 : IntKind.u8.wrap m = m := by rw [wu8]; omega
   refine gS fun K F => ?_; simp only [go_sem, hlen, h0, h3, e4]
   refine OA.app (L1 := []) (L2 := []) (by_ := 1) (n := i) (m := 1) (ys := [.int .u8 m]) (OA.put (hb.adv.adv) (by omega)) (by omega) ⟨_, ti214, rfl⟩ ti5 rfl rfl rfl (by decide) (by decide) (by simp only [go_sem]) rfl (by omega) fun b' s' hb' hnx => ?_
   have hl := (hb'.own _ (List.mem_append_right _ (List.mem_singleton.2 rfl))).listOf
   have hcs2 : List.map pdOfByte cs ++ [.int .u8 m] = (vb n.toNat).map pdOfByte := by
    rw [← hcs, vb_lt (n := m.toNat) (by omega), pdb _ hm0 (by omega)]; simp
   simp only [hcs2] at hl
   have hlen2 : (vb n.toNat).length = i + 1 := by rw [← hcs, hi, vb_lt (n := m.toNat) (by omega)]; simp
   simp only [go_sem, hlen, h0, h3, e4, hl, allM_bytes, hlen2]; apply F; clear F K
   exact Wc.ret (Pf.ret [.tmp 2] [.c (.p (.str (vb n.toNat)))] rfl rfl (by simp only [resultsD, go_sem, hlen]) rfl)
 ·exact ⟨n, _, 0, [], rfl, h, h2, rfl, rfl, rfl, rfl, ((s00_oa.adv.adv).front (es := 1) (n := 0) (cs := []) (by omega) rfl).mono (b' := 3) (by omega), rfl, rfl⟩
def inR (n : Int) : Bool := decide (-1152921504606846976 ≤ n) && decide (n ≤ 1152921504606846976)
theorem pf256 (n : Int) : Pf E0 256 [.c (.p (.int .i64 n))] (P' (.bool (inR n))) := by
 refine Pf.body (fn := Tryz.f256) (by kernel_rfl) rfl ?_; simp only [List.map_cons, List.map_nil, List.cons_append, List.nil_append, List.length_cons, List.length_nil, Tryz.ntmps256, List.replicate, Nat.reduceSub, Nat.reduceAdd]
 refine gS fun K F => ?_; simp only [go_sem]; apply F; clear F K
 refine Wc.seq ?_
 by_cases h : -1152921504606846976 ≤ n
 ·refine gR fun K F => ?_; simp only [go_sem, h]; apply F; clear F K
  exact Wc.ret (Pf.ret [.tmp 2] [.c (.p (.bool (inR n)))] rfl rfl (by simp only [resultsD, go_sem, inR, h, Bool.true_and]) rfl)
 ·refine gR fun K F => ?_; simp only [go_sem, h]; apply F; clear F K
  exact Wc.ret (Pf.ret [.tmp 2] [.c (.p (.bool (inR n)))] rfl rfl (by simp only [resultsD, go_sem, inR, h, Bool.false_and]) rfl)
def zz (n : Int) : Nat := if 0 ≤ n then (2 * n).toNat else (-2 * n - 1).toNat
theorem pf257 (n : Int) (h : inR n = true) : Pf E0 257 [.c (.p (.int .i64 n))] (P' (.int .u64 (zz n))) := by
 simp only [inR, Bool.and_eq_true, decide_eq_true_eq] at h
 refine Pf.body (fn := Tryz.f257) (by kernel_rfl) rfl ?_; simp only [List.map_cons, List.map_nil, List.cons_append, List.nil_append, List.length_cons, List.length_nil, Tryz.ntmps257, List.replicate, Nat.reduceSub, Nat.reduceAdd]
 refine gS fun K F => ?_; simp only [go_sem]; apply F; clear F K
 refine Wc.seq (Wc.seq ?_)
 refine gR fun K F => ?_; simp only [go_sem]; apply F; clear F K
 refine Wc.cond (t := decide (0 ≤ n)) rfl (fun hc => ?_) (fun hc => ?_)
 ·have hc' : 0 ≤ n := by simpa using hc
  refine Wc.seq ?_
  have e1 : IntKind.u64.wrap (2 * IntKind.u64.wrap n) = (zz n : Int) := by rw [wu64, wu64, zz, if_pos hc']; omega
  refine gR fun K F => ?_; simp only [go_sem, e1]; apply F; clear F K
  exact Wc.ret (Pf.ret [.tmp 2] [.c (.p (.int .u64 (zz n)))] rfl rfl (by simp only [resultsD, go_sem]) rfl)
 ·have hc' : ¬ 0 ≤ n := by simpa using hc
  refine Wc.skip (Wc.seq ?_)
  have e1 : IntKind.u64.wrap (IntKind.u64.wrap (2 * IntKind.u64.wrap (IntKind.i64.wrap (0 - n))) - 1) = (zz n : Int) := by rw [wu64, wu64, wu64, wi64, zz, if_neg hc']; omega
  refine gR fun K F => ?_; simp only [go_sem, e1]; apply F; clear F K
  exact Wc.ret (Pf.ret [.tmp 2] [.c (.p (.int .u64 (zz n)))] rfl rfl (by simp only [resultsD, go_sem]) rfl)
theorem and127 (k : Nat) (h : k < 2^64) : andI .u64 (k : Int) 127 = ((k % 128 : Nat) : Int) := by
 have : (BitVec.ofInt 64 (k : Int) &&& BitVec.ofInt 64 127).toNat = k % 128 := by
  rw [BitVec.ofInt_natCast, BitVec.toNat_and, BitVec.toNat_ofNat, Nat.mod_eq_of_lt h]
  exact Nat.and_two_pow_sub_one_eq_mod k 7
 show IntKind.u64.wrap ((BitVec.ofInt 64 (k : Int) &&& BitVec.ofInt 64 127).toNat : Int) = _
 rw [this, wu64]; omega
theorem or128' : ∀ v : Nat, v < 128 → (BitVec.ofInt 8 (v : Int) ||| BitVec.ofInt 8 128).toNat = v + 128 := by decide
theorem or128 (v : Nat) (h : v < 128) : orI .u8 (v : Int) 128 = ((v + 128 : Nat) : Int) := by
 show IntKind.u8.wrap ((BitVec.ofInt 8 (v : Int) ||| BitVec.ofInt 8 128).toNat : Int) = _
 rw [or128' v h, wu8]; omega
theorem fdiv128 (k : Nat) : shrI .u64 (k : Int) 7 = ((k / 128 : Nat) : Int) := by
 show (k : Int).fdiv (2 ^ (min (Int.toNat 7) 64)) = _
 rw [Int.fdiv_eq_ediv_of_nonneg _ (by decide)]; rfl
theorem pdbn (n : Nat) (h : n < 256) : Pd.int .u8 (n : Int) = pdOfByte (UInt8.ofNat n) := pdb n (by omega) (by omega)
theorem call177 {bb : Nat} {s : St} {L1 L2 : List (Nat × D × Nat × List Pd)} {M : List (Nat × Ob)} {x : D} {i0 : Nat} {cs0 : List Pd} {n : Nat} {K : D → St → Prop} (h : OA bb s (L1 ++ (1, x, i0, cs0) :: L2) M) (hbb : bb ≤ s.nx) (hn : n < 2^64) (hi0 : i0 ≤ 2^46)
  (F : ∀ x' s', OA s'.nx s' (L1 ++ (1, x', i0 + (vb n).length, cs0 ++ (vb n).map pdOfByte) :: L2) M → s.nx ≤ s'.nx → K x' s') : wpCall E0 (.v (.c (.p (.fnc 177)))) [x, .v (.c (.p (.int .u64 n)))] s K := by
 obtain ⟨c, rfl⟩ := (h.own (1, x, i0, cs0) (by simp)).v
 refine wpCall.opn (fn := Tryz.f177) (by kernel_rfl) (by kernel_rfl) rfl (by kernel_rfl) rfl ?_; simp only [List.map_cons, List.map_nil, List.cons_append, List.nil_append, List.length_cons, List.length_nil, Tryz.ntmps177, List.replicate, Nat.reduceSub, Nat.reduceAdd]
 refine gS fun K F => ?_; simp only [go_sem]; apply F; clear F K
 refine Wc.seq (Wc.block ?_)
 refine Wc.loop (fun k y => ∃ (m : Nat) (b : D) (i : Nat) (cs : List UInt8), k = m ∧ m < 2^64 ∧ y.ds = [] ∧ y.e.length = 21 ∧ y.e.getD 1 .junk = P' (.int .u64 m) ∧ y.e.getD 0 .junk = b ∧
  OA y.s.nx y.s (L1 ++ (1, b, i, cs0 ++ cs.map pdOfByte) :: L2) M ∧ cs ++ vb m = vb n ∧ i = i0 + cs.length ∧ s.nx ≤ y.s.nx) ?_ (k := n) ?_
 ·rintro k ⟨e, ds, s1⟩ ⟨m, b, i, cs, rfl, hm1, rfl, hlen, h1, h0, hb, hcs, hi, hnx0⟩
  simp only at hlen h0 h1 hb hnx0
  have hl10 : cs.length + (vb k).length ≤ 10 := by rw [← List.length_append, hcs]; exact vb_len10 hn
  refine Wc.seq (Wc.seq ?_)
  refine gR fun K F => ?_; simp only [go_sem, hlen, h0, h1]; apply F; clear F K
  refine Wc.cond (t := decide ((128 : Int) ≤ k)) (by simp only [go_sem, hlen, h0, h1]) (fun hc => ?_) (fun hc => ?_)
  ·have hc' : 128 ≤ k := by have : (128 : Int) ≤ k := by simpa using hc
                            omega
   have e4 : orI .u8 (IntKind.u8.wrap (andI .u64 (k : Int) 127)) 128 = ((k % 128 + 128 : Nat) : Int) := by
    rw [and127 k hm1, wu8]
    have : ((k % 128 : Nat) : Int) % 256 = ((k % 128 : Nat) : Int) := by omega
    rw [this, or128 _ (by omega)]
   refine Wc.skip (Wc.block (Wc.seq ?_))
   refine gR fun K F => ?_; simp only [go_sem, hlen, h0, h1, e4]
   refine OA.app (by_ := 1) (n := i) (m := 1) (ys := [.int .u8 ((k % 128 + 128 : Nat) : Int)]) (OA.put (hb.adv.adv) (by omega)) (by omega) ⟨_, ti214, rfl⟩ ti5 rfl rfl rfl (by decide) (by decide) (by simp only [go_sem, e4]) rfl (by omega) fun b' s' hb' hnx => ?_
   simp only [go_sem, hlen, h0, h1, e4]; apply F; clear F K
   refine gR fun K F => ?_; simp only [go_sem, hlen, h0, h1, e4, fdiv128]; apply F; clear F K
   refine ⟨k / 128, by omega, k / 128, b', i + 1, cs ++ [UInt8.ofNat (k % 128 + 128)], rfl, by omega, rfl, by simp only [go_sem, hlen], by simp only [go_sem, hlen, h0, h1], by simp only [go_sem, hlen, h0, h1], ?_, ?_, by simp [hi]; omega, ?_⟩
   ·have := (hb'.mono (b' := s'.nx) (by rw [hnx]; simp only [St.nx_put, St.nx_adv]; omega)).adv (n := 3)
    rw [pdbn _ (by omega), List.append_assoc] at this
    have := this.mono (Nat.le_add_right s'.nx 3)
    simpa only [St.nx_adv, List.map_append, List.map_cons, List.map_nil] using this
   ·rw [List.append_assoc, ← hcs, vb_ge (n := k) (by omega)]; rfl
   ·simp only [St.nx_adv, hnx, St.nx_put]; omega
  ·have hc' : k < 128 := by have : ¬ (128 : Int) ≤ k := by simpa using hc
                            omega
   refine Wc.exit ?_
   have e4 : IntKind.u8.wrap (k : Int) = k := by rw [wu8]; omega
   refine gS fun K F => ?_; simp only [go_sem, hlen, h0, h1, e4]
   refine OA.app (by_ := 1) (n := i) (m := 1) (ys := [.int .u8 k]) (OA.put (hb.adv.adv) (by omega)) (by omega) ⟨_, ti214, rfl⟩ ti5 rfl rfl rfl (by decide) (by decide) (by simp only [go_sem, e4]) rfl (by omega) fun b' s' hb' hnx => ?_
   obtain ⟨c', rfl⟩ := (hb'.own (1, b', i + 1, _) (List.mem_append_right _ (List.mem_cons_self ..))).v
   simp only [go_sem, hlen, h0, h1, e4]; apply F; clear F K
   refine Wc.ret (Op.ret [.tmp 4] [.c c'] rfl rfl (by simp only [resultsD, go_sem, hlen]) (F _ _ ?_ ?_))
   ·have hcs2 : cs0 ++ List.map pdOfByte cs ++ [.int .u8 (k : Int)] = cs0 ++ (vb n).map pdOfByte := by
     rw [← hcs, vb_lt (n := k) (by omega), pdb _ (by omega) (by omega)]; simp
    have hl2 : i + 1 = i0 + (vb n).length := by rw [← hcs, vb_lt (n := k) (by omega), hi]; simp; omega
    rw [hcs2, hl2] at hb'
    exact hb'.mono (by rw [hnx]; simp only [St.nx_put, St.nx_adv]; omega)
   ·rw [hnx]; simp only [St.nx_put, St.nx_adv]; omega
 ·exact ⟨n, _, i0, [], rfl, hn, rfl, rfl, rfl, rfl, by simpa using h.adv.mono (by simp only [St.nx_adv]; omega), rfl, rfl, by simp only [St.nx_adv]; omega⟩
set_option maxHeartbeats 4000000
set_option maxRecDepth 10000
set_option linter.unusedSimpArgs false
set_option linter.unusedVariables false
def appV (s : List UInt8) (n : Int) : List UInt8 × Int := if n < 0 ∨ 1152921504606846976 < n then ([], 2) else (s ++ vb n.toNat, 0)
theorem pf100 (t : List UInt8) (n : Int) (ht : t.length ≤ 4611686018427387904) : Pf E0 100 [.c (.p (.str t)), .c (.p (.int .i64 n))] (.tup [.c (.p (.str (appV t n).1)), .c (.p (.int .i64 (appV t n).2))]) := by
 refine Pf.body (fn := Tryz.f100) (by kernel_rfl) rfl ?_; simp only [List.map_cons, List.map_nil, List.cons_append, List.nil_append, List.length_cons, List.length_nil, Tryz.ntmps100, List.replicate, Nat.reduceSub, Nat.reduceAdd]
 refine gS fun K F => ?_; simp only [go_sem]; apply F; clear F K
 refine Wc.seq (Wc.seq ?_)
 by_cases h : n < 0
 ·refine gR fun K F => ?_; simp only [go_sem, h]; apply F; clear F K
  refine Wc.cond (t := true) rfl (fun _ => ?_) (fun h => by cases h)
  refine gS fun K F => ?_; simp only [go_sem, h]; apply F; clear F K
  have e : appV t n = ([], 2) := by unfold appV; rw [if_pos (.inl h)]
  rw [e]
  exact Wc.ret (Pf.ret [.tmp 4, .tmp 5] [.c (.p (.str [])), .c (.p (.int .i64 2))] rfl rfl (by simp only [resultsD, go_sem]) rfl)
 ·refine gR fun K F => ?_; simp only [go_sem, h]; apply F; clear F K
  refine Wc.cond (t := decide (1152921504606846976 < n)) rfl (fun hc => ?_) (fun hc => ?_)
  ·have hc' : 1152921504606846976 < n := by simpa using hc
   refine gS fun K F => ?_; simp only [go_sem, h]; apply F; clear F K
   have e : appV t n = ([], 2) := by unfold appV; rw [if_pos (.inr hc')]
   rw [e]
   exact Wc.ret (Pf.ret [.tmp 4, .tmp 5] [.c (.p (.str [])), .c (.p (.int .i64 2))] rfl rfl (by simp only [resultsD, go_sem]) rfl)
  ·have hc' : ¬ 1152921504606846976 < n := by simpa using hc
   have e : appV t n = (t ++ vb n.toNat, 0) := by unfold appV; rw [if_neg (by omega)]
   have e1 : IntKind.u64.wrap n = (n.toNat : Int) := by rw [wu64]; omega
   have hl := vb_len10 (n := n.toNat) (by omega)
   refine Wc.skip (Wc.seq ?_)
   refine gR fun K F => ?_; simp only [go_sem, e1]
   refine call177 (L1 := []) (L2 := []) (M := []) (OA.nil (s00_oa.adv.adv.adv)) (by omega) (by omega) (by omega) fun x' s' hx hnx => ?_
   have hlo := (hx.own _ (List.mem_cons_self ..)).listOf
   simp only [List.nil_append, Nat.zero_add] at hlo
   have hlt : ¬ (9223372036854775807 < t.length + (vb n.toNat).length) := by omega
   simp only [go_sem, hlo, allM_bytes, hlt]; apply F; clear F K
   rw [e]
   exact Wc.ret (Pf.ret [.tmp 4, .tmp 5] [.c (.p (.str (t ++ vb n.toNat))), .c (.p (.int .i64 0))] rfl rfl (by simp only [resultsD, go_sem]) rfl)
theorem pf192 (t : List UInt8) (n : Int) (ht : t.length ≤ 4611686018427387904) : Pf E0 192 [.c (.p (.str t)), .c (.p (.int .i64 n))] (.tup [.c (.p (.str (appV t n).1)), .c (.p (.int .i64 (appV t n).2))]) := by
 refine Pf.body (fn := Tryz.f192) (by kernel_rfl) rfl ?_; simp only [List.map_cons, List.map_nil, List.cons_append, List.nil_append, List.length_cons, List.length_nil, Tryz.ntmps192, List.replicate, Nat.reduceSub, Nat.reduceAdd]
 refine gS fun K F => ?_; simp only [go_sem]; apply F; clear F K
 refine Wc.seq (Wc.seq ?_)
 by_cases h : n < 0
 ·refine gR fun K F => ?_; simp only [go_sem, h]; apply F; clear F K
  refine Wc.cond (t := true) rfl (fun _ => ?_) (fun h => by cases h)
  refine gS fun K F => ?_; simp only [go_sem, h]; apply F; clear F K
  have e : appV t n = ([], 2) := by unfold appV; rw [if_pos (.inl h)]
  rw [e]
  exact Wc.ret (Pf.ret [.tmp 4, .tmp 5] [.c (.p (.str [])), .c (.p (.int .i64 2))] rfl rfl (by simp only [resultsD, go_sem]) rfl)
 ·refine gR fun K F => ?_; simp only [go_sem, h]; apply F; clear F K
  refine Wc.cond (t := decide (1152921504606846976 < n)) rfl (fun hc => ?_) (fun hc => ?_)
  ·have hc' : 1152921504606846976 < n := by simpa using hc
   refine gS fun K F => ?_; simp only [go_sem, h]; apply F; clear F K
   have e : appV t n = ([], 2) := by unfold appV; rw [if_pos (.inr hc')]
   rw [e]
   exact Wc.ret (Pf.ret [.tmp 4, .tmp 5] [.c (.p (.str [])), .c (.p (.int .i64 2))] rfl rfl (by simp only [resultsD, go_sem]) rfl)
  ·have hc' : ¬ 1152921504606846976 < n := by simpa using hc
   have e : appV t n = (t ++ vb n.toNat, 0) := by unfold appV; rw [if_neg (by omega)]
   have hl := vb_len10 (n := n.toNat) (by omega)
   refine Wc.skip (Wc.seq ?_)
   refine gR fun K F => ?_; simp only [go_sem]
   refine gP (pf237 n (by omega) (by omega)) (by kernel_rfl) (by kernel_rfl) rfl rfl ?_
   have hlt : ¬ (9223372036854775807 < t.length + (vb n.toNat).length) := by omega
   simp only [go_sem, hlt]; apply F; clear F K
   rw [e]
   exact Wc.ret (Pf.ret [.tmp 4, .tmp 5] [.c (.p (.str (t ++ vb n.toNat))), .c (.p (.int .i64 0))] rfl rfl (by simp only [resultsD, go_sem]) rfl)
abbrev pI (n : Int) : Pd := .int .i64 n
def encL (l : List Int) : List UInt8 := l.flatMap fun n => vb (zz n)
def encI (l : List Int) : List UInt8 × Int := if 20000 < l.length then ([], 4) else if l.all inR then (vb l.length ++ encL l, 0) else ([], 2)
theorem zz_lt {n : Int} (h : inR n = true) : zz n < 2^62 := by
 simp only [inR, Bool.and_eq_true, decide_eq_true_eq] at h
 unfold zz; split <;> omega
theorem i64n (n : Nat) (h : n < 2^62) : IntKind.i64.wrap ((n : Int) + 1) = ((n + 1 : Nat) : Int) := by rw [wi64]; omega
theorem take_snoc {α : Type} {l : List α} {i : Nat} {x : α} (h : l[i]? = some x) : l.take (i + 1) = l.take i ++ [x] := by
 rw [List.take_add_one, h]; rfl
theorem encL_take {l : List Int} {i : Nat} {x : Int} (h : l[i]? = some x) : encL (l.take (i + 1)) = encL (l.take i) ++ vb (zz x) := by
 rw [take_snoc h]; simp [encL]
theorem pf227 (l : List Int) (hl : l.length < 2^40) : Pf E0 227 [.c (.p (.lst l.length (l.map pI)))] (.tup [.c (.p (.str (encI l).1)), .c (.p (.int .i64 (encI l).2))]) := by
 refine Pf.body (fn := Tryz.f227) (by kernel_rfl) rfl ?_; simp only [List.map_cons, List.map_nil, List.cons_append, List.nil_append, List.length_cons, List.length_nil, Tryz.ntmps227, List.replicate, Nat.reduceSub, Nat.reduceAdd]
 refine gS fun K F => ?_; simp only [go_sem]; apply F; clear F K
 refine Wc.seq (Wc.seq ?_)
 refine gR fun K F => ?_; simp only [go_sem]; apply F; clear F K
 refine Wc.cond (t := decide ((20000 : Int) < l.length)) rfl (fun hc => ?_) (fun hc => ?_)
 ·have hc' : (20000 : Int) < l.length := by simpa using hc
  have e : encI l = ([], 4) := by unfold encI; rw [if_pos (by omega)]
  refine gS fun K F => ?_; simp only [go_sem]; apply F; clear F K
  rw [e]
  exact Wc.ret (Pf.ret [.tmp 2, .tmp 3] [.c (.p (.str [])), .c (.p (.int .i64 4))] rfl rfl (by simp only [resultsD, go_sem]) rfl)
 have hc' : ¬ (20000 : Int) < l.length := by simpa using hc
 have e0 : encI l = if l.all inR then (vb l.length ++ encL l, 0) else ([], 2) := by unfold encI; rw [if_neg (by omega)]
 have e1 : IntKind.u64.wrap (l.length : Int) = l.length := by rw [wu64]; omega
 have hvl := vb_len10 (n := l.length) (by omega)
 refine Wc.skip (Wc.seq ?_)
 refine gR fun K F => ?_; simp only [go_sem, e1]
 refine call177 (L1 := []) (L2 := []) (M := []) (OA.nil (s00_oa.adv.adv.adv)) (by omega) (by omega) (by omega) fun b0 s0 hb0 hnx0 => ?_
 simp only [go_sem]; apply F; clear F K
 refine Wc.seq (Wc.seq ?_)
 refine gR fun K F => ?_; simp only [go_sem]; apply F; clear F K
 refine Wc.block (Wc.loop (fun k y => ∃ (i : Nat) (b : D) (ib : Nat), k = l.length - i ∧ i ≤ l.length ∧ y.ds = [] ∧ y.e.length = 30 ∧ y.e.getD 14 .junk = P' (.lst l.length (l.map pI)) ∧ y.e.getD 15 .junk = P' (.int .i64 l.length) ∧ y.e.getD 16 .junk = P' (.int .i64 i) ∧ y.e.getD 4 .junk = b ∧
  OA y.s.nx y.s [(1, b, ib, (vb l.length ++ encL (l.take i)).map pdOfByte)] [] ∧ ib ≤ 10 + 10 * i ∧ (l.take i).all inR = true) ?_ (k := l.length) ?_)
 ·rintro k ⟨e, ds, s1⟩ ⟨i, b, ib, rfl, hi, rfl, hlen, h14, h15, h16, h4, hb, hib, hall⟩
  simp only at hlen h14 h15 h16 h4 hb
  refine gS fun K F => ?_; simp only [go_sem, hlen, h14, h15, h16, h4]; apply F; clear F K
  refine Wc.seq ?_
  refine Wc.cond (t := decide ((i : Int) < l.length)) (by simp only [go_sem, hlen]) (fun hc => ?_) (fun hc => ?_)
  ·have hil : i < l.length := by have : (i : Int) < l.length := by simpa using hc
                                 omega
   obtain ⟨x, hx⟩ : ∃ x, l[i]? = some x := ⟨l[i], List.getElem?_eq_getElem hil⟩
   have hix := ixA ti175 rfl ti3 (j := i) (m := l.length) (cs := l.map pI) hil (by simp) (by decide)
   have hca := rpA (off := i) (drop_map pI hx) (by simp; omega)
   refine Wc.skip (Wc.seq (Wc.block (Wc.seq ?_)))
   refine gR fun K F => ?_; simp only [go_sem, hlen, h14, h15, h16, h4, hix, hca]; apply F; clear F K
   refine Wc.seq (Wc.seq ?_)
   refine gR fun K F => ?_; simp only [go_sem, hlen, h14, h15, h16, h4]
   refine gP (pf256 x) (by kernel_rfl) (by kernel_rfl) rfl rfl ?_
   simp only [go_sem, hlen, h14, h15, h16, h4]; apply F; clear F K
   refine Wc.cond (t := !inR x) (by simp only [go_sem, hlen]) (fun hc => ?_) (fun hc => ?_)
   ·have hx2 : inR x = false := by simpa using hc
    have e : encI l = ([], 2) := by
     rw [e0, if_neg]
     intro h
     rw [List.all_eq_true] at h
     have := h x (List.mem_of_getElem? hx)
     rw [hx2] at this; cases this
    refine gS fun K F => ?_; simp only [go_sem, hlen, h14, h15, h16, h4]; apply F; clear F K
    rw [e]
    exact Wc.ret (Pf.ret [.tmp 2, .tmp 3] [.c (.p (.str [])), .c (.p (.int .i64 2))] rfl rfl (by simp only [resultsD, go_sem, hlen]) rfl)
   ·have hx2 : inR x = true := by simpa using hc
    have hz := zz_lt hx2
    refine Wc.skip ?_
    refine gR fun K F => ?_; simp only [go_sem, hlen, h14, h15, h16, h4]
    refine gP (pf257 x hx2) (by kernel_rfl) (by kernel_rfl) rfl rfl ?_
    simp only [go_sem, hlen, h14, h15, h16, h4]
    refine call177 (L1 := []) (L2 := []) (M := []) (OA.adv (OA.adv (OA.adv (OA.adv hb)))) (by simp only [St.nx_adv]; omega) (by omega) (by omega) fun b' s' hb' hnx => ?_
    simp only [go_sem, hlen, h14, h15, h16, h4]; apply F; clear F K
    refine gR fun K F => ?_; simp only [go_sem, hlen, h14, h15, h16, h4, i64n i (by omega)]; apply F; clear F K
    have hz10 := vb_len10 (n := zz x) (by omega)
    refine ⟨l.length - (i + 1), by omega, i + 1, b', ib + (vb (zz x)).length, rfl, by omega, rfl, by simp only [go_sem, hlen], by simp only [go_sem, hlen, h14, h15, h16, h4], by simp only [go_sem, hlen, h14, h15, h16, h4], by simp only [go_sem, hlen, h14, h15, h16, h4], by simp only [go_sem, hlen, h14, h15, h16, h4], ?_, by omega, ?_⟩
    ·rw [encL_take hx, ← List.append_assoc, List.map_append]
     simpa only [St.nx_adv, List.nil_append] using (hb'.adv (n := 2)).mono (Nat.le_add_right _ 2)
    ·rw [take_snoc hx, List.all_append, hall]; simp [hx2]
  ·have hil : i = l.length := by have : ¬ (i : Int) < l.length := by simpa using hc
                                 omega
   subst hil
   rw [List.take_length] at hb hall
   refine Wc.exit ?_
   refine Wc.seq ?_
   have hlo := (hb.own _ (List.mem_cons_self ..)).lo
   have e : encI l = (vb l.length ++ encL l, 0) := by rw [e0, if_pos hall]
   have hle : (vb l.length ++ encL l).length = ib := by
    have := (hb.own _ (List.mem_cons_self ..)).1
    simpa using this
   refine gR fun K F => ?_; simp only [go_sem, hlen, h14, h15, h16, h4, hlo, allM_bytes, hle]; apply F; clear F K
   rw [e]
   exact Wc.ret (Pf.ret [.tmp 2, .tmp 3] [.c (.p (.str (vb l.length ++ encL l))), .c (.p (.int .i64 0))] rfl rfl (by simp only [resultsD, go_sem, hlen]) rfl)
 ·refine ⟨0, b0, (vb l.length).length, rfl, by omega, rfl, rfl, rfl, rfl, rfl, rfl, ?_, by omega, rfl⟩
  simpa [encL, St.nx_adv] using (hb0.adv (n := 3)).mono (Nat.le_add_right _ 3)
set_option maxHeartbeats 4000000
set_option maxRecDepth 10000
set_option linter.unusedSimpArgs false
set_option linter.unusedVariables false
def appS (t : List UInt8) (n : Int) : List UInt8 × Int := if inR n then (t ++ vb (zz n), 0) else ([], 2)
theorem pf194 (t : List UInt8) (n : Int) (ht : t.length ≤ 4611686018427387904) : Pf E0 194 [.c (.p (.str t)), .c (.p (.int .i64 n))] (.tup [.c (.p (.str (appS t n).1)), .c (.p (.int .i64 (appS t n).2))]) := by
 refine Pf.body (fn := Tryz.f194) (by kernel_rfl) rfl ?_; simp only [List.map_cons, List.map_nil, List.cons_append, List.nil_append, List.length_cons, List.length_nil, Tryz.ntmps194, List.replicate, Nat.reduceSub, Nat.reduceAdd]
 refine gS fun K F => ?_; simp only [go_sem]; apply F; clear F K
 refine Wc.seq (Wc.seq ?_)
 by_cases h : n < -1152921504606846976
 ·refine gR fun K F => ?_; simp only [go_sem, h]; apply F; clear F K
  refine Wc.cond (t := true) rfl (fun _ => ?_) (fun h => by cases h)
  refine gS fun K F => ?_; simp only [go_sem, h]; apply F; clear F K
  have e : appS t n = ([], 2) := by unfold appS; rw [if_neg]; simp [inR]; omega
  rw [e]
  exact Wc.ret (Pf.ret [.tmp 4, .tmp 5] [.c (.p (.str [])), .c (.p (.int .i64 2))] rfl rfl (by simp only [resultsD, go_sem]) rfl)
 ·refine gR fun K F => ?_; simp only [go_sem, h]; apply F; clear F K
  refine Wc.cond (t := decide (1152921504606846976 < n)) rfl (fun hc => ?_) (fun hc => ?_)
  ·have hc' : 1152921504606846976 < n := by simpa using hc
   refine gS fun K F => ?_; simp only [go_sem, h]; apply F; clear F K
   have e : appS t n = ([], 2) := by unfold appS; rw [if_neg]; simp [inR]; omega
   rw [e]
   exact Wc.ret (Pf.ret [.tmp 4, .tmp 5] [.c (.p (.str [])), .c (.p (.int .i64 2))] rfl rfl (by simp only [resultsD, go_sem]) rfl)
  ·have hc' : ¬ 1152921504606846976 < n := by simpa using hc
   have hr : inR n = true := by simp [inR]; omega
   have e : appS t n = (t ++ vb (zz n), 0) := by unfold appS; rw [if_pos hr]
   have hz := zz_lt hr
   have hl := vb_len10 (n := zz n) (by omega)
   have hlt : ¬ (9223372036854775807 < t.length + (vb (zz n)).length) := by omega
   refine Wc.skip (Wc.seq (Wc.seq ?_))
   refine gR fun K F => ?_; simp only [go_sem, h]; apply F; clear F K
   refine Wc.cond (t := decide (n < 0)) rfl (fun hc => ?_) (fun hc => ?_)
   ·have hn : n < 0 := by simpa using hc
    have e1 : IntKind.i64.wrap (IntKind.i64.wrap (-2 * n) - 1) = (zz n : Int) := by rw [wi64, wi64]; unfold zz; rw [if_neg (by omega)]; omega
    refine gS fun K F => ?_; simp only [go_sem, h, e1]
    have hp := pf237 (zz n : Int) (by omega) (by omega)
    rw [Int.toNat_natCast] at hp
    refine wpCall.pf hp (by kernel_rfl) (by kernel_rfl) rfl rfl ?_
    simp only [go_sem, hlt]; apply F; clear F K
    rw [e]
    exact Wc.ret (Pf.ret [.tmp 4, .tmp 5] [.c (.p (.str (t ++ vb (zz n)))), .c (.p (.int .i64 0))] rfl rfl (by simp only [resultsD, go_sem]) rfl)
   ·have hn : ¬ n < 0 := by simpa using hc
    have e1 : IntKind.i64.wrap (2 * n) = (zz n : Int) := by rw [wi64]; unfold zz; rw [if_pos (by omega)]; omega
    refine Wc.skip (Wc.seq ?_)
    refine gR fun K F => ?_; simp only [go_sem, h, e1]
    have hp := pf237 (zz n : Int) (by omega) (by omega)
    rw [Int.toNat_natCast] at hp
    refine wpCall.pf hp (by kernel_rfl) (by kernel_rfl) rfl rfl ?_
    simp only [go_sem, hlt]; apply F; clear F K
    rw [e]
    exact Wc.ret (Pf.ret [.tmp 4, .tmp 5] [.c (.p (.str (t ++ vb (zz n)))), .c (.p (.int .i64 0))] rfl rfl (by simp only [resultsD, go_sem]) rfl)
theorem encL_len (l : List Int) (h : l.all inR = true) : (encL l).length ≤ 10 * l.length := by
 induction l with
 | nil => simp [encL]
 | cons x r ih =>
  simp only [List.all_cons, Bool.and_eq_true] at h
  have := ih h.2
  have h2 := vb_len10 (n := zz x) (by have := zz_lt h.1; omega)
  simp only [encL, List.flatMap_cons, List.length_append, List.length_cons] at this ⊢
  omega
def diffs : List Int → List Int
 | x :: y :: r => (y - x) :: diffs (y :: r)
 | _ => []
theorem diffs_take : ∀ {l : List Int} {i : Nat} {x y : Int}, 1 ≤ i → l[i]? = some x → l[i - 1]? = some y → diffs (l.take (i + 1)) = diffs (l.take i) ++ [x - y]
 | [], i, x, y, h1, hx, hy => by simp at hx
 | a :: r, 1, x, y, h1, hx, hy => by
  simp at hx hy
  subst hy
  cases r with
  | nil => simp at hx
  | cons b r => simp at hx; subst hx; simp [diffs]
 | a :: r, i + 2, x, y, h1, hx, hy => by
  cases r with
  | nil => simp at hx
  | cons b r =>
   have := diffs_take (l := b :: r) (i := i + 1) (by omega) (by simpa using hx) (by simpa using hy)
   simp only [List.take_succ_cons, diffs, List.cons_append] at this ⊢
   rw [this]
theorem pf255 (l : List Int) (hl : l.length < 2^40) (hb : ∀ x ∈ l, -2305843009213693952 ≤ x ∧ x ≤ 2305843009213693952) : Pf E0 255 [.c (.p (.lst l.length (l.map pI)))] (P' (.lst (diffs l).length ((diffs l).map pI))) := by
 refine Pf.body (fn := Tryz.f255) (by kernel_rfl) rfl ?_; simp only [List.map_cons, List.map_nil, List.cons_append, List.nil_append, List.length_cons, List.length_nil, Tryz.ntmps255, List.replicate, Nat.reduceSub, Nat.reduceAdd]
 refine gS fun K F => ?_; simp only [go_sem]; apply F; clear F K
 refine gS fun K F => ?_; simp only [go_sem]; apply F; clear F K
 refine Wc.seq (Wc.seq ?_)
 refine gR fun K F => ?_; simp only [go_sem]; apply F; clear F K
 refine Wc.block (Wc.loop (fun k y => ∃ (i : Nat) (b : D), k = l.length - i ∧ 1 ≤ i ∧ (i ≤ l.length ∨ i = 1) ∧ y.ds = [] ∧ y.e.length = 25 ∧ y.e.getD 0 .junk = P' (.lst l.length (l.map pI)) ∧ y.e.getD 4 .junk = P' (.int .i64 i) ∧ y.e.getD 3 .junk = b ∧
  OA y.s.nx y.s [(1, b, i - 1, (diffs (l.take i)).map pI)] []) ?_ (k := l.length - 1) ?_)
 ·rintro k ⟨e, ds, s1⟩ ⟨i, b, rfl, hi1, hi, rfl, hlen, h0, h4, h3, hb0⟩
  simp only at hlen h0 h4 h3 hb0
  refine Wc.seq (Wc.seq ?_)
  refine gR fun K F => ?_; simp only [go_sem, hlen, h0, h4, h3]; apply F; clear F K
  refine Wc.cond (t := decide ((i : Int) < l.length)) (by simp only [go_sem, hlen]) (fun hc => ?_) (fun hc => ?_)
  ·have hil : i < l.length := by have : (i : Int) < l.length := by simpa using hc
                                 omega
   obtain ⟨x, hx⟩ : ∃ x, l[i]? = some x := ⟨l[i], List.getElem?_eq_getElem hil⟩
   obtain ⟨y, hy⟩ : ∃ y, l[i - 1]? = some y := ⟨l[i - 1], List.getElem?_eq_getElem (by omega)⟩
   have hbx := hb x (List.mem_of_getElem? hx)
   have hby := hb y (List.mem_of_getElem? hy)
   have hix := ixA ti175 rfl ti3 (j := i) (m := l.length) (cs := l.map pI) hil (by simp) (by decide)
   have hca := rpA (off := i) (drop_map pI hx) (by simp; omega)
   have hiy := ixA ti175 rfl ti3 (j := i - 1) (m := l.length) (cs := l.map pI) (by omega) (by simp) (by decide)
   have hcb := rpA (off := i - 1) (drop_map pI hy) (by simp; omega)
   have e1 : IntKind.i64.wrap ((i : Int) - 1) = ((i - 1 : Nat) : Int) := by rw [wi64]; omega
   have e2 : IntKind.i64.wrap (x - y) = x - y := by rw [wi64]; omega
   refine Wc.skip (Wc.seq (Wc.block ?_))
   refine Wc.regD fun K F => ?_; simp only [go_sem, hlen, h0, h4, h3, hix, hca, hiy, hcb, e1, e2]
   refine OA.app (L1 := []) (L2 := []) (by_ := 8) (n := i - 1) (m := 1) (ys := [pI (x - y)]) (OA.put (hb0.adv.adv) (by omega)) (by omega) ⟨_, ti175, rfl⟩ ti3 rfl rfl rfl (by decide) (by decide) (by simp only [go_sem]) rfl (by omega) fun b' s' hb' hnx => ?_
   simp only [go_sem, hlen, h0, h4, h3]; apply F; clear F K
   refine gR fun K F => ?_; simp only [go_sem, hlen, h0, h4, h3, i64n i (by omega)]; apply F; clear F K
   refine ⟨l.length - (i + 1), by omega, i + 1, b', rfl, by omega, .inl (by omega), rfl, by simp only [go_sem, hlen], by simp only [go_sem, hlen, h0, h4, h3], by simp only [go_sem, hlen, h0, h4, h3], by simp only [go_sem, hlen, h0, h4, h3], ?_⟩
   have e3 : i - 1 + 1 = i + 1 - 1 := by omega
   have e4 : (diffs (l.take (i + 1))).map pI = (diffs (l.take i)).map pI ++ [pI (x - y)] := by rw [diffs_take hi1 hx hy]; simp
   rw [e4, ← e3]
   have := (hb'.mono (b' := s'.nx) (by rw [hnx]; simp only [St.nx_put, St.nx_adv]; omega)).adv (n := 3)
   simpa only [St.nx_adv, List.nil_append] using this.mono (Nat.le_add_right _ 3)
  ·have hil : l.length ≤ i := by have : ¬ (i : Int) < l.length := by simpa using hc
                                 omega
   rw [List.take_of_length_le hil] at hb0
   have hl2 : (diffs l).length = i - 1 := by
    have := (hb0.own _ (List.mem_cons_self ..)).1
    simpa using this
   obtain ⟨c, rfl⟩ := (hb0.own _ (List.mem_cons_self ..)).v
   refine Wc.exit ?_
   refine gS fun K F => ?_; simp only [go_sem, hlen, h0, h4, h3]; apply F; clear F K
   rw [hl2]
   exact Wc.ret (Pf.retO [.tmp 2] c rfl rfl (by simp only [resultsD, go_sem, hlen]) (((hb0.adv (n := 1)).adv (n := 1)).own _ (List.mem_cons_self ..)))
 ·refine ⟨1, _, rfl, by omega, .inr rfl, rfl, rfl, rfl, rfl, rfl, ?_⟩
  have : diffs (l.take 1) = [] := by cases l <;> rfl
  rw [this]
  exact (s00_oa.adv.adv.adv).nil.mono (Nat.le_of_ble_eq_true rfl)
theorem pf195 (l : List Int) (hl : l.length < 2^40) (hb : ∀ x ∈ l, -2305843009213693952 ≤ x ∧ x ≤ 2305843009213693952) : Pf E0 195 [.c (.p (.lst l.length (l.map pI)))] (P' (.lst (diffs l).length ((diffs l).map pI))) := by
 refine Pf.body (fn := Tryz.f195) (by kernel_rfl) rfl ?_; simp only [List.map_cons, List.map_nil, List.cons_append, List.nil_append, List.length_cons, List.length_nil, Tryz.ntmps195, List.replicate, Nat.reduceSub, Nat.reduceAdd]
 refine gS fun K F => ?_; simp only [go_sem]; apply F; clear F K
 refine gS fun K F => ?_; simp only [go_sem]; apply F; clear F K
 refine Wc.seq (Wc.seq ?_)
 refine gR fun K F => ?_; simp only [go_sem]; apply F; clear F K
 refine Wc.block (Wc.loop (fun k y => ∃ (i : Nat) (b : D), k = l.length - i ∧ 1 ≤ i ∧ (i ≤ l.length ∨ i = 1) ∧ y.ds = [] ∧ y.e.length = 26 ∧ y.e.getD 0 .junk = P' (.lst l.length (l.map pI)) ∧ y.e.getD 4 .junk = P' (.int .i64 i) ∧ y.e.getD 3 .junk = b ∧
  OA y.s.nx y.s [(1, b, i - 1, (diffs (l.take i)).map pI)] []) ?_ (k := l.length - 1) ?_)
 ·rintro k ⟨e, ds, s1⟩ ⟨i, b, rfl, hi1, hi, rfl, hlen, h0, h4, h3, hb0⟩
  simp only at hlen h0 h4 h3 hb0
  refine Wc.seq (Wc.seq ?_)
  refine gR fun K F => ?_; simp only [go_sem, hlen, h0, h4, h3]; apply F; clear F K
  refine Wc.cond (t := decide ((i : Int) < l.length)) (by simp only [go_sem, hlen]) (fun hc => ?_) (fun hc => ?_)
  ·have hil : i < l.length := by have : (i : Int) < l.length := by simpa using hc
                                 omega
   obtain ⟨x, hx⟩ : ∃ x, l[i]? = some x := ⟨l[i], List.getElem?_eq_getElem hil⟩
   obtain ⟨y, hy⟩ : ∃ y, l[i - 1]? = some y := ⟨l[i - 1], List.getElem?_eq_getElem (by omega)⟩
   have hbx := hb x (List.mem_of_getElem? hx)
   have hby := hb y (List.mem_of_getElem? hy)
   have hix := ixA ti175 rfl ti3 (j := i) (m := l.length) (cs := l.map pI) hil (by simp) (by decide)
   have hca := rpA (off := i) (drop_map pI hx) (by simp; omega)
   have hiy := ixA ti175 rfl ti3 (j := i - 1) (m := l.length) (cs := l.map pI) (by omega) (by simp) (by decide)
   have hcb := rpA (off := i - 1) (drop_map pI hy) (by simp; omega)
   have e1 : IntKind.i64.wrap ((i : Int) - 1) = ((i - 1 : Nat) : Int) := by rw [wi64]; omega
   have e2 : IntKind.i64.wrap (x - y) = x - y := by rw [wi64]; omega
   refine Wc.skip (Wc.seq (Wc.block ?_))
   refine Wc.regD fun K F => ?_; simp only [go_sem, hlen, h0, h4, h3, hix, hca, hiy, hcb, e1, e2]
   refine OA.app (L1 := []) (L2 := []) (by_ := 8) (n := i - 1) (m := 1) (ys := [pI (x - y)]) (OA.put (hb0.adv.adv) (by omega)) (by omega) ⟨_, ti175, rfl⟩ ti3 rfl rfl rfl (by decide) (by decide) (by simp only [go_sem]) rfl (by omega) fun b' s' hb' hnx => ?_
   simp only [go_sem, hlen, h0, h4, h3]; apply F; clear F K
   refine gR fun K F => ?_; simp only [go_sem, hlen, h0, h4, h3, i64n i (by omega)]; apply F; clear F K
   refine ⟨l.length - (i + 1), by omega, i + 1, b', rfl, by omega, .inl (by omega), rfl, by simp only [go_sem, hlen], by simp only [go_sem, hlen, h0, h4, h3], by simp only [go_sem, hlen, h0, h4, h3], by simp only [go_sem, hlen, h0, h4, h3], ?_⟩
   have e3 : i - 1 + 1 = i + 1 - 1 := by omega
   have e4 : (diffs (l.take (i + 1))).map pI = (diffs (l.take i)).map pI ++ [pI (x - y)] := by rw [diffs_take hi1 hx hy]; simp
   rw [e4, ← e3]
   have := (hb'.mono (b' := s'.nx) (by rw [hnx]; simp only [St.nx_put, St.nx_adv]; omega)).adv (n := 3)
   simpa only [St.nx_adv, List.nil_append] using this.mono (Nat.le_add_right _ 3)
  ·have hil : l.length ≤ i := by have : ¬ (i : Int) < l.length := by simpa using hc
                                 omega
   rw [List.take_of_length_le hil] at hb0
   have hl2 : (diffs l).length = i - 1 := by
    have := (hb0.own _ (List.mem_cons_self ..)).1
    simpa using this
   obtain ⟨c, rfl⟩ := (hb0.own _ (List.mem_cons_self ..)).v
   refine Wc.exit ?_
   refine gS fun K F => ?_; simp only [go_sem, hlen, h0, h4, h3]; apply F; clear F K
   rw [hl2]
   exact Wc.ret (Pf.retO [.tmp 2] c rfl rfl (by simp only [resultsD, go_sem, hlen]) (((hb0.adv (n := 1)).adv (n := 1)).own _ (List.mem_cons_self ..)))
 ·refine ⟨1, _, rfl, by omega, .inr rfl, rfl, rfl, rfl, rfl, rfl, ?_⟩
  have : diffs (l.take 1) = [] := by cases l <;> rfl
  rw [this]
  exact ((s00_oa.adv.adv).front (es := 1) (n := 0) (cs := []) (by omega) rfl).adv.mono (Nat.le_of_ble_eq_true rfl)
theorem pf290 (t : List UInt8) (n : Int) (ht : t.length ≤ 4611686018427387904) : Pf E0 290 [.c (.p (.str t)), .c (.p (.int .i64 n))] (.tup [.c (.p (.str (appS t n).1)), .c (.p (.int .i64 (appS t n).2))]) := by
 refine Pf.body (fn := Tryz.f290) (by kernel_rfl) rfl ?_; simp only [List.map_cons, List.map_nil, List.cons_append, List.nil_append, List.length_cons, List.length_nil, Tryz.ntmps290, List.replicate, Nat.reduceSub, Nat.reduceAdd]
 refine gS fun K F => ?_; simp only [go_sem]; apply F; clear F K
 refine Wc.seq (Wc.seq ?_)
 refine gR fun K F => ?_; simp only [go_sem]
 refine gP (pf256 n) (by kernel_rfl) (by kernel_rfl) rfl rfl ?_
 simp only [go_sem]; apply F; clear F K
 refine Wc.cond (t := !inR n) rfl (fun hc => ?_) (fun hc => ?_)
 ·have hr : inR n = false := by simpa using hc
  have e : appS t n = ([], 2) := by unfold appS; rw [hr]; rfl
  refine gS fun K F => ?_; simp only [go_sem]; apply F; clear F K
  rw [e]
  exact Wc.ret (Pf.ret [.tmp 4, .tmp 5] [.c (.p (.str [])), .c (.p (.int .i64 2))] rfl rfl (by simp only [resultsD, go_sem]) rfl)
 ·have hr : inR n = true := by simpa using hc
  have e : appS t n = (t ++ vb (zz n), 0) := by unfold appS; rw [hr]; rfl
  have hz := zz_lt hr
  have hl := vb_len10 (n := zz n) (by omega)
  have hlt : ¬ (9223372036854775807 < t.length + (vb (zz n)).length) := by omega
  refine Wc.skip (Wc.seq ?_)
  refine gR fun K F => ?_; simp only [go_sem]
  refine gP (pf257 n hr) (by kernel_rfl) (by kernel_rfl) rfl rfl ?_
  simp only [go_sem]
  refine call177 (L1 := []) (L2 := []) (M := []) (OA.nil (s00_oa.adv.adv.adv)) (by omega) (by omega) (by omega) fun x' s' hx hnx => ?_
  have hlo := (hx.own _ (List.mem_cons_self ..)).listOf
  simp only [List.nil_append, Nat.zero_add] at hlo
  simp only [go_sem, hlo, allM_bytes, hlt]; apply F; clear F K
  rw [e]
  exact Wc.ret (Pf.ret [.tmp 4, .tmp 5] [.c (.p (.str (t ++ vb (zz n)))), .c (.p (.int .i64 0))] rfl rfl (by simp only [resultsD, go_sem]) rfl)
theorem pf277 (n : Int) : Pf E0 277 [.c (.p (.int .i64 n))] (P' (.str (appV [] n).1)) := by
 refine Pf.body (fn := Tryz.f277) (by kernel_rfl) rfl ?_; simp only [List.map_cons, List.map_nil, List.cons_append, List.nil_append, List.length_cons, List.length_nil, Tryz.ntmps277, List.replicate, Nat.reduceSub, Nat.reduceAdd]
 refine gS fun K F => ?_; simp only [go_sem]; apply F; clear F K
 refine gS fun K F => ?_; simp only [go_sem]
 refine gP (pf100 [] n (by decide)) (by kernel_rfl) (by kernel_rfl) rfl rfl ?_
 simp only [go_sem]; apply F; clear F K
 refine gS fun K F => ?_; simp only [go_sem]; apply F; clear F K
 exact Wc.ret (Pf.ret [.tmp 2] [.c (.p (.str (appV [] n).1))] rfl rfl (by simp only [resultsD, go_sem]) rfl)
theorem pf278 (n : Int) : Pf E0 278 [.c (.p (.int .i64 n))] (P' (.str (appS [] n).1)) := by
 refine Pf.body (fn := Tryz.f278) (by kernel_rfl) rfl ?_; simp only [List.map_cons, List.map_nil, List.cons_append, List.nil_append, List.length_cons, List.length_nil, Tryz.ntmps278, List.replicate, Nat.reduceSub, Nat.reduceAdd]
 refine gS fun K F => ?_; simp only [go_sem]; apply F; clear F K
 refine gS fun K F => ?_; simp only [go_sem]
 refine gP (pf290 [] n (by decide)) (by kernel_rfl) (by kernel_rfl) rfl rfl ?_
 simp only [go_sem]; apply F; clear F K
 refine gS fun K F => ?_; simp only [go_sem]; apply F; clear F K
 exact Wc.ret (Pf.ret [.tmp 2] [.c (.p (.str (appS [] n).1))] rfl rfl (by simp only [resultsD, go_sem]) rfl)
set_option maxHeartbeats 4000000
set_option maxRecDepth 10000
set_option linter.unusedSimpArgs false
set_option linter.unusedVariables false
def runE : List Int → List UInt8
 | [] => []
 | x :: r => vb (zz x) ++ (vb ((r.takeWhile (· == x)).length + 1) ++ runE (r.dropWhile (· == x)))
termination_by l => l.length
decreasing_by
 have := (List.dropWhile_sublist (p := (· == x)) (l := r)).length_le
 simp only [List.length_cons]
 omega
theorem while_rep (x : Int) : ∀ (m : Nat) (r : List Int), (∀ y, r[0]? = some y → y ≠ x) → ((List.replicate m x ++ r).takeWhile (· == x)).length = m ∧ (List.replicate m x ++ r).dropWhile (· == x) = r
 | 0, [], _ => ⟨rfl, rfl⟩
 | 0, y :: r, h => by
  have : (y == x) = false := by simpa using h y rfl
  simp [List.takeWhile, List.dropWhile, this]
 | m + 1, r, h => by
  obtain ⟨h1, h2⟩ := while_rep x m r h
  simp only [List.replicate_succ, List.cons_append, List.takeWhile_cons, beq_self_eq_true, if_true, List.length_cons, List.dropWhile_cons]
  exact ⟨by rw [h1], h2⟩
theorem drop_rep {l : List Int} {x : Int} {i : Nat} : ∀ {m : Nat}, (∀ j, i ≤ j → j < i + m → l[j]? = some x) → l.drop i = List.replicate m x ++ l.drop (i + m)
 | 0, _ => by simp
 | m + 1, h => by
  have ih := drop_rep (l := l) (x := x) (i := i) (m := m) fun j h1 h2 => h j h1 (by omega)
  have h1 := h (i + m) (by omega) (by omega)
  have hlt := (List.getElem?_eq_some_iff.1 h1).1
  have hx := (List.getElem?_eq_some_iff.1 h1).2
  rw [ih, List.drop_eq_getElem_cons hlt, hx, List.replicate_succ', List.append_assoc]
  rfl
theorem run_step {l : List Int} {x : Int} {i k : Nat} (hik : i < k) (h : ∀ j, i ≤ j → j < k → l[j]? = some x) (hk : ∀ y, l[k]? = some y → y ≠ x) : runE (l.drop i) = vb (zz x) ++ (vb (k - i) ++ runE (l.drop k)) := by
 obtain ⟨m, rfl⟩ : ∃ m, k = i + (m + 1) := ⟨k - i - 1, by omega⟩
 have e := drop_rep (l := l) (x := x) (i := i) (m := m + 1) h
 rw [e, List.replicate_succ, List.cons_append, runE]
 obtain ⟨h1, h2⟩ := while_rep x m (l.drop (i + (m + 1))) (fun y hy => hk y (by simpa using hy))
 rw [h1, h2]
 have : i + (m + 1) - i = m + 1 := by omega
 rw [this]
theorem pf196 (l : List Int) (hl : l.length < 2^40) (hr : l.all inR = true) : Pf E0 196 [.c (.p (.lst l.length (l.map pI)))] (P' (.str (runE l))) := by
 have hR : ∀ x ∈ l, inR x = true := List.all_eq_true.1 hr
 refine Pf.body (fn := Tryz.f196) (by kernel_rfl) rfl ?_; simp only [List.map_cons, List.map_nil, List.cons_append, List.nil_append, List.length_cons, List.length_nil, Tryz.ntmps196, List.replicate, Nat.reduceSub, Nat.reduceAdd]
 refine gS fun K F => ?_; simp only [go_sem]; apply F; clear F K
 refine gS fun K F => ?_; simp only [go_sem]; apply F; clear F K
 refine Wc.seq (Wc.seq ?_)
 refine gR fun K F => ?_; simp only [go_sem]; apply F; clear F K
 refine Wc.block (Wc.loop (fun k y => ∃ (i : Nat) (t : List UInt8), k = l.length - i ∧ i ≤ l.length ∧ y.ds = [] ∧ y.e.length = 47 ∧ y.e.getD 0 .junk = P' (.lst l.length (l.map pI)) ∧ y.e.getD 4 .junk = P' (.int .i64 i) ∧ y.e.getD 3 .junk = P' (.str t) ∧ t ++ runE (l.drop i) = runE l ∧ t.length ≤ 20 * i) ?_ (k := l.length) ?_)
 ·rintro k ⟨e, ds, s1⟩ ⟨i, t, rfl, hi, rfl, hlen, h0, h4, h3, ht, htl⟩
  simp only at hlen h0 h4 h3
  refine Wc.seq (Wc.seq ?_)
  refine gR fun K F => ?_; simp only [go_sem, hlen, h0, h4, h3]; apply F; clear F K
  refine Wc.cond (t := decide ((i : Int) < l.length)) (by simp only [go_sem, hlen]) (fun hc => ?_) (fun hc => ?_)
  ·have hil : i < l.length := by have : (i : Int) < l.length := by simpa using hc
                                 omega
   obtain ⟨x, hx⟩ : ∃ x, l[i]? = some x := ⟨l[i], List.getElem?_eq_getElem hil⟩
   have hxR := hR x (List.mem_of_getElem? hx)
   have hix := ixA ti175 rfl ti3 (j := i) (m := l.length) (cs := l.map pI) hil (by simp) (by decide)
   have hca := rpA (off := i) (drop_map pI hx) (by simp; omega)
   refine Wc.skip (Wc.block (Wc.seq ?_))
   refine gR fun K F => ?_; simp only [go_sem, hlen, h0, h4, h3]; apply F; clear F K
   refine Wc.seqA (fun y => ∃ k, i < k ∧ k ≤ l.length ∧ (∀ j, i ≤ j → j < k → l[j]? = some x) ∧ (∀ y, l[k]? = some y → y ≠ x) ∧ y.ds = [] ∧ y.e.length = 47 ∧ y.e.getD 0 .junk = P' (.lst l.length (l.map pI)) ∧ y.e.getD 4 .junk = P' (.int .i64 i) ∧ y.e.getD 3 .junk = P' (.str t) ∧ y.e.getD 5 .junk = P' (.int .i64 k)) ?_ ?_
   ·refine Wc.block (Wc.loop (fun q y => ∃ (k : Nat), q = l.length - k ∧ i ≤ k ∧ k ≤ l.length ∧ (∀ j, i ≤ j → j < k → l[j]? = some x) ∧ y.ds = [] ∧ y.e.length = 47 ∧ y.e.getD 0 .junk = P' (.lst l.length (l.map pI)) ∧ y.e.getD 4 .junk = P' (.int .i64 i) ∧ y.e.getD 3 .junk = P' (.str t) ∧ y.e.getD 5 .junk = P' (.int .i64 k)) ?_ (k := l.length - i) ?_)
    ·clear hlen h0 h4 h3 e s1
     rintro q ⟨e, ds, s1⟩ ⟨k, rfl, hik, hkl, hall, rfl, hlen, h0, h4, h3, h5⟩
     simp only at hlen h0 h4 h3 h5
     refine Wc.seq (Wc.seq ?_)
     by_cases hkl2 : k < l.length
     ·obtain ⟨y, hy⟩ : ∃ y, l[k]? = some y := ⟨l[k], List.getElem?_eq_getElem hkl2⟩
      have hiy := ixA ti175 rfl ti3 (j := k) (m := l.length) (cs := l.map pI) hkl2 (by simp) (by decide)
      have hcb := rpA (off := k) (drop_map pI hy) (by simp; omega)
      have hd : ((k : Int) < (l.length : Int)) = True := by simp; omega
      refine Wc.regD fun K F => ?_; simp only [go_sem, hlen, h0, h4, h3, h5, hix, hca, hiy, hcb, hd]; apply F; clear F K
      refine Wc.cond (t := (y == x)) (by simp only [go_sem, hlen, hd]) (fun hc => ?_) (fun hc => ?_)
      ·have hyx : y = x := by simpa using hc
       refine Wc.skip (Wc.block ?_)
       refine gR fun K F => ?_; simp only [go_sem, hlen, h0, h4, h3, h5, i64n k (by omega)]; apply F; clear F K
       refine ⟨l.length - (k + 1), by omega, k + 1, rfl, by omega, by omega, fun j h1 h2 => ?_, rfl, by simp only [go_sem, hlen], by simp only [go_sem, hlen, h0], by simp only [go_sem, hlen, h4], by simp only [go_sem, hlen, h3], by simp only [go_sem, hlen]⟩
       rcases Nat.lt_or_ge j k with h | h
       ·exact hall j h1 h
       ·have : j = k := by omega
        rw [this, hy, hyx]
      ·have hyx : y ≠ x := by simpa using hc
       have hki : i ≠ k := fun e => by rw [← e, hx] at hy; cases hy; exact hyx rfl
       exact Wc.exit ⟨rfl, k, by omega, hkl, hall, fun z hz => (by rw [hy] at hz; cases hz; exact hyx), rfl, by simp only [go_sem, hlen], by simp only [go_sem, hlen, h0], by simp only [go_sem, hlen, h4], by simp only [go_sem, hlen, h3], by simp only [go_sem, hlen, h5]⟩
     ·have hd : ((k : Int) < (l.length : Int)) = False := by simp; omega
      refine Wc.regD fun K F => ?_; simp only [go_sem, hlen, h0, h4, h3, h5, hd]; apply F; clear F K
      refine Wc.cond (t := false) (by simp only [go_sem, hlen, hd]) (fun hc => by cases hc) (fun hc => ?_)
      exact Wc.exit ⟨rfl, k, by omega, hkl, hall, fun z hz => (by rw [List.getElem?_eq_none (by omega)] at hz; cases hz), rfl, by simp only [go_sem, hlen], by simp only [go_sem, hlen, h0], by simp only [go_sem, hlen, h4], by simp only [go_sem, hlen, h3], by simp only [go_sem, hlen, h5]⟩
    ·exact ⟨i, rfl, Nat.le_refl _, by omega, fun j h1 h2 => by omega, rfl, by simp only [go_sem, hlen], by simp only [go_sem, hlen, h0], by simp only [go_sem, hlen, h4], by simp only [go_sem, hlen, h3], by simp only [go_sem, hlen, h4]⟩
   ·clear hlen h0 h4 h3 e s1
    rintro ⟨e, ds, s1⟩ ⟨k, hik, hkl, hall, hend, rfl, hlen, h0, h4, h3, h5⟩
    simp only at hlen h0 h4 h3 h5
    have hz := zz_lt hxR
    have z1 := vb_len10 (n := zz x) (by omega)
    have z2 := vb_len10 (n := k - i) (by omega)
    have ea : appS t x = (t ++ vb (zz x), 0) := by unfold appS; rw [hxR]; rfl
    have eb : appV (t ++ vb (zz x)) ((k - i : Nat) : Int) = (t ++ vb (zz x) ++ vb (k - i), 0) := by unfold appV; rw [if_neg (by omega), Int.toNat_natCast]
    have e1 : IntKind.i64.wrap ((k : Int) - i) = ((k - i : Nat) : Int) := by rw [wi64]; omega
    refine gS fun K F => ?_; simp only [go_sem, hlen, h0, h4, h3, h5, hix, hca]
    refine gP (pf194 t x (by omega)) (by kernel_rfl) (by kernel_rfl) rfl rfl ?_
    simp only [go_sem, hlen, h0, h4, h3, h5, ea]; apply F; clear F K
    refine gS fun K F => ?_; simp only [go_sem, hlen, h0, h4, h3, h5, e1, ea]
    refine gP (pf192 (t ++ vb (zz x)) ((k - i : Nat) : Int) (by simp; omega)) (by kernel_rfl) (by kernel_rfl) rfl rfl ?_
    simp only [go_sem, hlen, h0, h4, h3, h5, eb]; apply F; clear F K
    refine gR fun K F => ?_; simp only [go_sem, hlen, h0, h4, h3, h5]; apply F; clear F K
    refine ⟨l.length - k, by omega, k, t ++ vb (zz x) ++ vb (k - i), rfl, by omega, rfl, by simp only [go_sem, hlen], by simp only [go_sem, hlen, h0], by simp only [go_sem, hlen], by simp only [go_sem, hlen, eb], ?_, by simp; omega⟩
    rw [← ht, run_step hik hall hend]; simp only [List.append_assoc]
  ·have hil : i = l.length := by have : ¬ (i : Int) < l.length := by simpa using hc
                                 omega
   have ht' : t = runE l := by rw [← ht, hil, List.drop_length, runE, List.append_nil]
   refine Wc.exit ?_
   refine gS fun K F => ?_; simp only [go_sem, hlen, h0, h4, h3]; apply F; clear F K
   rw [← ht']
   exact Wc.ret (Pf.ret [.tmp 2] [.c (.p (.str t))] rfl rfl (by simp only [resultsD, go_sem, hlen]) rfl)
 ·exact ⟨0, [], rfl, by omega, rfl, rfl, rfl, rfl, rfl, by simp, by simp⟩
end Go.Proofs.YtedcnhbblgmdnaaGreat.Ab
