/- A part of the proof: an evaluator of the code, its contracts, the law. No condition. -/
import Derived.Test.YtedcnhbblgmdnaaGreatT10
namespace Go.Proofs.YtedcnhbblgmdnaaGreat.Ab
set_option maxHeartbeats 4000000
set_option linter.unusedSimpArgs false
set_option linter.unusedVariables false
set_option maxRecDepth 10000
end Go.Proofs.YtedcnhbblgmdnaaGreat.Ab
namespace Go.Proofs.YtedcnhbblgmdnaaGreat.Ab
set_option maxHeartbeats 4000000
set_option maxRecDepth 10000
set_option linter.unusedSimpArgs false
set_option linter.unusedVariables false
def inR (n : Int) : Bool := decide (-1152921504606846976 ≤ n) && decide (n ≤ 1152921504606846976)
/-- 102: inRange -/
theorem pf256 (n : Int) : Pf E0 256 [.c (.p (.int .i64 n))] (P' (.bool (inR n))) := by
  refine Pf.body (fn := Tryz.f256) (by kernel_rfl) rfl ?_; simp only [List.map_cons, List.map_nil, List.cons_append, List.nil_append, List.length_cons, List.length_nil, Tryz.ntmps256, List.replicate, Nat.reduceSub, Nat.reduceAdd]
  refine Wc.seq ?_
  refine Wc.reg fun K hK => ?_; simp only [go_sem, ti3, ti216, ti9, ti5, ti214, ti175, ti4, ti32]; refine hK _ _ ?_; clear hK K
  refine Wc.seq ?_
  by_cases h : -1152921504606846976 ≤ n
  · refine Wc.reg fun K hK => ?_; simp only [go_sem, ti3, ti216, ti9, ti5, ti214, ti175, ti4, ti32, h]; refine hK _ _ ?_; clear hK K
    exact Wc.ret (Pf.ret [.tmp 2] [.c (.p (.bool (inR n)))] rfl rfl (by simp only [resultsD, go_sem, ti3, ti216, ti9, ti5, ti214, ti175, ti4, ti32, inR, h, Bool.true_and]) rfl)
  · refine Wc.reg fun K hK => ?_; simp only [go_sem, ti3, ti216, ti9, ti5, ti214, ti175, ti4, ti32, h]; refine hK _ _ ?_; clear hK K
    exact Wc.ret (Pf.ret [.tmp 2] [.c (.p (.bool (inR n)))] rfl rfl (by simp only [resultsD, go_sem, ti3, ti216, ti9, ti5, ti214, ti175, ti4, ti32, inR, h, Bool.false_and]) rfl)
/-- The number that a signed one is folded to. -/
def zz (n : Int) : Nat := if 0 ≤ n then (2 * n).toNat else (-2 * n - 1).toNat
/-- 103: folded -/
theorem pf257 (n : Int) (h : inR n = true) : Pf E0 257 [.c (.p (.int .i64 n))] (P' (.int .u64 (zz n))) := by
  simp only [inR, Bool.and_eq_true, decide_eq_true_eq] at h
  refine Pf.body (fn := Tryz.f257) (by kernel_rfl) rfl ?_; simp only [List.map_cons, List.map_nil, List.cons_append, List.nil_append, List.length_cons, List.length_nil, Tryz.ntmps257, List.replicate, Nat.reduceSub, Nat.reduceAdd]
  refine Wc.seq ?_
  refine Wc.reg fun K hK => ?_; simp only [go_sem, ti3, ti216, ti9, ti5, ti214, ti175, ti4, ti32]; refine hK _ _ ?_; clear hK K
  refine Wc.seq (Wc.seq ?_)
  refine Wc.reg fun K hK => ?_; simp only [go_sem, ti3, ti216, ti9, ti5, ti214, ti175, ti4, ti32]; refine hK _ _ ?_; clear hK K
  refine Wc.cond (t := decide (0 ≤ n)) rfl (fun hc => ?_) (fun hc => ?_)
  · have hc' : 0 ≤ n := by simpa using hc
    refine Wc.seq ?_
    have e1 : IntKind.u64.wrap (2 * IntKind.u64.wrap n) = (zz n : Int) := by rw [wu64, wu64, zz, if_pos hc']; omega
    refine Wc.reg fun K hK => ?_; simp only [go_sem, ti3, ti216, ti9, ti5, ti214, ti175, ti4, ti32, e1]; refine hK _ _ ?_; clear hK K
    exact Wc.ret (Pf.ret [.tmp 2] [.c (.p (.int .u64 (zz n)))] rfl rfl (by simp only [resultsD, go_sem, ti3, ti216, ti9, ti5, ti214, ti175, ti4, ti32]) rfl)
  · have hc' : ¬ 0 ≤ n := by simpa using hc
    refine Wc.skip (Wc.seq ?_)
    have e1 : IntKind.u64.wrap (IntKind.u64.wrap (2 * IntKind.u64.wrap (IntKind.i64.wrap (0 - n))) - 1) = (zz n : Int) := by rw [wu64, wu64, wu64, wi64, zz, if_neg hc']; omega
    refine Wc.reg fun K hK => ?_; simp only [go_sem, ti3, ti216, ti9, ti5, ti214, ti175, ti4, ti32, e1]; refine hK _ _ ?_; clear hK K
    exact Wc.ret (Pf.ret [.tmp 2] [.c (.p (.int .u64 (zz n)))] rfl rfl (by simp only [resultsD, go_sem, ti3, ti216, ti9, ti5, ti214, ti175, ti4, ti32]) rfl)
theorem and127 (k : Nat) (h : k < 2^64) : andI .u64 (k : Int) 127 = ((k % 128 : Nat) : Int) := by
  have : (BitVec.ofInt 64 (k : Int) &&& BitVec.ofInt 64 127).toNat = k % 128 := by
    rw [BitVec.ofInt_natCast, BitVec.toNat_and, BitVec.toNat_ofNat, Nat.mod_eq_of_lt h]
    exact Nat.and_two_pow_sub_one_eq_mod k 7
  show IntKind.u64.wrap ((BitVec.ofInt 64 (k : Int) &&& BitVec.ofInt 64 127).toNat : Int) = _
  rw [this, wu64]; omega
theorem or128' : ∀ v : Nat, v < 128 → (BitVec.ofInt 8 (v : Int) ||| BitVec.ofInt 8 128).toNat = v + 128 := by decide
theorem or128 (v : Nat) (h : v < 128) : orI .u8 (v : Int) 128 = ((v + 128 : Nat) : Int) := by
  show IntKind.u8.wrap ((BitVec.ofInt 8 (v : Int) ||| BitVec.ofInt 8 128).toNat : Int) = _
  rw [or128' v h, wu8]; omega
theorem fdiv128 (k : Nat) : shrI .u64 (k : Int) 7 = ((k / 128 : Nat) : Int) := by
  show (k : Int).fdiv (2 ^ (min (Int.toNat 7) 64)) = _
  rw [Int.fdiv_eq_ediv_of_nonneg _ (by decide)]; rfl
theorem pdbn (n : Nat) (h : n < 256) : Pd.int .u8 (n : Int) = pdOfByte (UInt8.ofNat n) := pdb n (by omega) (by omega)
/-- 61: appendGroups, in its caller's state -/
theorem call177 {bb : Nat} {s : St} {L1 L2 : List (Nat × D × Nat × List Pd)} {M : List (Nat × Ob)} {x : D} {i0 : Nat} {cs0 : List Pd} {n : Nat} {K : D → St → Prop} (h : OA bb s (L1 ++ (1, x, i0, cs0) :: L2) M) (hbb : bb ≤ s.nx) (hn : n < 2^64) (hi0 : i0 ≤ 2^46)
    (hK : ∀ x' s', OA s'.nx s' (L1 ++ (1, x', i0 + (vb n).length, cs0 ++ (vb n).map pdOfByte) :: L2) M → s.nx ≤ s'.nx → K x' s') : wpCall E0 (.v (.c (.p (.fnc 177)))) [x, .v (.c (.p (.int .u64 n)))] s K := by
  obtain ⟨c, rfl⟩ := (h.own (1, x, i0, cs0) (by simp)).v
  refine wpCall.opn (fn := Tryz.f177) (by kernel_rfl) (by kernel_rfl) rfl (by kernel_rfl) rfl ?_; simp only [List.map_cons, List.map_nil, List.cons_append, List.nil_append, List.length_cons, List.length_nil, Tryz.ntmps177, List.replicate, Nat.reduceSub, Nat.reduceAdd]
  refine Wc.seq ?_
  refine Wc.reg fun K hK => ?_; simp only [go_sem, ti3, ti216, ti9, ti5, ti214, ti175, ti4, ti32]; refine hK _ _ ?_; clear hK K
  refine Wc.seq (Wc.block ?_)
  refine Wc.loop (fun k y => ∃ (m : Nat) (b : D) (i : Nat) (cs : List UInt8), k = m ∧ m < 2^64 ∧ y.ds = [] ∧ y.e.length = 21 ∧ y.e.getD 1 .junk = P' (.int .u64 m) ∧ y.e.getD 0 .junk = b ∧
    OA y.s.nx y.s (L1 ++ (1, b, i, cs0 ++ cs.map pdOfByte) :: L2) M ∧ cs ++ vb m = vb n ∧ i = i0 + cs.length ∧ s.nx ≤ y.s.nx) ?_ (k := n) ?_
  · rintro k ⟨e, ds, s1⟩ ⟨m, b, i, cs, rfl, hm1, rfl, hlen, h1, h0, hb, hcs, hi, hnx0⟩
    simp only at hlen h0 h1 hb hnx0
    have hl10 : cs.length + (vb k).length ≤ 10 := by rw [← List.length_append, hcs]; exact vb_len10 hn
    refine Wc.seq (Wc.seq ?_)
    refine Wc.reg fun K hK => ?_; simp only [go_sem, ti3, ti216, ti9, ti5, ti214, ti175, ti4, ti32, hlen, h0, h1]; refine hK _ _ ?_; clear hK K
    refine Wc.cond (t := decide ((128 : Int) ≤ k)) (by simp only [go_sem, ti3, ti216, ti9, ti5, ti214, ti175, ti4, ti32, hlen, h0, h1]) (fun hc => ?_) (fun hc => ?_)
    · have hc' : 128 ≤ k := by have : (128 : Int) ≤ k := by simpa using hc
                               omega
      have e4 : orI .u8 (IntKind.u8.wrap (andI .u64 (k : Int) 127)) 128 = ((k % 128 + 128 : Nat) : Int) := by
        rw [and127 k hm1, wu8]
        have : ((k % 128 : Nat) : Int) % 256 = ((k % 128 : Nat) : Int) := by omega
        rw [this, or128 _ (by omega)]
      refine Wc.skip (Wc.block (Wc.seq ?_))
      refine Wc.reg fun K hK => ?_; simp only [go_sem, ti3, ti216, ti9, ti5, ti214, ti175, ti4, ti32, hlen, h0, h1, e4]
      refine OA.app (by_ := 1) (n := i) (m := 1) (ys := [.int .u8 ((k % 128 + 128 : Nat) : Int)]) (OA.put (hb.adv.adv) (by omega)) (by omega) ⟨_, ti214, rfl⟩ ti5 rfl rfl rfl (by decide) (by decide) (by simp only [go_sem, ti3, ti216, ti9, ti5, ti214, ti175, ti4, ti32, e4]) rfl (by omega) fun b' s' hb' hnx => ?_
      simp only [go_sem, ti3, ti216, ti9, ti5, ti214, ti175, ti4, ti32, hlen, h0, h1, e4]; refine hK _ _ ?_; clear hK K
      refine Wc.reg fun K hK => ?_; simp only [go_sem, ti3, ti216, ti9, ti5, ti214, ti175, ti4, ti32, hlen, h0, h1, e4, fdiv128]; refine hK _ _ ?_; clear hK K
      refine ⟨k / 128, by omega, k / 128, b', i + 1, cs ++ [UInt8.ofNat (k % 128 + 128)], rfl, by omega, rfl, by simp only [go_sem, ti3, ti216, ti9, ti5, ti214, ti175, ti4, ti32, hlen], by simp only [go_sem, ti3, ti216, ti9, ti5, ti214, ti175, ti4, ti32, hlen, h0, h1], by simp only [go_sem, ti3, ti216, ti9, ti5, ti214, ti175, ti4, ti32, hlen, h0, h1], ?_, ?_, by simp [hi]; omega, ?_⟩
      · have := (hb'.mono (b' := s'.nx) (by rw [hnx]; simp only [St.nx_put, St.nx_adv]; omega)).adv (n := 3)
        rw [pdbn _ (by omega), List.append_assoc] at this
        have := this.mono (Nat.le_add_right s'.nx 3)
        simpa only [St.nx_adv, List.map_append, List.map_cons, List.map_nil] using this
      · rw [List.append_assoc, ← hcs, vb_ge (n := k) (by omega)]; rfl
      · simp only [St.nx_adv, hnx, St.nx_put]; omega
    · have hc' : k < 128 := by have : ¬ (128 : Int) ≤ k := by simpa using hc
                               omega
      refine Wc.exit ?_
      have e4 : IntKind.u8.wrap (k : Int) = k := by rw [wu8]; omega
      refine Wc.seq ?_
      refine Wc.reg fun K hK => ?_; simp only [go_sem, ti3, ti216, ti9, ti5, ti214, ti175, ti4, ti32, hlen, h0, h1, e4]
      refine OA.app (by_ := 1) (n := i) (m := 1) (ys := [.int .u8 k]) (OA.put (hb.adv.adv) (by omega)) (by omega) ⟨_, ti214, rfl⟩ ti5 rfl rfl rfl (by decide) (by decide) (by simp only [go_sem, ti3, ti216, ti9, ti5, ti214, ti175, ti4, ti32, e4]) rfl (by omega) fun b' s' hb' hnx => ?_
      obtain ⟨c', rfl⟩ := (hb'.own (1, b', i + 1, _) (List.mem_append_right _ (List.mem_cons_self ..))).v
      simp only [go_sem, ti3, ti216, ti9, ti5, ti214, ti175, ti4, ti32, hlen, h0, h1, e4]; refine hK _ _ ?_; clear hK K
      refine Wc.ret (Op.ret [.tmp 4] [.c c'] rfl rfl (by simp only [resultsD, go_sem, ti3, ti216, ti9, ti5, ti214, ti175, ti4, ti32, hlen]) (hK _ _ ?_ ?_))
      · have hcs2 : cs0 ++ List.map pdOfByte cs ++ [.int .u8 (k : Int)] = cs0 ++ (vb n).map pdOfByte := by
          rw [← hcs, vb_lt (n := k) (by omega), pdb _ (by omega) (by omega)]; simp
        have hl2 : i + 1 = i0 + (vb n).length := by rw [← hcs, vb_lt (n := k) (by omega), hi]; simp; omega
        rw [hcs2, hl2] at hb'
        exact hb'.mono (by rw [hnx]; simp only [St.nx_put, St.nx_adv]; omega)
      · rw [hnx]; simp only [St.nx_put, St.nx_adv]; omega
  · exact ⟨n, _, i0, [], rfl, hn, rfl, rfl, rfl, rfl, by simpa using h.adv.mono (by simp only [St.nx_adv]; omega), rfl, rfl, by simp only [St.nx_adv]; omega⟩
end Go.Proofs.YtedcnhbblgmdnaaGreat.Ab
namespace Go.Proofs.YtedcnhbblgmdnaaGreat.Ab
set_option maxHeartbeats 4000000
set_option maxRecDepth 10000
set_option linter.unusedSimpArgs false
set_option linter.unusedVariables false
/-- 26: varint.Append -/
def appV (s : List UInt8) (n : Int) : List UInt8 × Int := if n < 0 ∨ 1152921504606846976 < n then ([], 2) else (s ++ vb n.toNat, 0)
theorem pf100 (t : List UInt8) (n : Int) (ht : t.length ≤ 4611686018427387904) : Pf E0 100 [.c (.p (.str t)), .c (.p (.int .i64 n))] (.tup [.c (.p (.str (appV t n).1)), .c (.p (.int .i64 (appV t n).2))]) := by
  refine Pf.body (fn := Tryz.f100) (by kernel_rfl) rfl ?_; simp only [List.map_cons, List.map_nil, List.cons_append, List.nil_append, List.length_cons, List.length_nil, Tryz.ntmps100, List.replicate, Nat.reduceSub, Nat.reduceAdd]
  refine Wc.seq ?_
  refine Wc.reg fun K hK => ?_; simp only [go_sem, ti3, ti216, ti9, ti5, ti214, ti175, ti4, ti32]; refine hK _ _ ?_; clear hK K
  refine Wc.seq (Wc.seq ?_)
  by_cases h : n < 0
  · refine Wc.reg fun K hK => ?_; simp only [go_sem, ti3, ti216, ti9, ti5, ti214, ti175, ti4, ti32, h]; refine hK _ _ ?_; clear hK K
    refine Wc.cond (t := true) rfl (fun _ => ?_) (fun h => by cases h)
    refine Wc.seq ?_
    refine Wc.reg fun K hK => ?_; simp only [go_sem, ti3, ti216, ti9, ti5, ti214, ti175, ti4, ti32, h]; refine hK _ _ ?_; clear hK K
    have e : appV t n = ([], 2) := by unfold appV; rw [if_pos (.inl h)]
    rw [e]
    exact Wc.ret (Pf.ret [.tmp 4, .tmp 5] [.c (.p (.str [])), .c (.p (.int .i64 2))] rfl rfl (by simp only [resultsD, go_sem, ti3, ti216, ti9, ti5, ti214, ti175, ti4, ti32]) rfl)
  · refine Wc.reg fun K hK => ?_; simp only [go_sem, ti3, ti216, ti9, ti5, ti214, ti175, ti4, ti32, h]; refine hK _ _ ?_; clear hK K
    refine Wc.cond (t := decide (1152921504606846976 < n)) rfl (fun hc => ?_) (fun hc => ?_)
    · have hc' : 1152921504606846976 < n := by simpa using hc
      refine Wc.seq ?_
      refine Wc.reg fun K hK => ?_; simp only [go_sem, ti3, ti216, ti9, ti5, ti214, ti175, ti4, ti32, h]; refine hK _ _ ?_; clear hK K
      have e : appV t n = ([], 2) := by unfold appV; rw [if_pos (.inr hc')]
      rw [e]
      exact Wc.ret (Pf.ret [.tmp 4, .tmp 5] [.c (.p (.str [])), .c (.p (.int .i64 2))] rfl rfl (by simp only [resultsD, go_sem, ti3, ti216, ti9, ti5, ti214, ti175, ti4, ti32]) rfl)
    · have hc' : ¬ 1152921504606846976 < n := by simpa using hc
      have e : appV t n = (t ++ vb n.toNat, 0) := by unfold appV; rw [if_neg (by omega)]
      have e1 : IntKind.u64.wrap n = (n.toNat : Int) := by rw [wu64]; omega
      have hl := vb_len10 (n := n.toNat) (by omega)
      refine Wc.skip (Wc.seq ?_)
      refine Wc.reg fun K hK => ?_; simp only [go_sem, ti3, ti216, ti9, ti5, ti214, ti175, ti4, ti32, e1]
      refine call177 (L1 := []) (L2 := []) (M := []) (OA.nil (s00_oa.adv.adv.adv)) (by omega) (by omega) (by omega) fun x' s' hx hnx => ?_
      have hlo := (hx.own _ (List.mem_cons_self ..)).listOf
      simp only [List.nil_append, Nat.zero_add] at hlo
      have hlt : ¬ (9223372036854775807 < t.length + (vb n.toNat).length) := by omega
      simp only [go_sem, ti3, ti216, ti9, ti5, ti214, ti175, ti4, ti32, hlo, allM_bytes, hlt]; refine hK _ _ ?_; clear hK K
      rw [e]
      exact Wc.ret (Pf.ret [.tmp 4, .tmp 5] [.c (.p (.str (t ++ vb n.toNat))), .c (.p (.int .i64 0))] rfl rfl (by simp only [resultsD, go_sem, ti3, ti216, ti9, ti5, ti214, ti175, ti4, ti32]) rfl)
end Go.Proofs.YtedcnhbblgmdnaaGreat.Ab
namespace Go.Proofs.YtedcnhbblgmdnaaGreat.Ab
set_option maxHeartbeats 4000000
set_option maxRecDepth 10000
set_option linter.unusedSimpArgs false
set_option linter.unusedVariables false
abbrev pI (n : Int) : Pd := .int .i64 n
def encL (l : List Int) : List UInt8 := l.flatMap fun n => vb (zz n)
def encI (l : List Int) : List UInt8 × Int := if 20000 < l.length then ([], 4) else if l.all inR then (vb l.length ++ encL l, 0) else ([], 2)
theorem zz_lt {n : Int} (h : inR n = true) : zz n < 2^62 := by
  simp only [inR, Bool.and_eq_true, decide_eq_true_eq] at h
  unfold zz; split <;> omega
theorem i64n (n : Nat) (h : n < 2^62) : IntKind.i64.wrap ((n : Int) + 1) = ((n + 1 : Nat) : Int) := by rw [wi64]; omega
theorem take_snoc {α : Type} {l : List α} {i : Nat} {x : α} (h : l[i]? = some x) : l.take (i + 1) = l.take i ++ [x] := by
  rw [List.take_add_one, h]; rfl
theorem encL_take {l : List Int} {i : Nat} {x : Int} (h : l[i]? = some x) : encL (l.take (i + 1)) = encL (l.take i) ++ vb (zz x) := by
  rw [take_snoc h]; simp [encL]
/-- 53: varint.Encode -/
theorem pf227 (l : List Int) (hl : l.length < 2^40) : Pf E0 227 [.c (.p (.lst l.length (l.map pI)))] (.tup [.c (.p (.str (encI l).1)), .c (.p (.int .i64 (encI l).2))]) := by
  refine Pf.body (fn := Tryz.f227) (by kernel_rfl) rfl ?_; simp only [List.map_cons, List.map_nil, List.cons_append, List.nil_append, List.length_cons, List.length_nil, Tryz.ntmps227, List.replicate, Nat.reduceSub, Nat.reduceAdd]
  refine Wc.seq ?_
  refine Wc.reg fun K hK => ?_; simp only [go_sem, ti3, ti216, ti9, ti5, ti214, ti175, ti4, ti32]; refine hK _ _ ?_; clear hK K
  refine Wc.seq (Wc.seq ?_)
  refine Wc.reg fun K hK => ?_; simp only [go_sem, ti3, ti216, ti9, ti5, ti214, ti175, ti4, ti32]; refine hK _ _ ?_; clear hK K
  refine Wc.cond (t := decide ((20000 : Int) < l.length)) rfl (fun hc => ?_) (fun hc => ?_)
  · have hc' : (20000 : Int) < l.length := by simpa using hc
    have e : encI l = ([], 4) := by unfold encI; rw [if_pos (by omega)]
    refine Wc.seq ?_
    refine Wc.reg fun K hK => ?_; simp only [go_sem, ti3, ti216, ti9, ti5, ti214, ti175, ti4, ti32]; refine hK _ _ ?_; clear hK K
    rw [e]
    exact Wc.ret (Pf.ret [.tmp 2, .tmp 3] [.c (.p (.str [])), .c (.p (.int .i64 4))] rfl rfl (by simp only [resultsD, go_sem, ti3, ti216, ti9, ti5, ti214, ti175, ti4, ti32]) rfl)
  have hc' : ¬ (20000 : Int) < l.length := by simpa using hc
  have e0 : encI l = if l.all inR then (vb l.length ++ encL l, 0) else ([], 2) := by unfold encI; rw [if_neg (by omega)]
  have e1 : IntKind.u64.wrap (l.length : Int) = l.length := by rw [wu64]; omega
  have hvl := vb_len10 (n := l.length) (by omega)
  refine Wc.skip (Wc.seq ?_)
  refine Wc.reg fun K hK => ?_; simp only [go_sem, ti3, ti216, ti9, ti5, ti214, ti175, ti4, ti32, e1]
  refine call177 (L1 := []) (L2 := []) (M := []) (OA.nil (s00_oa.adv.adv.adv)) (by omega) (by omega) (by omega) fun b0 s0 hb0 hnx0 => ?_
  simp only [go_sem, ti3, ti216, ti9, ti5, ti214, ti175, ti4, ti32]; refine hK _ _ ?_; clear hK K
  refine Wc.seq (Wc.seq ?_)
  refine Wc.reg fun K hK => ?_; simp only [go_sem, ti3, ti216, ti9, ti5, ti214, ti175, ti4, ti32]; refine hK _ _ ?_; clear hK K
  refine Wc.block (Wc.loop (fun k y => ∃ (i : Nat) (b : D) (ib : Nat), k = l.length - i ∧ i ≤ l.length ∧ y.ds = [] ∧ y.e.length = 30 ∧ y.e.getD 14 .junk = P' (.lst l.length (l.map pI)) ∧ y.e.getD 15 .junk = P' (.int .i64 l.length) ∧ y.e.getD 16 .junk = P' (.int .i64 i) ∧ y.e.getD 4 .junk = b ∧
    OA y.s.nx y.s [(1, b, ib, (vb l.length ++ encL (l.take i)).map pdOfByte)] [] ∧ ib ≤ 10 + 10 * i ∧ (l.take i).all inR = true) ?_ (k := l.length) ?_)
  · rintro k ⟨e, ds, s1⟩ ⟨i, b, ib, rfl, hi, rfl, hlen, h14, h15, h16, h4, hb, hib, hall⟩
    simp only at hlen h14 h15 h16 h4 hb
    refine Wc.seq ?_
    refine Wc.reg fun K hK => ?_; simp only [go_sem, ti3, ti216, ti9, ti5, ti214, ti175, ti4, ti32, hlen, h14, h15, h16, h4]; refine hK _ _ ?_; clear hK K
    refine Wc.seq ?_
    refine Wc.cond (t := decide ((i : Int) < l.length)) (by simp only [go_sem, ti3, ti216, ti9, ti5, ti214, ti175, ti4, ti32, hlen]) (fun hc => ?_) (fun hc => ?_)
    · have hil : i < l.length := by have : (i : Int) < l.length := by simpa using hc
                                    omega
      obtain ⟨x, hx⟩ : ∃ x, l[i]? = some x := ⟨l[i], List.getElem?_eq_getElem hil⟩
      have hix := ixA ti175 rfl ti3 (j := i) (m := l.length) (cs := l.map pI) hil (by simp) (by decide)
      have hca := rpA (off := i) (drop_map pI hx) (by simp; omega)
      refine Wc.skip (Wc.seq (Wc.block (Wc.seq ?_)))
      refine Wc.reg fun K hK => ?_; simp only [go_sem, ti3, ti216, ti9, ti5, ti214, ti175, ti4, ti32, hlen, h14, h15, h16, h4, hix, hca]; refine hK _ _ ?_; clear hK K
      refine Wc.seq (Wc.seq ?_)
      refine Wc.reg fun K hK => ?_; simp only [go_sem, ti3, ti216, ti9, ti5, ti214, ti175, ti4, ti32, hlen, h14, h15, h16, h4]
      refine wpCall.pf (pf256 x) (by kernel_rfl) (by kernel_rfl) rfl rfl ?_
      simp only [go_sem, ti3, ti216, ti9, ti5, ti214, ti175, ti4, ti32, hlen, h14, h15, h16, h4]; refine hK _ _ ?_; clear hK K
      refine Wc.cond (t := !inR x) (by simp only [go_sem, ti3, ti216, ti9, ti5, ti214, ti175, ti4, ti32, hlen]) (fun hc => ?_) (fun hc => ?_)
      · have hx2 : inR x = false := by simpa using hc
        have e : encI l = ([], 2) := by
          rw [e0, if_neg]
          intro h
          rw [List.all_eq_true] at h
          have := h x (List.mem_of_getElem? hx)
          rw [hx2] at this; cases this
        refine Wc.seq ?_
        refine Wc.reg fun K hK => ?_; simp only [go_sem, ti3, ti216, ti9, ti5, ti214, ti175, ti4, ti32, hlen, h14, h15, h16, h4]; refine hK _ _ ?_; clear hK K
        rw [e]
        exact Wc.ret (Pf.ret [.tmp 2, .tmp 3] [.c (.p (.str [])), .c (.p (.int .i64 2))] rfl rfl (by simp only [resultsD, go_sem, ti3, ti216, ti9, ti5, ti214, ti175, ti4, ti32, hlen]) rfl)
      · have hx2 : inR x = true := by simpa using hc
        have hz := zz_lt hx2
        refine Wc.skip ?_
        refine Wc.reg fun K hK => ?_; simp only [go_sem, ti3, ti216, ti9, ti5, ti214, ti175, ti4, ti32, hlen, h14, h15, h16, h4]
        refine wpCall.pf (pf257 x hx2) (by kernel_rfl) (by kernel_rfl) rfl rfl ?_
        simp only [go_sem, ti3, ti216, ti9, ti5, ti214, ti175, ti4, ti32, hlen, h14, h15, h16, h4]
        refine call177 (L1 := []) (L2 := []) (M := []) (OA.adv (OA.adv (OA.adv (OA.adv hb)))) (by simp only [St.nx_adv]; omega) (by omega) (by omega) fun b' s' hb' hnx => ?_
        simp only [go_sem, ti3, ti216, ti9, ti5, ti214, ti175, ti4, ti32, hlen, h14, h15, h16, h4]; refine hK _ _ ?_; clear hK K
        refine Wc.reg fun K hK => ?_; simp only [go_sem, ti3, ti216, ti9, ti5, ti214, ti175, ti4, ti32, hlen, h14, h15, h16, h4, i64n i (by omega)]; refine hK _ _ ?_; clear hK K
        have hz10 := vb_len10 (n := zz x) (by omega)
        refine ⟨l.length - (i + 1), by omega, i + 1, b', ib + (vb (zz x)).length, rfl, by omega, rfl, by simp only [go_sem, ti3, ti216, ti9, ti5, ti214, ti175, ti4, ti32, hlen], by simp only [go_sem, ti3, ti216, ti9, ti5, ti214, ti175, ti4, ti32, hlen, h14, h15, h16, h4], by simp only [go_sem, ti3, ti216, ti9, ti5, ti214, ti175, ti4, ti32, hlen, h14, h15, h16, h4], by simp only [go_sem, ti3, ti216, ti9, ti5, ti214, ti175, ti4, ti32, hlen, h14, h15, h16, h4], by simp only [go_sem, ti3, ti216, ti9, ti5, ti214, ti175, ti4, ti32, hlen, h14, h15, h16, h4], ?_, by omega, ?_⟩
        · rw [encL_take hx, ← List.append_assoc, List.map_append]
          simpa only [St.nx_adv, List.nil_append] using (hb'.adv (n := 2)).mono (Nat.le_add_right _ 2)
        · rw [take_snoc hx, List.all_append, hall]; simp [hx2]
    · have hil : i = l.length := by have : ¬ (i : Int) < l.length := by simpa using hc
                                    omega
      subst hil
      rw [List.take_length] at hb hall
      refine Wc.exit ?_
      refine Wc.seq ?_
      have hlo := (hb.own _ (List.mem_cons_self ..)).lo
      have e : encI l = (vb l.length ++ encL l, 0) := by rw [e0, if_pos hall]
      have hle : (vb l.length ++ encL l).length = ib := by
        have := (hb.own _ (List.mem_cons_self ..)).1
        simpa using this
      refine Wc.reg fun K hK => ?_; simp only [go_sem, ti3, ti216, ti9, ti5, ti214, ti175, ti4, ti32, hlen, h14, h15, h16, h4, hlo, allM_bytes, hle]; refine hK _ _ ?_; clear hK K
      rw [e]
      exact Wc.ret (Pf.ret [.tmp 2, .tmp 3] [.c (.p (.str (vb l.length ++ encL l))), .c (.p (.int .i64 0))] rfl rfl (by simp only [resultsD, go_sem, ti3, ti216, ti9, ti5, ti214, ti175, ti4, ti32, hlen]) rfl)
  · refine ⟨0, b0, (vb l.length).length, rfl, by omega, rfl, rfl, rfl, rfl, rfl, rfl, ?_, by omega, rfl⟩
    simpa [encL, St.nx_adv] using (hb0.adv (n := 3)).mono (Nat.le_add_right _ 3)
end Go.Proofs.YtedcnhbblgmdnaaGreat.Ab
namespace Go.Proofs.YtedcnhbblgmdnaaGreat.Ab
set_option maxHeartbeats 4000000
set_option maxRecDepth 10000
set_option linter.unusedSimpArgs false
set_option linter.unusedVariables false
def appS (t : List UInt8) (n : Int) : List UInt8 × Int := if inR n then (t ++ vb (zz n), 0) else ([], 2)
theorem encL_len (l : List Int) (h : l.all inR = true) : (encL l).length ≤ 10 * l.length := by
  induction l with
  | nil => simp [encL]
  | cons x r ih =>
    simp only [List.all_cons, Bool.and_eq_true] at h
    have := ih h.2
    have h2 := vb_len10 (n := zz x) (by have := zz_lt h.1; omega)
    simp only [encL, List.flatMap_cons, List.length_append, List.length_cons] at this ⊢
    omega
end Go.Proofs.YtedcnhbblgmdnaaGreat.Ab
namespace Go.Proofs.YtedcnhbblgmdnaaGreat.Ab
set_option maxHeartbeats 4000000
set_option maxRecDepth 10000
set_option linter.unusedSimpArgs false
set_option linter.unusedVariables false
def diffs : List Int → List Int
  | x :: y :: r => (y - x) :: diffs (y :: r)
  | _ => []
theorem diffs_take : ∀ {l : List Int} {i : Nat} {x y : Int}, 1 ≤ i → l[i]? = some x → l[i - 1]? = some y → diffs (l.take (i + 1)) = diffs (l.take i) ++ [x - y]
  | [], i, x, y, h1, hx, hy => by simp at hx
  | a :: r, 1, x, y, h1, hx, hy => by
    simp at hx hy
    subst hy
    cases r with
    | nil => simp at hx
    | cons b r => simp at hx; subst hx; simp [diffs]
  | a :: r, i + 2, x, y, h1, hx, hy => by
    cases r with
    | nil => simp at hx
    | cons b r =>
      have := diffs_take (l := b :: r) (i := i + 1) (by omega) (by simpa using hx) (by simpa using hy)
      simp only [List.take_succ_cons, diffs, List.cons_append] at this ⊢
      rw [this]
/-- 97: differences -/
theorem pf255 (l : List Int) (hl : l.length < 2^40) (hb : ∀ x ∈ l, -2305843009213693952 ≤ x ∧ x ≤ 2305843009213693952) : Pf E0 255 [.c (.p (.lst l.length (l.map pI)))] (P' (.lst (diffs l).length ((diffs l).map pI))) := by
  refine Pf.body (fn := Tryz.f255) (by kernel_rfl) rfl ?_; simp only [List.map_cons, List.map_nil, List.cons_append, List.nil_append, List.length_cons, List.length_nil, Tryz.ntmps255, List.replicate, Nat.reduceSub, Nat.reduceAdd]
  refine Wc.seq ?_
  refine Wc.reg fun K hK => ?_; simp only [go_sem, ti3, ti216, ti9, ti5, ti214, ti175, ti4, ti32]; refine hK _ _ ?_; clear hK K
  refine Wc.seq ?_
  refine Wc.reg fun K hK => ?_; simp only [go_sem, ti3, ti216, ti9, ti5, ti214, ti175, ti4, ti32]; refine hK _ _ ?_; clear hK K
  refine Wc.seq (Wc.seq ?_)
  refine Wc.reg fun K hK => ?_; simp only [go_sem, ti3, ti216, ti9, ti5, ti214, ti175, ti4, ti32]; refine hK _ _ ?_; clear hK K
  refine Wc.block (Wc.loop (fun k y => ∃ (i : Nat) (b : D), k = l.length - i ∧ 1 ≤ i ∧ (i ≤ l.length ∨ i = 1) ∧ y.ds = [] ∧ y.e.length = 25 ∧ y.e.getD 0 .junk = P' (.lst l.length (l.map pI)) ∧ y.e.getD 4 .junk = P' (.int .i64 i) ∧ y.e.getD 3 .junk = b ∧
    OA y.s.nx y.s [(1, b, i - 1, (diffs (l.take i)).map pI)] []) ?_ (k := l.length - 1) ?_)
  · rintro k ⟨e, ds, s1⟩ ⟨i, b, rfl, hi1, hi, rfl, hlen, h0, h4, h3, hb0⟩
    simp only at hlen h0 h4 h3 hb0
    refine Wc.seq (Wc.seq ?_)
    refine Wc.reg fun K hK => ?_; simp only [go_sem, ti3, ti216, ti9, ti5, ti214, ti175, ti4, ti32, hlen, h0, h4, h3]; refine hK _ _ ?_; clear hK K
    refine Wc.cond (t := decide ((i : Int) < l.length)) (by simp only [go_sem, ti3, ti216, ti9, ti5, ti214, ti175, ti4, ti32, hlen]) (fun hc => ?_) (fun hc => ?_)
    · have hil : i < l.length := by have : (i : Int) < l.length := by simpa using hc
                                    omega
      obtain ⟨x, hx⟩ : ∃ x, l[i]? = some x := ⟨l[i], List.getElem?_eq_getElem hil⟩
      obtain ⟨y, hy⟩ : ∃ y, l[i - 1]? = some y := ⟨l[i - 1], List.getElem?_eq_getElem (by omega)⟩
      have hbx := hb x (List.mem_of_getElem? hx)
      have hby := hb y (List.mem_of_getElem? hy)
      have hix := ixA ti175 rfl ti3 (j := i) (m := l.length) (cs := l.map pI) hil (by simp) (by decide)
      have hca := rpA (off := i) (drop_map pI hx) (by simp; omega)
      have hiy := ixA ti175 rfl ti3 (j := i - 1) (m := l.length) (cs := l.map pI) (by omega) (by simp) (by decide)
      have hcb := rpA (off := i - 1) (drop_map pI hy) (by simp; omega)
      have e1 : IntKind.i64.wrap ((i : Int) - 1) = ((i - 1 : Nat) : Int) := by rw [wi64]; omega
      have e2 : IntKind.i64.wrap (x - y) = x - y := by rw [wi64]; omega
      refine Wc.skip (Wc.seq (Wc.block ?_))
      refine Wc.regD fun K hK => ?_; simp only [go_sem, ti3, ti216, ti9, ti5, ti214, ti175, ti4, ti32, hlen, h0, h4, h3, hix, hca, hiy, hcb, e1, e2]
      refine OA.app (L1 := []) (L2 := []) (by_ := 8) (n := i - 1) (m := 1) (ys := [pI (x - y)]) (OA.put (hb0.adv.adv) (by omega)) (by omega) ⟨_, ti175, rfl⟩ ti3 rfl rfl rfl (by decide) (by decide) (by simp only [go_sem, ti3, ti216, ti9, ti5, ti214, ti175, ti4, ti32]) rfl (by omega) fun b' s' hb' hnx => ?_
      simp only [go_sem, ti3, ti216, ti9, ti5, ti214, ti175, ti4, ti32, hlen, h0, h4, h3]; refine hK _ _ ?_; clear hK K
      refine Wc.reg fun K hK => ?_; simp only [go_sem, ti3, ti216, ti9, ti5, ti214, ti175, ti4, ti32, hlen, h0, h4, h3, i64n i (by omega)]; refine hK _ _ ?_; clear hK K
      refine ⟨l.length - (i + 1), by omega, i + 1, b', rfl, by omega, .inl (by omega), rfl, by simp only [go_sem, ti3, ti216, ti9, ti5, ti214, ti175, ti4, ti32, hlen], by simp only [go_sem, ti3, ti216, ti9, ti5, ti214, ti175, ti4, ti32, hlen, h0, h4, h3], by simp only [go_sem, ti3, ti216, ti9, ti5, ti214, ti175, ti4, ti32, hlen, h0, h4, h3], by simp only [go_sem, ti3, ti216, ti9, ti5, ti214, ti175, ti4, ti32, hlen, h0, h4, h3], ?_⟩
      have e3 : i - 1 + 1 = i + 1 - 1 := by omega
      have e4 : (diffs (l.take (i + 1))).map pI = (diffs (l.take i)).map pI ++ [pI (x - y)] := by rw [diffs_take hi1 hx hy]; simp
      rw [e4, ← e3]
      have := (hb'.mono (b' := s'.nx) (by rw [hnx]; simp only [St.nx_put, St.nx_adv]; omega)).adv (n := 3)
      simpa only [St.nx_adv, List.nil_append] using this.mono (Nat.le_add_right _ 3)
    · have hil : l.length ≤ i := by have : ¬ (i : Int) < l.length := by simpa using hc
                                    omega
      rw [List.take_of_length_le hil] at hb0
      have hl2 : (diffs l).length = i - 1 := by
        have := (hb0.own _ (List.mem_cons_self ..)).1
        simpa using this
      obtain ⟨c, rfl⟩ := (hb0.own _ (List.mem_cons_self ..)).v
      refine Wc.exit ?_
      refine Wc.seq ?_
      refine Wc.reg fun K hK => ?_; simp only [go_sem, ti3, ti216, ti9, ti5, ti214, ti175, ti4, ti32, hlen, h0, h4, h3]; refine hK _ _ ?_; clear hK K
      rw [hl2]
      exact Wc.ret (Pf.retO [.tmp 2] c rfl rfl (by simp only [resultsD, go_sem, ti3, ti216, ti9, ti5, ti214, ti175, ti4, ti32, hlen]) (((hb0.adv (n := 1)).adv (n := 1)).own _ (List.mem_cons_self ..)))
  · refine ⟨1, _, rfl, by omega, .inr rfl, rfl, rfl, rfl, rfl, rfl, ?_⟩
    have : diffs (l.take 1) = [] := by cases l <;> rfl
    rw [this]
    exact (s00_oa.adv.adv.adv).nil.mono (Nat.le_of_ble_eq_true rfl)
/-- 145: varint.AppendSigned -/
theorem pf290 (t : List UInt8) (n : Int) (ht : t.length ≤ 4611686018427387904) : Pf E0 290 [.c (.p (.str t)), .c (.p (.int .i64 n))] (.tup [.c (.p (.str (appS t n).1)), .c (.p (.int .i64 (appS t n).2))]) := by
  refine Pf.body (fn := Tryz.f290) (by kernel_rfl) rfl ?_; simp only [List.map_cons, List.map_nil, List.cons_append, List.nil_append, List.length_cons, List.length_nil, Tryz.ntmps290, List.replicate, Nat.reduceSub, Nat.reduceAdd]
  refine Wc.seq ?_
  refine Wc.reg fun K hK => ?_; simp only [go_sem, ti3, ti216, ti9, ti5, ti214, ti175, ti4, ti32]; refine hK _ _ ?_; clear hK K
  refine Wc.seq (Wc.seq ?_)
  refine Wc.reg fun K hK => ?_; simp only [go_sem, ti3, ti216, ti9, ti5, ti214, ti175, ti4, ti32]
  refine wpCall.pf (pf256 n) (by kernel_rfl) (by kernel_rfl) rfl rfl ?_
  simp only [go_sem, ti3, ti216, ti9, ti5, ti214, ti175, ti4, ti32]; refine hK _ _ ?_; clear hK K
  refine Wc.cond (t := !inR n) rfl (fun hc => ?_) (fun hc => ?_)
  · have hr : inR n = false := by simpa using hc
    have e : appS t n = ([], 2) := by unfold appS; rw [hr]; rfl
    refine Wc.seq ?_
    refine Wc.reg fun K hK => ?_; simp only [go_sem, ti3, ti216, ti9, ti5, ti214, ti175, ti4, ti32]; refine hK _ _ ?_; clear hK K
    rw [e]
    exact Wc.ret (Pf.ret [.tmp 4, .tmp 5] [.c (.p (.str [])), .c (.p (.int .i64 2))] rfl rfl (by simp only [resultsD, go_sem, ti3, ti216, ti9, ti5, ti214, ti175, ti4, ti32]) rfl)
  · have hr : inR n = true := by simpa using hc
    have e : appS t n = (t ++ vb (zz n), 0) := by unfold appS; rw [hr]; rfl
    have hz := zz_lt hr
    have hl := vb_len10 (n := zz n) (by omega)
    have hlt : ¬ (9223372036854775807 < t.length + (vb (zz n)).length) := by omega
    refine Wc.skip (Wc.seq ?_)
    refine Wc.reg fun K hK => ?_; simp only [go_sem, ti3, ti216, ti9, ti5, ti214, ti175, ti4, ti32]
    refine wpCall.pf (pf257 n hr) (by kernel_rfl) (by kernel_rfl) rfl rfl ?_
    simp only [go_sem, ti3, ti216, ti9, ti5, ti214, ti175, ti4, ti32]
    refine call177 (L1 := []) (L2 := []) (M := []) (OA.nil (s00_oa.adv.adv.adv)) (by omega) (by omega) (by omega) fun x' s' hx hnx => ?_
    have hlo := (hx.own _ (List.mem_cons_self ..)).listOf
    simp only [List.nil_append, Nat.zero_add] at hlo
    simp only [go_sem, ti3, ti216, ti9, ti5, ti214, ti175, ti4, ti32, hlo, allM_bytes, hlt]; refine hK _ _ ?_; clear hK K
    rw [e]
    exact Wc.ret (Pf.ret [.tmp 4, .tmp 5] [.c (.p (.str (t ++ vb (zz n)))), .c (.p (.int .i64 0))] rfl rfl (by simp only [resultsD, go_sem, ti3, ti216, ti9, ti5, ti214, ti175, ti4, ti32]) rfl)
/-- 127: unsigned -/
theorem pf277 (n : Int) : Pf E0 277 [.c (.p (.int .i64 n))] (P' (.str (appV [] n).1)) := by
  refine Pf.body (fn := Tryz.f277) (by kernel_rfl) rfl ?_; simp only [List.map_cons, List.map_nil, List.cons_append, List.nil_append, List.length_cons, List.length_nil, Tryz.ntmps277, List.replicate, Nat.reduceSub, Nat.reduceAdd]
  refine Wc.seq ?_
  refine Wc.reg fun K hK => ?_; simp only [go_sem, ti3, ti216, ti9, ti5, ti214, ti175, ti4, ti32]; refine hK _ _ ?_; clear hK K
  refine Wc.seq ?_
  refine Wc.reg fun K hK => ?_; simp only [go_sem, ti3, ti216, ti9, ti5, ti214, ti175, ti4, ti32]
  refine wpCall.pf (pf100 [] n (by decide)) (by kernel_rfl) (by kernel_rfl) rfl rfl ?_
  simp only [go_sem, ti3, ti216, ti9, ti5, ti214, ti175, ti4, ti32]; refine hK _ _ ?_; clear hK K
  refine Wc.seq ?_
  refine Wc.reg fun K hK => ?_; simp only [go_sem, ti3, ti216, ti9, ti5, ti214, ti175, ti4, ti32]; refine hK _ _ ?_; clear hK K
  exact Wc.ret (Pf.ret [.tmp 2] [.c (.p (.str (appV [] n).1))] rfl rfl (by simp only [resultsD, go_sem, ti3, ti216, ti9, ti5, ti214, ti175, ti4, ti32]) rfl)
/-- 128: signed -/
theorem pf278 (n : Int) : Pf E0 278 [.c (.p (.int .i64 n))] (P' (.str (appS [] n).1)) := by
  refine Pf.body (fn := Tryz.f278) (by kernel_rfl) rfl ?_; simp only [List.map_cons, List.map_nil, List.cons_append, List.nil_append, List.length_cons, List.length_nil, Tryz.ntmps278, List.replicate, Nat.reduceSub, Nat.reduceAdd]
  refine Wc.seq ?_
  refine Wc.reg fun K hK => ?_; simp only [go_sem, ti3, ti216, ti9, ti5, ti214, ti175, ti4, ti32]; refine hK _ _ ?_; clear hK K
  refine Wc.seq ?_
  refine Wc.reg fun K hK => ?_; simp only [go_sem, ti3, ti216, ti9, ti5, ti214, ti175, ti4, ti32]
  refine wpCall.pf (pf290 [] n (by decide)) (by kernel_rfl) (by kernel_rfl) rfl rfl ?_
  simp only [go_sem, ti3, ti216, ti9, ti5, ti214, ti175, ti4, ti32]; refine hK _ _ ?_; clear hK K
  refine Wc.seq ?_
  refine Wc.reg fun K hK => ?_; simp only [go_sem, ti3, ti216, ti9, ti5, ti214, ti175, ti4, ti32]; refine hK _ _ ?_; clear hK K
  exact Wc.ret (Pf.ret [.tmp 2] [.c (.p (.str (appS [] n).1))] rfl rfl (by simp only [resultsD, go_sem, ti3, ti216, ti9, ti5, ti214, ti175, ti4, ti32]) rfl)
end Go.Proofs.YtedcnhbblgmdnaaGreat.Ab
namespace Go.Proofs.YtedcnhbblgmdnaaGreat.Ab
set_option maxHeartbeats 4000000
set_option maxRecDepth 10000
set_option linter.unusedSimpArgs false
set_option linter.unusedVariables false
/-- The encoding of the runs of a list. -/
def runE : List Int → List UInt8
  | [] => []
  | x :: r => vb (zz x) ++ (vb ((r.takeWhile (· == x)).length + 1) ++ runE (r.dropWhile (· == x)))
termination_by l => l.length
decreasing_by
  have := (List.dropWhile_sublist (p := (· == x)) (l := r)).length_le
  simp only [List.length_cons]
  omega
theorem while_rep (x : Int) : ∀ (m : Nat) (r : List Int), (∀ y, r[0]? = some y → y ≠ x) → ((List.replicate m x ++ r).takeWhile (· == x)).length = m ∧ (List.replicate m x ++ r).dropWhile (· == x) = r
  | 0, [], _ => ⟨rfl, rfl⟩
  | 0, y :: r, h => by
    have : (y == x) = false := by simpa using h y rfl
    simp [List.takeWhile, List.dropWhile, this]
  | m + 1, r, h => by
    obtain ⟨h1, h2⟩ := while_rep x m r h
    simp only [List.replicate_succ, List.cons_append, List.takeWhile_cons, beq_self_eq_true, if_true, List.length_cons, List.dropWhile_cons]
    exact ⟨by rw [h1], h2⟩
theorem drop_rep {l : List Int} {x : Int} {i : Nat} : ∀ {m : Nat}, (∀ j, i ≤ j → j < i + m → l[j]? = some x) → l.drop i = List.replicate m x ++ l.drop (i + m)
  | 0, _ => by simp
  | m + 1, h => by
    have ih := drop_rep (l := l) (x := x) (i := i) (m := m) fun j h1 h2 => h j h1 (by omega)
    have h1 := h (i + m) (by omega) (by omega)
    have hlt := (List.getElem?_eq_some_iff.1 h1).1
    have hx := (List.getElem?_eq_some_iff.1 h1).2
    rw [ih, List.drop_eq_getElem_cons hlt, hx, List.replicate_succ', List.append_assoc]
    rfl
theorem run_step {l : List Int} {x : Int} {i k : Nat} (hik : i < k) (h : ∀ j, i ≤ j → j < k → l[j]? = some x) (hk : ∀ y, l[k]? = some y → y ≠ x) : runE (l.drop i) = vb (zz x) ++ (vb (k - i) ++ runE (l.drop k)) := by
  obtain ⟨m, rfl⟩ : ∃ m, k = i + (m + 1) := ⟨k - i - 1, by omega⟩
  have e := drop_rep (l := l) (x := x) (i := i) (m := m + 1) h
  rw [e, List.replicate_succ, List.cons_append, runE]
  obtain ⟨h1, h2⟩ := while_rep x m (l.drop (i + (m + 1))) (fun y hy => hk y (by simpa using hy))
  rw [h1, h2]
  have : i + (m + 1) - i = m + 1 := by omega
  rw [this]
end Go.Proofs.YtedcnhbblgmdnaaGreat.Ab
namespace Go.Proofs.YtedcnhbblgmdnaaGreat.Ab
set_option maxHeartbeats 4000000
set_option maxRecDepth 10000
set_option linter.unusedSimpArgs false
set_option linter.unusedVariables false
def inV (n : Int) : Bool := decide (-576460752303423488 ≤ n) && decide (n ≤ 576460752303423488)
def first1 : List Int → List UInt8
  | [] => []
  | x :: _ => vb (zz x)
def encV (l : List Int) : List UInt8 × Int := if 20000 < l.length then ([], 4) else if l.all inV then (vb l.length ++ first1 l ++ runE (diffs l), 0) else ([], 2)
theorem diffs_len : ∀ l : List Int, (diffs l).length = l.length - 1
  | [] => rfl
  | [x] => rfl
  | x :: y :: r => by have := diffs_len (y :: r); simp only [diffs, List.length_cons] at this ⊢; omega
theorem diffs_mem {a b : Int} : ∀ {l : List Int}, (∀ x ∈ l, a ≤ x ∧ x ≤ b) → ∀ d ∈ diffs l, a - b ≤ d ∧ d ≤ b - a
  | [], _, d, hd => by simp [diffs] at hd
  | [x], _, d, hd => by simp [diffs] at hd
  | x :: y :: r, h, d, hd => by
    simp only [diffs, List.mem_cons] at hd
    rcases hd with rfl | hd
    · have h1 := h x (by simp)
      have h2 := h y (by simp)
      omega
    · exact diffs_mem (fun z hz => h z (List.mem_cons_of_mem _ hz)) d hd
theorem runE_len : ∀ (n : Nat) (l : List Int), l.length ≤ n → l.all inR = true → l.length < 2^40 → (runE l).length ≤ 20 * l.length
  | _, [], _, _, _ => by simp [runE]
  | 0, x :: r, h, _, _ => by simp at h
  | n + 1, x :: r, h, hr, hb => by
    simp only [List.all_cons, Bool.and_eq_true] at hr
    rw [runE]
    have hd := (List.dropWhile_sublist (p := (· == x)) (l := r))
    have h0 := hd.length_le
    have ih := runE_len n (r.dropWhile (· == x)) (by simp at h; omega) (List.all_eq_true.2 fun z hz => List.all_eq_true.1 hr.2 z (hd.subset hz)) (by simp at hb; omega)
    have h1 := vb_len10 (n := zz x) (by have := zz_lt hr.1; omega)
    have h2 := vb_len10 (n := (r.takeWhile (· == x)).length + 1) (by have := (List.takeWhile_sublist (p := (· == x)) (l := r)).length_le; simp at hb; omega)
    simp only [List.length_append, List.length_cons]
    omega
theorem inV_R {n : Int} (h : inV n = true) : inR n = true := by simp [inV] at h; simp [inR]; omega
theorem inV_all {l : List Int} (h : l.all inV = true) : ∀ x ∈ l, -576460752303423488 ≤ x ∧ x ≤ 576460752303423488 := fun x hx => by
  have := List.all_eq_true.1 h x hx
  simpa [inV] using this
end Go.Proofs.YtedcnhbblgmdnaaGreat.Ab
namespace Go.Proofs.YtedcnhbblgmdnaaGreat.Ab
set_option maxHeartbeats 4000000
set_option maxRecDepth 10000
set_option linter.unusedSimpArgs false
set_option linter.unusedVariables false
/-- Why a list is no column of times, behind the number before it. -/
def chk1 : Option Int → List Int → Int
  | _, [] => 0
  | p, x :: r => if x < 1 ∨ 1099511627776 < x then 2 else match p with
    | some y => if x ≤ y then 9 else chk1 (some x) r
    | none => chk1 (some x) r
def chkT (l : List Int) : Int := if 20000 < l.length then 4 else chk1 none l
def prev (l : List Int) (i : Nat) : Option Int := if i = 0 then none else l[i - 1]?
theorem chk1_step {l : List Int} {i : Nat} {x : Int} (h : l[i]? = some x) : chk1 (prev l i) (l.drop i) = if x < 1 ∨ 1099511627776 < x then 2 else match prev l i with
    | some y => if x ≤ y then 9 else chk1 (prev l (i + 1)) (l.drop (i + 1))
    | none => chk1 (prev l (i + 1)) (l.drop (i + 1)) := by
  have hi := (List.getElem?_eq_some_iff.1 h).1
  have hx := (List.getElem?_eq_some_iff.1 h).2
  have hp : prev l (i + 1) = some x := by simp [prev, h]
  rw [List.drop_eq_getElem_cons hi, hx, hp]
  cases prev l i <;> rfl
end Go.Proofs.YtedcnhbblgmdnaaGreat.Ab
namespace Go.Proofs.YtedcnhbblgmdnaaGreat.Ab
set_option maxHeartbeats 4000000
set_option maxRecDepth 10000
set_option linter.unusedSimpArgs false
set_option linter.unusedVariables false
def encT (l : List Int) : List UInt8 × Int := if chkT l = 0 then (vb l.length ++ first1 l ++ first1 (diffs l) ++ runE (diffs (diffs l)), 0) else ([], chkT l)
theorem chk1_mem : ∀ {l : List Int} {p : Option Int}, chk1 p l = 0 → ∀ x ∈ l, 1 ≤ x ∧ x ≤ 1099511627776
  | [], _, _, x, hx => by cases hx
  | y :: r, p, h, x, hx => by
    have h1 : ¬ (y < 1 ∨ 1099511627776 < y) := fun hb => by
      cases p <;> simp only [chk1] at h <;> rw [if_pos hb] at h <;> cases h
    have h2 : chk1 (some y) r = 0 := by
      cases p with
      | none => simp only [chk1] at h; rw [if_neg h1] at h; exact h
      | some z =>
        simp only [chk1] at h
        rw [if_neg h1] at h
        split at h
        · cases h
        · exact h
    rcases List.mem_cons.1 hx with rfl | hx
    · omega
    · exact chk1_mem h2 x hx
theorem chkT_ok {l : List Int} (h : chkT l = 0) : l.length ≤ 20000 ∧ ∀ x ∈ l, 1 ≤ x ∧ x ≤ 1099511627776 := by
  unfold chkT at h
  split at h
  · cases h
  · exact ⟨by omega, chk1_mem h⟩
theorem first1_len {l : List Int} (h : ∀ x ∈ l, inR x = true) : (first1 l).length ≤ 10 := by
  cases l with
  | nil => simp [first1]
  | cons x r => exact vb_len10 (by have := zz_lt (h x (by simp)); omega)
end Go.Proofs.YtedcnhbblgmdnaaGreat.Ab
namespace Go.Proofs.YtedcnhbblgmdnaaGreat.Ab
set_option maxHeartbeats 4000000
set_option maxRecDepth 10000
set_option linter.unusedSimpArgs false
set_option linter.unusedVariables false
/-- The reference's writer. -/
abbrev wR (t : List UInt8) (e : Int) : V := .agg [.p (.str t), .p (.int .i64 e)]
/-- What a writer comes to by a part. -/
def partW (w : List UInt8 × Int) (t : List UInt8) (e : Int) : List UInt8 × Int := if w.2 ≠ 0 then w else if e ≠ 0 then ([], 4) else ((appV w.1 t.length).1 ++ t, 0)
end Go.Proofs.YtedcnhbblgmdnaaGreat.Ab
namespace Go.Proofs.YtedcnhbblgmdnaaGreat.Ab
set_option maxHeartbeats 4000000
set_option maxRecDepth 10000
set_option linter.unusedSimpArgs false
set_option linter.unusedVariables false
end Go.Proofs.YtedcnhbblgmdnaaGreat.Ab
namespace Go.Proofs.YtedcnhbblgmdnaaGreat.Ab
set_option maxHeartbeats 4000000
set_option maxRecDepth 10000
set_option linter.unusedSimpArgs false
set_option linter.unusedVariables false
/-- A chunk: signal, labels, zone, data. -/
abbrev chV (sig : Int) (lab : Pd) (z : List Pd) (d : List UInt8) : V := .agg ([.p (pI sig), .p lab] ++ z.map .p ++ [.p (.str d)])
abbrev zz0 : List Pd := [pI 0, pI 0, pI 0, pI 0, pI 0, .int .u32 0, .int .u32 0, .int .u32 0, .int .u32 0, .int .u32 0, .int .u32 0, .int .u32 0, .int .u32 0]
abbrev noCh : V := chV 0 (.lst 0 []) zz0 []
end Go.Proofs.YtedcnhbblgmdnaaGreat.Ab
namespace Go.Proofs.YtedcnhbblgmdnaaGreat.Ab
set_option maxHeartbeats 4000000
set_option maxRecDepth 10000
set_option linter.unusedSimpArgs false
set_option linter.unusedVariables false
def isT (n : Int) : Bool := decide (1 ≤ n) && decide (n ≤ 1099511627776)
def isVl (n : Int) : Bool := decide (-1099511627776 ≤ n) && decide (n ≤ 1099511627776)
/-- 43: isTime -/
theorem pf235 (n : Int) : Pf E0 235 [.c (.p (.int .i64 n))] (P' (.bool (isT n))) := by
  refine Pf.body (fn := Tryz.f235) (by kernel_rfl) rfl ?_; simp only [List.map_cons, List.map_nil, List.cons_append, List.nil_append, List.length_cons, List.length_nil, Tryz.ntmps235, List.replicate, Nat.reduceSub, Nat.reduceAdd]
  refine Wc.seq ?_
  refine Wc.reg fun K hK => ?_; simp only [go_sem, ti3, ti9, ti175, ti4, ti32, ti178, ti96, ti94, ti22, ti91, ti92, ti155]; refine hK _ _ ?_; clear hK K
  refine Wc.seq ?_
  by_cases h : 1 ≤ n
  · refine Wc.reg fun K hK => ?_; simp only [go_sem, ti3, ti9, ti175, ti4, ti32, ti178, ti96, ti94, ti22, ti91, ti92, ti155, h]; refine hK _ _ ?_; clear hK K
    exact Wc.ret (Pf.ret [.tmp 2] [.c (.p (.bool (isT n)))] rfl rfl (by simp only [resultsD, go_sem, ti3, ti9, ti175, ti4, ti32, ti178, ti96, ti94, ti22, ti91, ti92, ti155, isT, h, Bool.true_and]) rfl)
  · refine Wc.reg fun K hK => ?_; simp only [go_sem, ti3, ti9, ti175, ti4, ti32, ti178, ti96, ti94, ti22, ti91, ti92, ti155, h]; refine hK _ _ ?_; clear hK K
    exact Wc.ret (Pf.ret [.tmp 2] [.c (.p (.bool (isT n)))] rfl rfl (by simp only [resultsD, go_sem, ti3, ti9, ti175, ti4, ti32, ti178, ti96, ti94, ti22, ti91, ti92, ti155, isT, h, Bool.false_and]) rfl)
/-- 44: isValue -/
theorem pf236 (n : Int) : Pf E0 236 [.c (.p (.int .i64 n))] (P' (.bool (isVl n))) := by
  refine Pf.body (fn := Tryz.f236) (by kernel_rfl) rfl ?_; simp only [List.map_cons, List.map_nil, List.cons_append, List.nil_append, List.length_cons, List.length_nil, Tryz.ntmps236, List.replicate, Nat.reduceSub, Nat.reduceAdd]
  refine Wc.seq ?_
  refine Wc.reg fun K hK => ?_; simp only [go_sem, ti3, ti9, ti175, ti4, ti32, ti178, ti96, ti94, ti22, ti91, ti92, ti155]; refine hK _ _ ?_; clear hK K
  refine Wc.seq ?_
  by_cases h : -1099511627776 ≤ n
  · refine Wc.reg fun K hK => ?_; simp only [go_sem, ti3, ti9, ti175, ti4, ti32, ti178, ti96, ti94, ti22, ti91, ti92, ti155, h]; refine hK _ _ ?_; clear hK K
    exact Wc.ret (Pf.ret [.tmp 2] [.c (.p (.bool (isVl n)))] rfl rfl (by simp only [resultsD, go_sem, ti3, ti9, ti175, ti4, ti32, ti178, ti96, ti94, ti22, ti91, ti92, ti155, isVl, h, Bool.true_and]) rfl)
  · refine Wc.reg fun K hK => ?_; simp only [go_sem, ti3, ti9, ti175, ti4, ti32, ti178, ti96, ti94, ti22, ti91, ti92, ti155, h]; refine hK _ _ ?_; clear hK K
    exact Wc.ret (Pf.ret [.tmp 2] [.c (.p (.bool (isVl n)))] rfl rfl (by simp only [resultsD, go_sem, ti3, ti9, ti175, ti4, ti32, ti178, ti96, ti94, ti22, ti91, ti92, ti155, isVl, h, Bool.false_and]) rfl)
/-- A zone whose bits are all clear. -/
abbrev zV (c t1 t2 v1 v2 : Int) : V := .agg [.p (pI c), .p (pI t1), .p (pI t2), .p (pI v1), .p (pI v2), .p (.int .u32 0), .p (.int .u32 0), .p (.int .u32 0), .p (.int .u32 0), .p (.int .u32 0), .p (.int .u32 0), .p (.int .u32 0), .p (.int .u32 0)]
structure ZOk (c t1 t2 v1 v2 : Int) : Prop where
  c1 : 1 ≤ c
  c2 : c ≤ 1152921504606846976
  a1 : isT t1 = true
  a2 : isT t2 = true
  a : t1 ≤ t2
  b1 : isVl v1 = true
  b2 : isVl v2 = true
  b : v1 ≤ v2
end Go.Proofs.YtedcnhbblgmdnaaGreat.Ab
namespace Go.Proofs.YtedcnhbblgmdnaaGreat.Ab
set_option maxHeartbeats 8000000
set_option maxRecDepth 10000
set_option linter.unusedSimpArgs false
set_option linter.unusedVariables false
def mn (a b : Int) : Int := if b < a then b else a
def mx (a b : Int) : Int := if a < b then b else a
end Go.Proofs.YtedcnhbblgmdnaaGreat.Ab
namespace Go.Proofs.YtedcnhbblgmdnaaGreat.Ab
set_option maxHeartbeats 8000000
set_option maxRecDepth 10000
set_option linter.unusedSimpArgs false
set_option linter.unusedVariables false
end Go.Proofs.YtedcnhbblgmdnaaGreat.Ab
namespace Go.Proofs.YtedcnhbblgmdnaaGreat.Ab
set_option maxHeartbeats 8000000
set_option maxRecDepth 10000
set_option linter.unusedSimpArgs false
set_option linter.unusedVariables false
def wthn (n a b : Int) : Bool := decide (a ≤ n) && decide (n ≤ b)
end Go.Proofs.YtedcnhbblgmdnaaGreat.Ab
namespace Go.Proofs.YtedcnhbblgmdnaaGreat.Ab
set_option maxHeartbeats 8000000
set_option maxRecDepth 10000
set_option linter.unusedSimpArgs false
set_option linter.unusedVariables false
end Go.Proofs.YtedcnhbblgmdnaaGreat.Ab
namespace Go.Proofs.YtedcnhbblgmdnaaGreat.Ab
set_option maxHeartbeats 8000000
set_option maxRecDepth 10000
set_option linter.unusedSimpArgs false
set_option linter.unusedVariables false
/-- The zone of elements, one behind the other. -/
structure Zo where
  c : Int
  t1 : Int
  t2 : Int
  v1 : Int
  v2 : Int
abbrev Zo.V (z : Zo) : Go.Proofs.YtedcnhbblgmdnaaGreat.Ab.V := zV z.c z.t1 z.t2 z.v1 z.v2
def Zo.none : Zo := ⟨0, 0, 0, 0, 0⟩
def Zo.add (z : Zo) (t v : Int) : Zo := if z.c = 0 then ⟨1, t, t, v, v⟩ else ⟨z.c + 1, mn z.t1 t, mx z.t2 t, mn z.v1 v, mx z.v2 v⟩
def Zo.ok (z : Zo) : Prop := z = Zo.none ∨ ZOk z.c z.t1 z.t2 z.v1 z.v2
theorem ZOk.one {t v : Int} (ht : isT t = true) (hv : isVl v = true) : ZOk 1 t t v v := ⟨by decide, by decide, ht, ht, Int.le_refl _, hv, hv, Int.le_refl _⟩
end Go.Proofs.YtedcnhbblgmdnaaGreat.Ab
namespace Go.Proofs.YtedcnhbblgmdnaaGreat.Ab
set_option maxHeartbeats 4000000
set_option maxRecDepth 10000
set_option linter.unusedSimpArgs false
set_option linter.unusedVariables false
theorem stepK_elim {r : Option (D × St)} {k : D → St → Prop} (h : stepK r k) : ∃ d s', r = some (d, s') ∧ k d s' := by
  cases r with
  | none => exact h.elim
  | some x => exact ⟨x.1, x.2, rfl, h⟩
/-- A Builder's bytes: none, or a row of bytes. -/
def Tg (s : St) (b : C) : Prop := b = .nils ∨ ∃ n cs id, b = .own n cs id ∧ (0 < n ∧ n ≤ 140737488355328) ∧ ∃ m, s.get id = some (.front 1 m 5)
theorem Tg.adv {s : St} {b : C} (h : Tg s b) (n : Nat) : Tg (s.adv n) b := h
theorem Tg.put {s : St} {b : C} (h : Tg s b) {k : Nat} {o : Ob} (hk : ∀ m, s.get k ≠ some (.front 1 m 5)) : Tg (s.put k o) b := by
  rcases h with h | ⟨n, cs, id, h1, h2, m, h3⟩
  · exact .inl h
  · refine .inr ⟨n, cs, id, h1, h2, m, ?_⟩
    rw [St.get_put, if_neg]; exact h3
    rintro rfl
    exact hk _ h3
theorem appT_of {s s' : St} {b : C} {n key : Nat} {cs : List Pd} {t : List UInt8} {d : D} (ho : Own s 1 (.v (.c b)) n cs) (htg : Tg s b) (hn : n + t.length ≤ 140737488355328)
    (h : appendD E0 key [214, 9] (.v (.c b)) (P' (.str t)) s = some (d, s')) : ∃ b', d = .v (.c b') ∧ Tg s' b' := by
  obtain ⟨hl, h2⟩ := ho
  unfold appendD at h
  simp only [ti214, ti5, srcD, ti9, P', List.length_map, Nat.mul_one, if_true] at h
  rcases h2 with ⟨h2, rfl⟩ | ⟨id, h2, tg, hid⟩
  · cases h2
    by_cases ht : t.length = 0
    · rw [if_pos ht] at h
      cases h
      exact ⟨_, rfl, .inl rfl⟩
    · rw [if_neg ht] at h
      have hgt : E0.gt 214 = false := by kernel_rfl
      simp only [hgt] at h
      rw [if_neg (by simp)] at h
      split at h
      · cases h
        exact ⟨_, rfl, .inr ⟨_, _, _, rfl, ⟨by omega, by omega⟩, _, St.get_put_same _ _ _⟩⟩
      · cases h
  · cases h2
    rcases htg with htg | ⟨n', cs', id', h1, h2, m, h3⟩
    · cases htg
    · cases h1
      rw [hid] at h3
      cases h3
      by_cases ht : t.length = 0
      · rw [if_pos ht] at h
        cases h
        exact ⟨_, rfl, .inr ⟨_, _, _, rfl, h2, _, hid⟩⟩
      · rw [if_neg ht] at h
        simp only [hid] at h
        split at h
        · cases h
          exact ⟨_, rfl, .inr ⟨_, _, _, rfl, ⟨by omega, hn⟩, n + t.length, by rw [St.get_put_same, if_pos trivial]⟩⟩
        · cases h
theorem appT {bb key : Nat} {s : St} {L1 L2 : List (Nat × D × Nat × List Pd)} {M : List (Nat × Ob)} {b : C} {n : Nat} {cs : List Pd} {t : List UInt8} {k : D → St → Prop} (h : OA bb s (L1 ++ (1, .v (.c b), n, cs) :: L2) M) (hkey : bb ≤ key) (htg : Tg s b)
    (hn : n + t.length ≤ 140737488355328) (hk : ∀ b' s', OA (key + 1) s' (L1 ++ (1, .v (.c b'), n + t.length, cs ++ t.map pdOfByte) :: L2) M → s'.nx = s.nx → Tg s' b' → k (.v (.c b')) s') : stepK (appendD E0 key [214, 9] (.v (.c b)) (.v (.c (.p (.str t)))) s) k := by
  have ho : Own s 1 (.v (.c b)) n cs := h.own (1, .v (.c b), n, cs) (by simp)
  obtain ⟨d, s1, hap, hoa, hnx⟩ := stepK_elim (OA.app (E := E0) (key := key) (t := 214) (u := 9) (e := 5) (by_ := 1) (n := n) (m := t.length) (ys := t.map pdOfByte) (y := P' (.str t)) (k := fun x' s' => OA (key + 1) s' (L1 ++ (1, x', n + t.length, cs ++ t.map pdOfByte) :: L2) M ∧ s'.nx = s.nx) h hkey ⟨_, ti214, rfl⟩ ti5 rfl rfl rfl (by decide) (by decide) (by simp only [srcD, ti9, P']) (by simp) (by omega) fun x' s' h1 h2 => ⟨h1, h2⟩)
  obtain ⟨b', rfl, hc⟩ := appT_of ho htg hn hap
  rw [show D.v (.c (.p (.str t))) = P' (.str t) from rfl, hap]
  exact hk b' s1 hoa hnx hc
/-- 130: copyCheck -/
theorem call258 {bb : Nat} {s : St} {L : List (Nat × D × Nat × List Pd)} {M1 M2 : List (Nat × Ob)} {r : Nat} {a b : C} {K : D → St → Prop} (h : OA bb s L (M1 ++ (r, .tc 245 [a, b]) :: M2)) (ha : isOwner r 0 a = true)
    (hK : ∀ s', OA bb s' L (M1 ++ (r, .tc 245 [.ref r 0, b]) :: M2) → s'.nx = s.nx → (∀ c, Tg s c → Tg s' c) → K (.tup []) s') : wpCall E0 (.v (.c (.p (.fnc 258)))) [.v (.c (.ref r 0))] s K := by
  have hr : s.get r = some (.tc 245 [a, b]) := h.at_ (r, .tc 245 [a, b]) (by simp)
  unfold isOwner at ha
  split at ha
  · refine wpCall.xt (h := bldK) (by kernel_rfl) rfl (s' := s.put r (.tc 245 [.ref r 0, b])) (d := .tup []) (by simp only [bldK, hr, and_self, if_true]) (hK _ (h.set rfl) rfl fun c hc => hc.put fun m e => ?_)
    rw [hr] at e; cases e
  · simp only [Bool.and_eq_true, beq_iff_eq] at ha
    obtain ⟨rfl, rfl⟩ := ha
    exact wpCall.xt (h := bldK) (by kernel_rfl) rfl (s' := s) (d := .tup []) (by simp only [bldK, hr, and_self, if_true]) (hK _ h rfl fun c hc => hc)
  · cases ha
/-- 107: WriteString -/
theorem call228 {bb : Nat} {s : St} {L1 L2 : List (Nat × D × Nat × List Pd)} {M1 M2 : List (Nat × Ob)} {r : Nat} {a b : C} {n : Nat} {cs : List Pd} {t : List UInt8} {K : D → St → Prop} (h : OA bb s (L1 ++ (1, .v (.c b), n, cs) :: L2) (M1 ++ (r, .tc 245 [a, b]) :: M2)) (hbb : bb ≤ s.nx) (htg : Tg s b) (ha : isOwner r 0 a = true) (hn : n + t.length ≤ 140737488355328)
    (hK : ∀ b' s', OA s'.nx s' (L1 ++ (1, .v (.c b'), n + t.length, cs ++ t.map pdOfByte) :: L2) (M1 ++ (r, .tc 245 [.ref r 0, b']) :: M2) → Tg s' b' → s.nx ≤ s'.nx → K (.tup [.c (.p (.int .i64 t.length)), .c (.p .nili)]) s') :
    wpCall E0 (.v (.c (.p (.fnc 228)))) [.v (.c (.ref r 0)), .v (.c (.p (.str t)))] s K := by
  refine wpCall.opn (fn := Tryz.f228) (by kernel_rfl) (by kernel_rfl) rfl (by kernel_rfl) rfl ?_; simp only [List.map_cons, List.map_nil, List.cons_append, List.nil_append, List.length_cons, List.length_nil, Tryz.ntmps228, List.replicate, Nat.reduceSub, Nat.reduceAdd]
  refine Wc.seq ?_
  refine Wc.reg fun K hK => ?_; simp only [go_sem, ti3, ti216, ti9, ti5, ti214, ti175, ti4, ti32, ti245]; refine hK _ _ ?_; clear hK K
  refine Wc.seq ?_
  refine Wc.reg fun K hK => ?_; simp only [go_sem, ti3, ti216, ti9, ti5, ti214, ti175, ti4, ti32, ti245]
  refine call258 (h.adv.adv) ha fun s1 h1 hnx1 htg1 => ?_
  have htg2 := htg1 b htg
  have hr : s1.get r = some (.tc 245 [.ref r 0, b]) := h1.at_ (r, .tc 245 [.ref r 0, b]) (by simp)
  simp only [go_sem, ti3, ti216, ti9, ti5, ti214, ti175, ti4, ti32, ti245]; refine hK _ _ ?_; clear hK K
  refine Wc.seq ?_
  refine Wc.reg fun K hK => ?_; simp only [go_sem, ti3, ti216, ti9, ti5, ti214, ti175, ti4, ti32, ti245, hr]
  refine appT (h1.adv (n := 10)) (by simp only [St.nx_adv] at hnx1; omega) htg2 hn fun b' s2 h2 hnx2 htg3 => ?_
  have hr2 : s2.get r = some (.tc 245 [.ref r 0, b]) := h2.at_ (r, .tc 245 [.ref r 0, b]) (by simp)
  simp only [go_sem, ti3, ti216, ti9, ti5, ti214, ti175, ti4, ti32, ti245, hr2]; refine hK _ _ ?_; clear hK K
  refine Wc.seq ?_
  refine Wc.reg fun K hK => ?_; simp only [go_sem, ti3, ti216, ti9, ti5, ti214, ti175, ti4, ti32, ti245]; refine hK _ _ ?_; clear hK K
  refine Wc.ret (Op.ret [.tmp 4, .tmp 5] [.c (.p (.int .i64 t.length)), .c (.p .nili)] rfl rfl (by simp only [resultsD, go_sem, ti3, ti216, ti9, ti5, ti214, ti175, ti4, ti32, ti245]) (hK b' _ ?_ ?_ ?_))
  · refine OA.adv (OA.mono (OA.set h2 rfl) ?_)
    simp only [St.nx_put, St.nx_adv] at hnx1 hnx2 ⊢; omega
  · exact (htg3.put fun m e => by rw [hr2] at e; cases e).adv _
  · simp only [St.nx_put, St.nx_adv] at hnx1 hnx2 ⊢; omega
end Go.Proofs.YtedcnhbblgmdnaaGreat.Ab
namespace Go.Proofs.YtedcnhbblgmdnaaGreat.Ab
set_option maxHeartbeats 4000000
set_option maxRecDepth 10000
set_option linter.unusedSimpArgs false
set_option linter.unusedVariables false
/-- 109: String -/
theorem call230 {bb : Nat} {s : St} {L1 L2 : List (Nat × D × Nat × List Pd)} {M1 M2 : List (Nat × Ob)} {r : Nat} {a b : C} {n : Nat} {t : List UInt8} {K : D → St → Prop} (h : OA bb s (L1 ++ (1, .v (.c b), n, t.map pdOfByte) :: L2) (M1 ++ (r, .tc 245 [a, b]) :: M2)) (htg : Tg s b)
    (hK : K (P' (.str t)) s) : wpCall E0 (.v (.c (.p (.fnc 230)))) [.v (.c (.ref r 0))] s K := by
  have hr : s.get r = some (.tc 245 [a, b]) := h.at_ (r, .tc 245 [a, b]) (by simp)
  obtain ⟨hl, h2⟩ := h.own (1, .v (.c b), n, t.map pdOfByte) (by simp)
  simp only [List.length_map, Nat.mul_one] at hl
  simp only [D.v.injEq, V.c.injEq] at h2
  refine wpCall.xt (h := bldS) (by kernel_rfl) rfl (s' := s) (d := P' (.str t)) ?_ hK
  rcases h2 with ⟨h2, h3⟩ | ⟨id, h2, tg, hid⟩
  · subst h2
    have : t = [] := List.length_eq_zero_iff.1 (by omega)
    subst this
    simp only [bldS, hr, and_self, if_true]
  · subst h2
    rcases htg with htg | ⟨n', cs', id', h1, h2, m, h3⟩
    · cases htg
    · cases h1
      rw [hid] at h3
      cases h3
      simp only [bldS, hr, hid, allM_byteS_of, hl, h2.1, h2.2, and_self, if_true]
/-- 108: Len -/
theorem call229 {bb : Nat} {s : St} {L1 L2 : List (Nat × D × Nat × List Pd)} {M1 M2 : List (Nat × Ob)} {r : Nat} {a b : C} {n : Nat} {cs : List Pd} {K : D → St → Prop} (h : OA bb s (L1 ++ (1, .v (.c b), n, cs) :: L2) (M1 ++ (r, .tc 245 [a, b]) :: M2))
    (hK : ∀ m, K (P' (.int .i64 n)) (s.adv m)) : wpCall E0 (.v (.c (.p (.fnc 229)))) [.v (.c (.ref r 0))] s K := by
  have hr : s.get r = some (.tc 245 [a, b]) := h.at_ (r, .tc 245 [a, b]) (by simp)
  obtain ⟨hl, h2⟩ := h.own (1, .v (.c b), n, cs) (by simp)
  simp only [D.v.injEq, V.c.injEq] at h2
  refine wpCall.opn (fn := Tryz.f229) (by kernel_rfl) (by kernel_rfl) rfl (by kernel_rfl) rfl ?_; simp only [List.map_cons, List.map_nil, List.cons_append, List.nil_append, List.length_cons, List.length_nil, Tryz.ntmps229, List.replicate, Nat.reduceSub, Nat.reduceAdd]
  rcases h2 with ⟨h2, h3⟩ | ⟨id, h2, tg, hid⟩
  · subst h2 h3
    refine Wc.seq ?_
    refine Wc.reg fun K hK => ?_; simp only [go_sem, ti3, ti216, ti9, ti5, ti214, ti175, ti4, ti32, ti245]; refine hK _ _ ?_; clear hK K
    refine Wc.seq ?_
    refine Wc.reg fun K hK => ?_; simp only [go_sem, ti3, ti216, ti9, ti5, ti214, ti175, ti4, ti32, ti245, hr]; refine hK _ _ ?_; clear hK K
    exact Wc.ret (Op.ret [.tmp 2] [.c (.p (.int .i64 0))] rfl rfl (by simp only [resultsD, go_sem, ti3, ti216, ti9, ti5, ti214, ti175, ti4, ti32, ti245]; try rfl) (hK 7))
  · subst h2
    refine Wc.seq ?_
    refine Wc.reg fun K hK => ?_; simp only [go_sem, ti3, ti216, ti9, ti5, ti214, ti175, ti4, ti32, ti245]; refine hK _ _ ?_; clear hK K
    refine Wc.seq ?_
    refine Wc.reg fun K hK => ?_; simp only [go_sem, ti3, ti216, ti9, ti5, ti214, ti175, ti4, ti32, ti245, hr]; refine hK _ _ ?_; clear hK K
    exact Wc.ret (Op.ret [.tmp 2] [.c (.p (.int .i64 n))] rfl rfl (by simp only [resultsD, go_sem, ti3, ti216, ti9, ti5, ti214, ti175, ti4, ti32, ti245]; try rfl) (hK 7))
end Go.Proofs.YtedcnhbblgmdnaaGreat.Ab
