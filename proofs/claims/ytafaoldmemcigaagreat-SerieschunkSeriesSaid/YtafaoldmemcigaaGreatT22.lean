/- A part of the proof: an evaluator of the code, its contracts, the law. No condition. -/
import Derived.Test.YtafaoldmemcigaaGreatT21
namespace Go.Proofs.YtafaoldmemcigaaGreat.Ab
set_option maxHeartbeats 4000000
set_option maxRecDepth 10000
set_option linter.unusedSimpArgs false
set_option linter.unusedVariables false
theorem shrN (k : IntKind) (v n : Nat) (h : n ≤ k.bits) : shrI k (v : Int) (n : Int) = ((v / 2 ^ n : Nat) : Int) := by
  unfold shrI
  rw [Int.toNat_natCast, Nat.min_eq_left h, Int.fdiv_eq_ediv_of_nonneg _ (by exact_mod_cast Nat.zero_le _)]
  exact_mod_cast rfl
theorem shlN (v n : Nat) (h : n ≤ 64) (hb : v * 2 ^ n < 2 ^ 63) : shlI .i64 (v : Int) (n : Int) = ((v * 2 ^ n : Nat) : Int) := by
  unfold shlI
  rw [Int.toNat_natCast, Nat.min_eq_left (show n ≤ IntKind.i64.bits from h), wi64]
  have : ((v : Int) * 2 ^ n) = ((v * 2 ^ n : Nat) : Int) := by exact_mod_cast rfl
  rw [this]; omega
theorem le_cast (a b : Nat) : ((a : Int) ≤ (b : Int)) = (a ≤ b) := by simp
abbrev ltab : List UInt8 := (([0, 1, 2, 2, 3, 3, 3, 3, 4, 4, 4, 4, 4, 4, 4, 4, 5, 5, 5, 5, 5, 5, 5, 5, 5, 5, 5, 5, 5, 5, 5, 5, 6, 6, 6, 6, 6, 6, 6, 6, 6, 6, 6, 6, 6, 6, 6, 6, 6, 6, 6, 6, 6, 6, 6, 6, 6, 6, 6, 6, 6, 6, 6, 6].append [7, 7, 7, 7, 7, 7, 7, 7, 7, 7, 7, 7, 7, 7, 7, 7, 7, 7, 7, 7, 7, 7, 7, 7, 7, 7, 7, 7, 7, 7, 7, 7, 7, 7, 7, 7, 7, 7, 7, 7, 7, 7, 7, 7, 7, 7, 7, 7, 7, 7, 7, 7, 7, 7, 7, 7, 7, 7, 7, 7, 7, 7, 7, 7]).append ([8, 8, 8, 8, 8, 8, 8, 8, 8, 8, 8, 8, 8, 8, 8, 8, 8, 8, 8, 8, 8, 8, 8, 8, 8, 8, 8, 8, 8, 8, 8, 8, 8, 8, 8, 8, 8, 8, 8, 8, 8, 8, 8, 8, 8, 8, 8, 8, 8, 8, 8, 8, 8, 8, 8, 8, 8, 8, 8, 8, 8, 8, 8, 8].append [8, 8, 8, 8, 8, 8, 8, 8, 8, 8, 8, 8, 8, 8, 8, 8, 8, 8, 8, 8, 8, 8, 8, 8, 8, 8, 8, 8, 8, 8, 8, 8, 8, 8, 8, 8, 8, 8, 8, 8, 8, 8, 8, 8, 8, 8, 8, 8, 8, 8, 8, 8, 8, 8, 8, 8, 8, 8, 8, 8, 8, 8, 8, 8]))
theorem ltab_get : ∀ w : Fin 256, ltab[w.val]? = some (UInt8.ofNat (blen w.val)) := by decide +kernel
theorem blen_le8 : ∀ w : Fin 256, blen w.val ≤ 8 := by decide +kernel
/-- 159: Len64 -/
theorem pf159 (v : Nat) (hv : v < 2^64) : Pf E0 159 [.c (.p (.int .u64 v))] (P' (pI (blen v))) := by
  refine Pf.body (fn := Tryz.f159) (by kernel_rfl) rfl ?_; simp only [List.map_cons, List.map_nil, List.cons_append, List.nil_append, List.length_cons, List.length_nil, Tryz.ntmps159, List.replicate, Nat.reduceSub, Nat.reduceAdd]
  refine Wc.seq ?_
  refine Wc.reg fun K hK => ?_; simp only [go_sem, ti3, ti9, ti5, ti4, ti35, ti113, ti147, ti29, Int.natCast_zero]; refine hK _ _ ?_; clear hK K
  have step : ∀ (w k n : Nat), blen v = n + blen w → 2 ^ k ≤ w → blen v = (n + k) + blen (w / 2 ^ k) := fun w k n h1 h2 => by rw [h1, blen_shift h2]; omega
  refine Wc.seqA (fun y => ∃ w n, y.ds = [] ∧ y.e.length = 25 ∧ y.e.getD 0 .junk = P' (.int .u64 (w : Nat)) ∧ y.e.getD 2 .junk = P' (pI (n : Nat)) ∧ blen v = n + blen w ∧ w < 2^32 ∧ n ≤ 32) ?_ ?_
  · refine Wc.seq ?_
    refine Wc.reg fun K hK => ?_; simp only [go_sem, ti3, ti9, ti5, ti4, ti35, ti113, ti147, ti29]; refine hK _ _ ?_; clear hK K
    refine Wc.cond (t := decide ((4294967296 : Int) ≤ (v : Int))) (by simp only [go_sem, ti3, ti9, ti5, ti4, ti35, ti113, ti147, ti29]) (fun hc => ?_) (fun hc => ?_)
    · have hge : 4294967296 ≤ v := by have : (4294967296 : Int) ≤ v := by simpa using hc
                                      omega
      have e1 : shrI .u64 (v : Int) 32 = ((v / 2 ^ 32 : Nat) : Int) := shrN .u64 v 32 (by decide)
      refine Wc.seq ?_
      refine Wc.reg fun K hK => ?_; simp only [go_sem, ti3, ti9, ti5, ti4, ti35, ti113, ti147, ti29, e1]; refine hK _ _ ?_; clear hK K
      refine Wc.reg fun K hK => ?_; simp only [go_sem, ti3, ti9, ti5, ti4, ti35, ti113, ti147, ti29]; refine hK _ _ ?_; clear hK K
      exact ⟨rfl, v / 2 ^ 32, 32, rfl, rfl, rfl, rfl, step v 32 0 (by simp) (by omega), by omega, by omega⟩
    · have hlt : v < 4294967296 := by have : ¬ (4294967296 : Int) ≤ v := by simpa using hc
                                      omega
      exact Wc.skip ⟨rfl, v, 0, rfl, rfl, rfl, rfl, by simp, hlt, by omega⟩
  rintro ⟨e, ds, s1⟩ ⟨w, n, rfl, hlen, h0, h2, hb, hw, hn⟩
  simp only at hlen h0 h2
  refine Wc.seqA (fun y => ∃ w n, y.ds = [] ∧ y.e.length = 25 ∧ y.e.getD 0 .junk = P' (.int .u64 (w : Nat)) ∧ y.e.getD 2 .junk = P' (pI (n : Nat)) ∧ blen v = n + blen w ∧ w < 2^16 ∧ n ≤ 48) ?_ ?_
  · refine Wc.seq ?_
    refine Wc.reg fun K hK => ?_; simp only [go_sem, ti3, ti9, ti5, ti4, ti35, ti113, ti147, ti29, hlen, h0, h2]; refine hK _ _ ?_; clear hK K
    refine Wc.cond (t := decide ((65536 : Int) ≤ (w : Int))) (by simp only [go_sem, ti3, ti9, ti5, ti4, ti35, ti113, ti147, ti29, hlen]) (fun hc => ?_) (fun hc => ?_)
    · have hge : 65536 ≤ w := by have : (65536 : Int) ≤ w := by simpa using hc
                                 omega
      have e1 : shrI .u64 (w : Int) 16 = ((w / 2 ^ 16 : Nat) : Int) := shrN .u64 w 16 (by decide)
      have e2 : IntKind.i64.wrap ((n : Int) + 16) = ((n + 16 : Nat) : Int) := by rw [wi64]; omega
      refine Wc.seq ?_
      refine Wc.reg fun K hK => ?_; simp only [go_sem, ti3, ti9, ti5, ti4, ti35, ti113, ti147, ti29, hlen, h0, h2, e1]; refine hK _ _ ?_; clear hK K
      refine Wc.reg fun K hK => ?_; simp only [go_sem, ti3, ti9, ti5, ti4, ti35, ti113, ti147, ti29, hlen, h0, h2, e2]; refine hK _ _ ?_; clear hK K
      exact ⟨rfl, w / 2 ^ 16, n + 16, rfl, by simp only [go_sem, ti3, ti9, ti5, ti4, ti35, ti113, ti147, ti29, hlen], by simp only [go_sem, ti3, ti9, ti5, ti4, ti35, ti113, ti147, ti29, hlen], by simp only [go_sem, ti3, ti9, ti5, ti4, ti35, ti113, ti147, ti29, hlen], step w 16 n hb (by omega), by omega, by omega⟩
    · have hlt : w < 65536 := by have : ¬ (65536 : Int) ≤ w := by simpa using hc
                                 omega
      exact Wc.skip ⟨rfl, w, n, rfl, by simp only [go_sem, ti3, ti9, ti5, ti4, ti35, ti113, ti147, ti29, hlen], by simp only [go_sem, ti3, ti9, ti5, ti4, ti35, ti113, ti147, ti29, hlen, h0], by simp only [go_sem, ti3, ti9, ti5, ti4, ti35, ti113, ti147, ti29, hlen, h2], hb, hlt, by omega⟩
  clear hlen h0 h2 hb hw hn e s1
  rintro ⟨e, ds, s1⟩ ⟨w, n, rfl, hlen, h0, h2, hb, hw, hn⟩
  simp only at hlen h0 h2
  refine Wc.seqA (fun y => ∃ w n, y.ds = [] ∧ y.e.length = 25 ∧ y.e.getD 0 .junk = P' (.int .u64 (w : Nat)) ∧ y.e.getD 2 .junk = P' (pI (n : Nat)) ∧ blen v = n + blen w ∧ w < 2^8 ∧ n ≤ 56) ?_ ?_
  · refine Wc.seq ?_
    refine Wc.reg fun K hK => ?_; simp only [go_sem, ti3, ti9, ti5, ti4, ti35, ti113, ti147, ti29, hlen, h0, h2]; refine hK _ _ ?_; clear hK K
    refine Wc.cond (t := decide ((256 : Int) ≤ (w : Int))) (by simp only [go_sem, ti3, ti9, ti5, ti4, ti35, ti113, ti147, ti29, hlen]) (fun hc => ?_) (fun hc => ?_)
    · have hge : 256 ≤ w := by have : (256 : Int) ≤ w := by simpa using hc
                               omega
      have e1 : shrI .u64 (w : Int) 8 = ((w / 2 ^ 8 : Nat) : Int) := shrN .u64 w 8 (by decide)
      have e2 : IntKind.i64.wrap ((n : Int) + 8) = ((n + 8 : Nat) : Int) := by rw [wi64]; omega
      refine Wc.seq ?_
      refine Wc.reg fun K hK => ?_; simp only [go_sem, ti3, ti9, ti5, ti4, ti35, ti113, ti147, ti29, hlen, h0, h2, e1]; refine hK _ _ ?_; clear hK K
      refine Wc.reg fun K hK => ?_; simp only [go_sem, ti3, ti9, ti5, ti4, ti35, ti113, ti147, ti29, hlen, h0, h2, e2]; refine hK _ _ ?_; clear hK K
      exact ⟨rfl, w / 2 ^ 8, n + 8, rfl, by simp only [go_sem, ti3, ti9, ti5, ti4, ti35, ti113, ti147, ti29, hlen], by simp only [go_sem, ti3, ti9, ti5, ti4, ti35, ti113, ti147, ti29, hlen], by simp only [go_sem, ti3, ti9, ti5, ti4, ti35, ti113, ti147, ti29, hlen], step w 8 n hb (by omega), by omega, by omega⟩
    · have hlt : w < 256 := by have : ¬ (256 : Int) ≤ w := by simpa using hc
                               omega
      exact Wc.skip ⟨rfl, w, n, rfl, by simp only [go_sem, ti3, ti9, ti5, ti4, ti35, ti113, ti147, ti29, hlen], by simp only [go_sem, ti3, ti9, ti5, ti4, ti35, ti113, ti147, ti29, hlen, h0], by simp only [go_sem, ti3, ti9, ti5, ti4, ti35, ti113, ti147, ti29, hlen, h2], hb, hlt, by omega⟩
  clear hlen h0 h2 hb hw hn e s1
  rintro ⟨e, ds, s1⟩ ⟨w, n, rfl, hlen, h0, h2, hb, hw, hn⟩
  simp only at hlen h0 h2
  refine Wc.seq ?_
  have e1 : IntKind.u8.wrap (w : Int) = w := by rw [wu8]; omega
  have ht := ltab_get ⟨w, hw⟩
  have hb8 := blen_le8 ⟨w, hw⟩
  simp only at ht hb8
  have e2 : (UInt8.ofNat (blen w)).toNat = blen w := by simp; omega
  have e3 : IntKind.i64.wrap ((blen w : Nat) : Int) = blen w := by rw [wi64]; omega
  have e4 : IntKind.i64.wrap ((n : Int) + (blen w : Nat)) = blen v := by rw [wi64, hb]; omega
  refine Wc.reg fun K hK => ?_; simp only [go_sem, ti3, ti9, ti5, ti4, ti35, ti113, ti147, ti29, hlen, h0, h2, e1, ht, pdOfByte, e2, e3, e4]; refine hK _ _ ?_; clear hK K
  exact Wc.ret (Pf.ret [.tmp 2] [.c (.p (pI (blen v)))] rfl rfl (by simp only [resultsD, go_sem, ti3, ti9, ti5, ti4, ti35, ti113, ti147, ti29, hlen]) rfl)
/-- 155: Len -/
theorem pf155 (v : Nat) (hv : v < 2^64) : Pf E0 155 [.c (.p (.int .u64 v))] (P' (pI (blen v))) := by
  refine Pf.body (fn := Tryz.f155) (by kernel_rfl) rfl ?_; simp only [List.map_cons, List.map_nil, List.cons_append, List.nil_append, List.length_cons, List.length_nil, Tryz.ntmps155, List.replicate, Nat.reduceSub, Nat.reduceAdd]
  refine Wc.seq ?_
  refine Wc.reg fun K hK => ?_; simp only [go_sem, ti3, ti9, ti5, ti4, ti35, ti113, ti147, ti29]; refine hK _ _ ?_; clear hK K
  refine Wc.seq (Wc.cond (t := false) (by simp only [go_sem, ti3, ti9, ti5, ti4, ti35, ti113, ti147, ti29]) (fun hc => by cases hc) (fun _ => Wc.skip (Wc.seq ?_)))
  refine Wc.reg fun K hK => ?_; simp only [go_sem, ti3, ti9, ti5, ti4, ti35, ti113, ti147, ti29]
  refine wpCall.pf (pf159 v hv) (by kernel_rfl) (by kernel_rfl) rfl rfl ?_
  simp only [go_sem, ti3, ti9, ti5, ti4, ti35, ti113, ti147, ti29]; refine hK _ _ ?_; clear hK K
  exact Wc.ret (Pf.ret [.tmp 2] [.c (.p (pI (blen v)))] rfl rfl (by simp only [resultsD, go_sem, ti3, ti9, ti5, ti4, ti35, ti113, ti147, ti29]) rfl)
/-- 141: index -/
theorem pf141 (q v : Nat) (hq : q ≤ 8) (hv : v ≤ 1099511627776) : Pf E0 141 [.c (.p (pI q)), .c (.p (pI v))] (P' (pI (ix q v))) := by
  have p8 : 2 ^ q ≤ 2 ^ 8 := Nat.pow_le_pow_right (by decide) hq
  have p0 := Nat.two_pow_pos q
  have ps : 2 ^ (q + 1) = 2 ^ q * 2 := Nat.pow_succ ..
  have s1 : shlI .i64 1 (q : Int) = ((2 ^ q : Nat) : Int) := by have := shlN 1 q (by omega) (by omega); simpa using this
  have hq0 : ((q : Int) < 0) = False := by simp
  refine Pf.body (fn := Tryz.f141) (by kernel_rfl) rfl ?_; simp only [List.map_cons, List.map_nil, List.cons_append, List.nil_append, List.length_cons, List.length_nil, Tryz.ntmps141, List.replicate, Nat.reduceSub, Nat.reduceAdd]
  refine Wc.seq ?_
  refine Wc.reg fun K hK => ?_; simp only [go_sem, ti3, ti9, ti5, ti4, ti35, ti113, ti147, ti29]; refine hK _ _ ?_; clear hK K
  refine Wc.seq (Wc.seq ?_)
  refine Wc.reg fun K hK => ?_; simp only [go_sem, ti3, ti9, ti5, ti4, ti35, ti113, ti147, ti29, s1, hq0]; refine hK _ _ ?_; clear hK K
  refine Wc.cond (t := decide ((v : Int) < ((2 ^ q : Nat) : Int))) (by simp only [go_sem, ti3, ti9, ti5, ti4, ti35, ti113, ti147, ti29, s1]) (fun hc => ?_) (fun hc => ?_)
  · have hlt : v < 2 ^ q := by have : (v : Int) < ((2 ^ q : Nat) : Int) := by simpa using hc
                               omega
    rw [ix_lt (by omega)]
    refine Wc.seq ?_
    refine Wc.reg fun K hK => ?_; simp only [go_sem, ti3, ti9, ti5, ti4, ti35, ti113, ti147, ti29]; refine hK _ _ ?_; clear hK K
    exact Wc.ret (Pf.ret [.tmp 4] [.c (.p (pI v))] rfl rfl (by simp only [resultsD, go_sem, ti3, ti9, ti5, ti4, ti35, ti113, ti147, ti29]) rfl)
  · have hge : 2 ^ q ≤ v := by have : ¬ (v : Int) < ((2 ^ q : Nat) : Int) := by simpa using hc
                               omega
    obtain ⟨m, hm, h1, h2⟩ := blen_pos (v := v) (by omega)
    have hqm : q ≤ m := by
      rcases Nat.lt_or_ge m q with h3 | h3
      · have : 2 ^ (m + 1) ≤ 2 ^ q := Nat.pow_le_pow_right (by decide) h3
        omega
      · exact h3
    obtain ⟨k, rfl⟩ := Nat.exists_eq_add_of_le hqm
    have hk40 : q + k ≤ 40 := by
      rcases Nat.lt_or_ge 40 (q + k) with h3 | h3
      · have : 2 ^ 41 ≤ 2 ^ (q + k) := Nat.pow_le_pow_right (by decide) h3
        omega
      · exact h3
    have ixe := ix_closed q k v h1 h2
    have kb : k * 2 ^ q ≤ 40 * 2 ^ 8 := Nat.mul_le_mul (by omega) p8
    have vb' : v / 2 ^ k ≤ v := Nat.div_le_self _ _
    have c1 : IntKind.u64.wrap (v : Int) = v := by rw [wu64]; omega
    have c2 : IntKind.i64.wrap (((q + (k + 1) : Nat) : Int) - 1) = ((q + k : Nat) : Int) := by rw [wi64]; omega
    have c3 : IntKind.i64.wrap (((q + k : Nat) : Int) - q) = (k : Int) := by rw [wi64]; omega
    have c4 : shlI .i64 (k : Int) (q : Int) = ((k * 2 ^ q : Nat) : Int) := shlN k q (by omega) (by omega)
    have c5 : shrI .i64 (v : Int) (k : Int) = ((v / 2 ^ k : Nat) : Int) := shrN .i64 v k (by show k ≤ 64; omega)
    have c6 : IntKind.i64.wrap (((k * 2 ^ q : Nat) : Int) + ((v / 2 ^ k : Nat) : Int)) = ((ix q v : Nat) : Int) := by rw [wi64, ixe]; omega
    have hk0 : ((k : Int) < 0) = False := by simp
    refine Wc.skip (Wc.seq ?_)
    refine Wc.reg fun K hK => ?_; simp only [go_sem, ti3, ti9, ti5, ti4, ti35, ti113, ti147, ti29, c1]
    refine wpCall.pf (pf155 v (by omega)) (by kernel_rfl) (by kernel_rfl) rfl rfl ?_
    simp only [go_sem, ti3, ti9, ti5, ti4, ti35, ti113, ti147, ti29, hm, c2, c3]; refine hK _ _ ?_; clear hK K
    refine Wc.seq ?_
    refine Wc.regD fun K hK => ?_; simp only [go_sem, ti3, ti9, ti5, ti4, ti35, ti113, ti147, ti29, hq0, hk0, c4, c5, c6]; refine hK _ _ ?_; clear hK K
    exact Wc.ret (Pf.ret [.tmp 4] [.c (.p (pI (ix q v)))] rfl rfl (by simp only [resultsD, go_sem, ti3, ti9, ti5, ti4, ti35, ti113, ti147, ti29]) rfl)
end Go.Proofs.YtafaoldmemcigaaGreat.Ab
namespace Go.Proofs.YtafaoldmemcigaaGreat.Ab
set_option maxHeartbeats 4000000
set_option maxRecDepth 10000
set_option linter.unusedSimpArgs false
set_option linter.unusedVariables false
theorem pow_lt63 {n : Nat} (h : n ≤ 62) : 2 ^ n < 2 ^ 63 := Nat.pow_lt_pow_right (by decide) (by omega)
/-- 132: power -/
theorem pf132 (n : Nat) (hn : n ≤ 62) : Pf E0 132 [.c (.p (pI n))] (P' (pI (2 ^ n : Nat))) := by
  refine Pf.body (fn := Tryz.f132) (by kernel_rfl) rfl ?_; simp only [List.map_cons, List.map_nil, List.cons_append, List.nil_append, List.length_cons, List.length_nil, Tryz.ntmps132, List.replicate, Nat.reduceSub, Nat.reduceAdd]
  refine Wc.seq ?_
  refine Wc.reg fun K hK => ?_; simp only [go_sem, ti3, ti9, ti5, ti4, ti35]; refine hK _ _ ?_; clear hK K
  refine Wc.seq ?_
  refine Wc.reg fun K hK => ?_; simp only [go_sem, ti3, ti9, ti5, ti4, ti35]; refine hK _ _ ?_; clear hK K
  refine Wc.seq (Wc.seq ?_)
  refine Wc.reg fun K hK => ?_; simp only [go_sem, ti3, ti9, ti5, ti4, ti35, Int.natCast_zero]; refine hK _ _ ?_; clear hK K
  refine Wc.block (Wc.loop (fun k y => ∃ i : Nat, k = n - i ∧ i ≤ n ∧ y.ds = [] ∧ y.e.length = 13 ∧ y.e.getD 0 .junk = P' (pI n) ∧ y.e.getD 4 .junk = P' (pI i) ∧ y.e.getD 3 .junk = P' (pI (2 ^ i : Nat))) ?_ (k := n) ?_)
  · rintro k ⟨e, ds, s1⟩ ⟨i, rfl, hi, rfl, hlen, h0, h4, h3⟩
    simp only at hlen h0 h4 h3
    refine Wc.seq (Wc.seq ?_)
    refine Wc.reg fun K hK => ?_; simp only [go_sem, ti3, ti9, ti5, ti4, ti35, hlen, h0, h4, h3]; refine hK _ _ ?_; clear hK K
    refine Wc.cond (t := decide ((i : Int) < n)) (by simp only [go_sem, ti3, ti9, ti5, ti4, ti35, hlen]) (fun hc => ?_) (fun hc => ?_)
    · have hin : i < n := by have : (i : Int) < n := by simpa using hc
                             omega
      have hp := pow_lt63 (n := i + 1) (by omega)
      have e1 : IntKind.i64.wrap (2 * ((2 ^ i : Nat) : Int)) = ((2 ^ (i + 1) : Nat) : Int) := by rw [wi64, Nat.pow_succ]; rw [Nat.pow_succ] at hp; omega
      refine Wc.skip (Wc.seq (Wc.block ?_))
      refine Wc.reg fun K hK => ?_; simp only [go_sem, ti3, ti9, ti5, ti4, ti35, hlen, h0, h4, h3, e1]; refine hK _ _ ?_; clear hK K
      refine Wc.reg fun K hK => ?_; simp only [go_sem, ti3, ti9, ti5, ti4, ti35, hlen, h0, h4, h3, i64n i (by omega)]; refine hK _ _ ?_; clear hK K
      exact ⟨n - (i + 1), by omega, i + 1, rfl, by omega, rfl, by simp only [go_sem, ti3, ti9, ti5, ti4, ti35, hlen], by simp only [go_sem, ti3, ti9, ti5, ti4, ti35, hlen, h0], by simp only [go_sem, ti3, ti9, ti5, ti4, ti35, hlen], by simp only [go_sem, ti3, ti9, ti5, ti4, ti35, hlen]⟩
    · have hin : i = n := by have : ¬ (i : Int) < n := by simpa using hc
                             omega
      subst hin
      refine Wc.exit (Wc.seq ?_)
      refine Wc.reg fun K hK => ?_; simp only [go_sem, ti3, ti9, ti5, ti4, ti35, hlen, h3]; refine hK _ _ ?_; clear hK K
      exact Wc.ret (Pf.ret [.tmp 2] [.c (.p (pI (2 ^ i : Nat)))] rfl rfl (by simp only [resultsD, go_sem, ti3, ti9, ti5, ti4, ti35, hlen]) rfl)
  · exact ⟨0, rfl, by omega, rfl, rfl, rfl, rfl, rfl⟩
/-- 112: the reference's index -/
theorem pf112 (q v : Nat) (hq : q ≤ 8) (hv : v ≤ 1099511627776) : Pf E0 112 [.c (.p (pI q)), .c (.p (pI v))] (P' (pI (ix q v))) := by
  have p8 : 2 ^ q ≤ 2 ^ 8 := Nat.pow_le_pow_right (by decide) hq
  have p0 := Nat.two_pow_pos q
  have ps : 2 ^ (q + 1) = 2 ^ q * 2 := Nat.pow_succ ..
  have c1 : IntKind.i64.wrap (2 * ((2 ^ q : Nat) : Int)) = ((2 ^ (q + 1) : Nat) : Int) := by rw [wi64, ps]; omega
  have ixb : ix q v ≤ v := by
    have h1 : ∀ n w, w ≤ n → ix q w ≤ w := by
      intro n
      induction n with
      | zero => intro w hw; rw [ix_lt (by omega)]; exact Nat.le_refl _
      | succ n ih =>
        intro w hw
        rcases Nat.lt_or_ge w (2 ^ (q + 1)) with h | h
        · rw [ix_lt h]; exact Nat.le_refl _
        · rw [ix_ge h]
          have := ih (w / 2) (by omega)
          omega
    exact h1 v v (Nat.le_refl _)
  refine Pf.body (fn := Tryz.f112) (by kernel_rfl) rfl ?_; simp only [List.map_cons, List.map_nil, List.cons_append, List.nil_append, List.length_cons, List.length_nil, Tryz.ntmps112, List.replicate, Nat.reduceSub, Nat.reduceAdd]
  refine Wc.seq ?_
  refine Wc.reg fun K hK => ?_; simp only [go_sem, ti3, ti9, ti5, ti4, ti35]; refine hK _ _ ?_; clear hK K
  refine Wc.seq ?_
  refine Wc.reg fun K hK => ?_; simp only [go_sem, ti3, ti9, ti5, ti4, ti35, Int.natCast_zero]; refine hK _ _ ?_; clear hK K
  refine Wc.seqA (fun y => ∃ k w : Nat, y.ds = [] ∧ y.e.length = 23 ∧ y.e.getD 0 .junk = P' (pI q) ∧ y.e.getD 5 .junk = P' (pI k) ∧ y.e.getD 6 .junk = P' (pI w) ∧ w < 2 ^ (q + 1) ∧ k * 2 ^ q + ix q w = ix q v) ?_ ?_
  · refine Wc.block (Wc.loop (fun m y => ∃ k w : Nat, m = w ∧ w ≤ v ∧ k + w ≤ v ∧ y.ds = [] ∧ y.e.length = 23 ∧ y.e.getD 0 .junk = P' (pI q) ∧ y.e.getD 5 .junk = P' (pI k) ∧ y.e.getD 6 .junk = P' (pI w) ∧ k * 2 ^ q + ix q w = ix q v) ?_ (k := v) ?_)
    · rintro m ⟨e, ds, s1⟩ ⟨k, w, rfl, hwv, hkw, rfl, hlen, h0, h5, h6, hk⟩
      simp only at hlen h0 h5 h6
      refine Wc.seq (Wc.seq ?_)
      refine Wc.reg fun K hK => ?_; simp only [go_sem, ti3, ti9, ti5, ti4, ti35, hlen, h0, h5, h6]
      refine wpCall.pf (pf132 q (by omega)) (by kernel_rfl) (by kernel_rfl) rfl rfl ?_
      simp only [go_sem, ti3, ti9, ti5, ti4, ti35, hlen, h0, h5, h6, c1]; refine hK _ _ ?_; clear hK K
      refine Wc.cond (t := decide (((2 ^ (q + 1) : Nat) : Int) ≤ m)) (by simp only [go_sem, ti3, ti9, ti5, ti4, ti35, hlen]) (fun hc => ?_) (fun hc => ?_)
      · have hge : 2 ^ (q + 1) ≤ m := by have : ((2 ^ (q + 1) : Nat) : Int) ≤ m := by simpa using hc
                                         omega
        have e1 : IntKind.i64.wrap ((m : Int).tdiv 2) = ((m / 2 : Nat) : Int) := by
          rw [Int.tdiv_eq_ediv_of_nonneg (by omega), wi64]; omega
        refine Wc.skip (Wc.block (Wc.seq ?_))
        refine Wc.reg fun K hK => ?_; simp only [go_sem, ti3, ti9, ti5, ti4, ti35, hlen, h0, h5, h6, e1]; refine hK _ _ ?_; clear hK K
        refine Wc.reg fun K hK => ?_; simp only [go_sem, ti3, ti9, ti5, ti4, ti35, hlen, h0, h5, h6, i64n k (by omega)]; refine hK _ _ ?_; clear hK K
        refine ⟨m / 2, by omega, k + 1, m / 2, rfl, by omega, by omega, rfl, by simp only [go_sem, ti3, ti9, ti5, ti4, ti35, hlen], by simp only [go_sem, ti3, ti9, ti5, ti4, ti35, hlen, h0], by simp only [go_sem, ti3, ti9, ti5, ti4, ti35, hlen], by simp only [go_sem, ti3, ti9, ti5, ti4, ti35, hlen], ?_⟩
        rw [← hk, ix_ge hge, Nat.add_mul]; omega
      · have hlt : m < 2 ^ (q + 1) := by have : ¬ ((2 ^ (q + 1) : Nat) : Int) ≤ m := by simpa using hc
                                         omega
        exact Wc.exit ⟨rfl, k, m, rfl, by simp only [go_sem, ti3, ti9, ti5, ti4, ti35, hlen], by simp only [go_sem, ti3, ti9, ti5, ti4, ti35, hlen, h0], by simp only [go_sem, ti3, ti9, ti5, ti4, ti35, hlen, h5], by simp only [go_sem, ti3, ti9, ti5, ti4, ti35, hlen, h6], hlt, hk⟩
    · exact ⟨0, v, rfl, Nat.le_refl _, by omega, rfl, rfl, rfl, rfl, rfl, by simp⟩
  · rintro ⟨e, ds, s1⟩ ⟨k, w, rfl, hlen, h0, h5, h6, hw, hk⟩
    simp only at hlen h0 h5 h6
    rw [ix_lt hw] at hk
    have c2 : IntKind.i64.wrap ((k : Int) * ((2 ^ q : Nat) : Int)) = ((k * 2 ^ q : Nat) : Int) := by
      have : (k : Int) * ((2 ^ q : Nat) : Int) = ((k * 2 ^ q : Nat) : Int) := (Int.natCast_mul _ _).symm
      rw [this, wi64]; omega
    have c3 : IntKind.i64.wrap (((k * 2 ^ q : Nat) : Int) + (w : Int)) = ((ix q v : Nat) : Int) := by rw [wi64, ← hk]; omega
    refine Wc.seq ?_
    refine Wc.reg fun K hK => ?_; simp only [go_sem, ti3, ti9, ti5, ti4, ti35, hlen, h0, h5, h6]
    refine wpCall.pf (pf132 q (by omega)) (by kernel_rfl) (by kernel_rfl) rfl rfl ?_
    simp only [go_sem, ti3, ti9, ti5, ti4, ti35, hlen, h0, h5, h6, c2, c3]; refine hK _ _ ?_; clear hK K
    exact Wc.ret (Pf.ret [.tmp 4] [.c (.p (pI (ix q v)))] rfl rfl (by simp only [resultsD, go_sem, ti3, ti9, ti5, ti4, ti35, hlen]) rfl)
theorem kf_le {q i : Nat} (hi : i ≤ (41 - q) * 2 ^ q) : kf q i ≤ 40 - q := by
  have hp := Nat.two_pow_pos q
  have : i / 2 ^ q ≤ 41 - q := by
    have h1 := Nat.div_le_div_right (c := 2 ^ q) hi
    rwa [Nat.mul_div_cancel _ hp] at h1
  unfold kf; omega
/-- The part that a bucket's bounds are made of. -/
theorem part_lt (q i : Nat) : i - kf q i * 2 ^ q < 2 ^ q * 2 := by
  have hp := Nat.two_pow_pos q
  rcases ix_form q i with h | ⟨k, r, rfl, h1, h2⟩
  · rw [(lo_small h).2]; omega
  · rw [kf_of h1 h2]; omega
theorem pow_bound {q i : Nat} (hq : q ≤ 8) (hi : i ≤ (41 - q) * 2 ^ q) : lo q i + 2 ^ kf q i ≤ 2 ^ 42 ∧ 2 ^ kf q i ≤ 2 ^ 40 := by
  have hk := kf_le hi
  have h1 := part_lt q i
  have h2 : 2 ^ kf q i ≤ 2 ^ (40 - q) := Nat.pow_le_pow_right (by decide) hk
  have h3 : (2 ^ q * 2) * 2 ^ (40 - q) = 2 ^ 41 := by
    rw [← Nat.pow_succ, ← Nat.pow_add]
    congr 1
    omega
  have h4 : lo q i + 2 ^ kf q i ≤ (2 ^ q * 2) * 2 ^ kf q i := by
    unfold lo
    rw [← Nat.succ_mul]
    exact Nat.mul_le_mul_right _ h1
  have h5 : (2 ^ q * 2) * 2 ^ kf q i ≤ (2 ^ q * 2) * 2 ^ (40 - q) := Nat.mul_le_mul_left _ h2
  have h6 : 2 ^ (40 - q) ≤ 2 ^ 40 := Nat.pow_le_pow_right (by decide) (by omega)
  omega
/-- 124: isPrecision -/
theorem pf124 (n : Int) : Pf E0 124 [.c (.p (pI n))] (P' (.bool (decide (0 ≤ n ∧ n ≤ 8)))) := by
  refine Pf.body (fn := Tryz.f124) (by kernel_rfl) rfl ?_; simp only [List.map_cons, List.map_nil, List.cons_append, List.nil_append, List.length_cons, List.length_nil, Tryz.ntmps124, List.replicate, Nat.reduceSub, Nat.reduceAdd]
  refine Wc.seq ?_
  refine Wc.reg fun K hK => ?_; simp only [go_sem, ti3, ti9, ti5, ti4, ti35]; refine hK _ _ ?_; clear hK K
  refine Wc.seq ?_
  by_cases h : 0 ≤ n
  · refine Wc.reg fun K hK => ?_; simp only [go_sem, ti3, ti9, ti5, ti4, ti35, h]; refine hK _ _ ?_; clear hK K
    exact Wc.ret (Pf.ret [.tmp 2] [.c (.p (.bool (decide (0 ≤ n ∧ n ≤ 8))))] rfl rfl (by simp only [resultsD, go_sem, ti3, ti9, ti5, ti4, ti35, h]) rfl)
  · refine Wc.reg fun K hK => ?_; simp only [go_sem, ti3, ti9, ti5, ti4, ti35, h]; refine hK _ _ ?_; clear hK K
    exact Wc.ret (Pf.ret [.tmp 2] [.c (.p (.bool (decide (0 ≤ n ∧ n ≤ 8))))] rfl rfl (by simp only [resultsD, go_sem, ti3, ti9, ti5, ti4, ti35, h]) rfl)
/-- 142: isValue -/
theorem pf142 (n : Int) : Pf E0 142 [.c (.p (pI n))] (P' (.bool (decide (0 ≤ n ∧ n ≤ 1099511627776)))) := by
  refine Pf.body (fn := Tryz.f142) (by kernel_rfl) rfl ?_; simp only [List.map_cons, List.map_nil, List.cons_append, List.nil_append, List.length_cons, List.length_nil, Tryz.ntmps142, List.replicate, Nat.reduceSub, Nat.reduceAdd]
  refine Wc.seq ?_
  refine Wc.reg fun K hK => ?_; simp only [go_sem, ti3, ti9, ti5, ti4, ti35]; refine hK _ _ ?_; clear hK K
  refine Wc.seq ?_
  by_cases h : 0 ≤ n
  · refine Wc.reg fun K hK => ?_; simp only [go_sem, ti3, ti9, ti5, ti4, ti35, h]; refine hK _ _ ?_; clear hK K
    exact Wc.ret (Pf.ret [.tmp 2] [.c (.p (.bool (decide (0 ≤ n ∧ n ≤ 1099511627776))))] rfl rfl (by simp only [resultsD, go_sem, ti3, ti9, ti5, ti4, ti35, h]) rfl)
  · refine Wc.reg fun K hK => ?_; simp only [go_sem, ti3, ti9, ti5, ti4, ti35, h]; refine hK _ _ ?_; clear hK K
    exact Wc.ret (Pf.ret [.tmp 2] [.c (.p (.bool (decide (0 ≤ n ∧ n ≤ 1099511627776))))] rfl rfl (by simp only [resultsD, go_sem, ti3, ti9, ti5, ti4, ti35, h]) rfl)
/-- 125: lastIndex -/
theorem pf125 (q : Nat) (hq : q ≤ 8) : Pf E0 125 [.c (.p (pI q))] (P' (pI (ix q 1099511627776))) := by
  refine Pf.body (fn := Tryz.f125) (by kernel_rfl) rfl ?_; simp only [List.map_cons, List.map_nil, List.cons_append, List.nil_append, List.length_cons, List.length_nil, Tryz.ntmps125, List.replicate, Nat.reduceSub, Nat.reduceAdd]
  refine Wc.seq ?_
  refine Wc.reg fun K hK => ?_; simp only [go_sem, ti3, ti9, ti5, ti4, ti35]; refine hK _ _ ?_; clear hK K
  refine Wc.seq ?_
  refine Wc.reg fun K hK => ?_; simp only [go_sem, ti3, ti9, ti5, ti4, ti35]
  refine wpCall.pf (pf141 q 1099511627776 hq (by decide)) (by kernel_rfl) (by kernel_rfl) rfl rfl ?_
  simp only [go_sem, ti3, ti9, ti5, ti4, ti35]; refine hK _ _ ?_; clear hK K
  exact Wc.ret (Pf.ret [.tmp 2] [.c (.p (pI (ix q 1099511627776)))] rfl rfl (by simp only [resultsD, go_sem, ti3, ti9, ti5, ti4, ti35]) rfl)
end Go.Proofs.YtafaoldmemcigaaGreat.Ab
namespace Go.Proofs.YtafaoldmemcigaaGreat.Ab
set_option maxHeartbeats 4000000
set_option maxRecDepth 10000
set_option linter.unusedSimpArgs false
set_option linter.unusedVariables false
theorem min2 (a b : Int) : foldO minD (.v (.c (.p (.int .i64 a)))) [.v (.c (.p (.int .i64 b)))] = some (.v (.c (.p (.int .i64 (min a b))))) := by
  simp only [foldO, minD, P', if_true, Option.some.injEq, D.v.injEq, V.c.injEq, C.p.injEq, Pd.int.injEq, true_and, decide_eq_true_eq]
  split <;> omega
theorem max2 (a b : Int) : foldO maxD (.v (.c (.p (.int .i64 a)))) [.v (.c (.p (.int .i64 b)))] = some (.v (.c (.p (.int .i64 (max a b))))) := by
  simp only [foldO, maxD, P', if_true, Option.some.injEq, D.v.injEq, V.c.injEq, C.p.injEq, Pd.int.injEq, true_and, decide_eq_true_eq]
  split <;> omega
theorem kf_mul_le {q i : Nat} : kf q i * 2 ^ q ≤ i := by
  have hp := Nat.two_pow_pos q
  rcases ix_form q i with h | ⟨k, r, rfl, h1, h2⟩
  · rw [(lo_small h).2]; omega
  · rw [kf_of h1 h2]; omega
/-- 157: bounds -/
theorem pf157 (q i : Nat) (hq : q ≤ 8) (hb : i ≤ (41 - q) * 2 ^ q) : Pf E0 157 [.c (.p (pI q)), .c (.p (pI i))] (.tup [.c (.p (pI (lo q i))), .c (.p (pI (hi q i)))]) := by
  have p8 : 2 ^ q ≤ 2 ^ 8 := Nat.pow_le_pow_right (by decide) hq
  have p0 := Nat.two_pow_pos q
  have s1 : shlI .i64 1 (q : Int) = ((2 ^ q : Nat) : Int) := by have := shlN 1 q (by omega) (by omega); simpa using this
  have hq0 : ((q : Int) < 0) = False := by simp
  obtain ⟨b1, b2⟩ := pow_bound hq hb
  have bi : i ≤ 41 * 2 ^ 8 := Nat.le_trans hb (Nat.mul_le_mul (by omega) p8)
  refine Pf.body (fn := Tryz.f157) (by kernel_rfl) rfl ?_; simp only [List.map_cons, List.map_nil, List.cons_append, List.nil_append, List.length_cons, List.length_nil, Tryz.ntmps157, List.replicate, Nat.reduceSub, Nat.reduceAdd]
  refine Wc.seq ?_
  refine Wc.reg fun K hK => ?_; simp only [go_sem, ti3, ti9, ti5, ti4, ti35]; refine hK _ _ ?_; clear hK K
  refine Wc.seq (Wc.seq ?_)
  refine Wc.reg fun K hK => ?_; simp only [go_sem, ti3, ti9, ti5, ti4, ti35, s1, hq0]; refine hK _ _ ?_; clear hK K
  refine Wc.cond (t := decide ((i : Int) < ((2 ^ q : Nat) : Int))) (by simp only [go_sem, ti3, ti9, ti5, ti4, ti35, s1]) (fun hc => ?_) (fun hc => ?_)
  · have hlt : i < 2 ^ q := by have : (i : Int) < ((2 ^ q : Nat) : Int) := by simpa using hc
                               omega
    obtain ⟨h3, h4⟩ := lo_small hlt
    have h5 : hi q i = i := by unfold hi hiU; rw [h3, h4]; simp; omega
    rw [h3, h5]
    refine Wc.seq ?_
    refine Wc.reg fun K hK => ?_; simp only [go_sem, ti3, ti9, ti5, ti4, ti35]; refine hK _ _ ?_; clear hK K
    exact Wc.ret (Pf.ret [.tmp 4, .tmp 5] [.c (.p (pI i)), .c (.p (pI i))] rfl rfl (by simp only [resultsD, go_sem, ti3, ti9, ti5, ti4, ti35]) rfl)
  · have hge : 2 ^ q ≤ i := by have : ¬ (i : Int) < ((2 ^ q : Nat) : Int) := by simpa using hc
                               omega
    have hk := kf_le hb
    have hkm := kf_mul_le (q := q) (i := i)
    have hpt := part_lt q i
    have hd1 : 1 ≤ i / 2 ^ q := (Nat.le_div_iff_mul_le p0).2 (by omega)
    have hdb : i / 2 ^ q ≤ i := Nat.div_le_self _ _
    have hkd : kf q i = i / 2 ^ q - 1 := rfl
    have elo : lo q i = (i - kf q i * 2 ^ q) * 2 ^ kf q i := rfl
    have ehi : hi q i = min (hiU q i) 1099511627776 := rfl
    have ehu : hiU q i = lo q i + 2 ^ kf q i - 1 := rfl
    have pk := Nat.two_pow_pos (kf q i)
    generalize hkk : kf q i = k at *
    generalize hpp : i - k * 2 ^ q = pt at *
    have em : (pt + 1) * 2 ^ k = lo q i + 2 ^ k := by rw [Nat.add_mul, elo]; omega
    have c1 : shrI .i64 (i : Int) (q : Int) = ((i / 2 ^ q : Nat) : Int) := shrN .i64 i q (by show q ≤ 64; omega)
    have c2 : IntKind.i64.wrap (((i / 2 ^ q : Nat) : Int) - 1) = (k : Int) := by rw [wi64]; omega
    have c3 : shlI .i64 (k : Int) (q : Int) = ((k * 2 ^ q : Nat) : Int) := shlN k q (by omega) (by omega)
    have c4 : IntKind.i64.wrap ((i : Int) - ((k * 2 ^ q : Nat) : Int)) = (pt : Int) := by rw [wi64]; omega
    have c5 : shlI .i64 (pt : Int) (k : Int) = ((lo q i : Nat) : Int) := by rw [elo]; exact shlN pt k (by omega) (by omega)
    have c6 : IntKind.i64.wrap ((pt : Int) + 1) = ((pt + 1 : Nat) : Int) := by rw [wi64]; omega
    have c7 : shlI .i64 ((pt + 1 : Nat) : Int) (k : Int) = ((lo q i + 2 ^ k : Nat) : Int) := by rw [← em]; exact shlN (pt + 1) k (by omega) (by rw [em]; omega)
    have c8 : IntKind.i64.wrap (((lo q i + 2 ^ k : Nat) : Int) - 1) = ((hiU q i : Nat) : Int) := by rw [wi64]; omega
    have c9 : min ((hiU q i : Nat) : Int) 1099511627776 = ((hi q i : Nat) : Int) := by rw [ehi]; omega
    have hk0 : ((k : Int) < 0) = False := by simp
    refine Wc.skip (Wc.seq ?_)
    refine Wc.reg fun K hK => ?_; simp only [go_sem, ti3, ti9, ti5, ti4, ti35, hq0, c1, c2]; refine hK _ _ ?_; clear hK K
    refine Wc.seq ?_
    refine Wc.reg fun K hK => ?_; simp only [go_sem, ti3, ti9, ti5, ti4, ti35, hq0, c3, c4]; refine hK _ _ ?_; clear hK K
    refine Wc.seq ?_
    refine Wc.regD fun K hK => ?_; simp only [go_sem, ti3, ti9, ti5, ti4, ti35, hk0, c5, c6, c7, c8, min2, c9]; refine hK _ _ ?_; clear hK K
    exact Wc.ret (Pf.ret [.tmp 4, .tmp 5] [.c (.p (pI (lo q i))), .c (.p (pI (hi q i)))] rfl rfl (by simp only [resultsD, go_sem, ti3, ti9, ti5, ti4, ti35]) rfl)
/-- 148: the reference's bounds -/
theorem pf148 (q i : Nat) (hq : q ≤ 8) (hb : i ≤ (41 - q) * 2 ^ q) : Pf E0 148 [.c (.p (pI q)), .c (.p (pI i))] (.tup [.c (.p (pI (lo q i))), .c (.p (pI (hi q i)))]) := by
  have p8 : 2 ^ q ≤ 2 ^ 8 := Nat.pow_le_pow_right (by decide) hq
  have p0 := Nat.two_pow_pos q
  obtain ⟨b1, b2⟩ := pow_bound hq hb
  have bi : i ≤ 41 * 2 ^ 8 := Nat.le_trans hb (Nat.mul_le_mul (by omega) p8)
  have hkm := kf_mul_le (q := q) (i := i)
  have hpt := part_lt q i
  have hkl := kf_le hb
  have c0 : IntKind.i64.wrap (2 * ((2 ^ q : Nat) : Int)) = ((2 ^ q * 2 : Nat) : Int) := by rw [wi64]; omega
  refine Pf.body (fn := Tryz.f148) (by kernel_rfl) rfl ?_; simp only [List.map_cons, List.map_nil, List.cons_append, List.nil_append, List.length_cons, List.length_nil, Tryz.ntmps148, List.replicate, Nat.reduceSub, Nat.reduceAdd]
  refine Wc.seq ?_
  refine Wc.reg fun K hK => ?_; simp only [go_sem, ti3, ti9, ti5, ti4, ti35]; refine hK _ _ ?_; clear hK K
  refine Wc.seq ?_
  refine Wc.reg fun K hK => ?_; simp only [go_sem, ti3, ti9, ti5, ti4, ti35]
  refine wpCall.pf (pf132 q (by omega)) (by kernel_rfl) (by kernel_rfl) rfl rfl ?_
  simp only [go_sem, ti3, ti9, ti5, ti4, ti35]; refine hK _ _ ?_; clear hK K
  refine Wc.seq ?_
  refine Wc.reg fun K hK => ?_; simp only [go_sem, ti3, ti9, ti5, ti4, ti35, Int.natCast_zero]; refine hK _ _ ?_; clear hK K
  refine Wc.seqA (fun y => y.ds = [] ∧ y.e.length = 39 ∧ y.e.getD 1 .junk = P' (pI i) ∧ y.e.getD 6 .junk = P' (pI (2 ^ q : Nat)) ∧ y.e.getD 7 .junk = P' (pI (kf q i))) ?_ ?_
  · refine Wc.block (Wc.loop (fun m y => ∃ k : Nat, m = kf q i - k ∧ k ≤ kf q i ∧ y.ds = [] ∧ y.e.length = 39 ∧ y.e.getD 1 .junk = P' (pI i) ∧ y.e.getD 6 .junk = P' (pI (2 ^ q : Nat)) ∧ y.e.getD 7 .junk = P' (pI k)) ?_ (k := kf q i) ?_)
    · rintro m ⟨e, ds, s1⟩ ⟨k, rfl, hk, rfl, hlen, h1, h6, h7⟩
      simp only at hlen h1 h6 h7
      have hkm2 : k * 2 ^ q ≤ kf q i * 2 ^ q := Nat.mul_le_mul_right _ hk
      have c1 : IntKind.i64.wrap ((k : Int) * ((2 ^ q : Nat) : Int)) = ((k * 2 ^ q : Nat) : Int) := by
        have : (k : Int) * ((2 ^ q : Nat) : Int) = ((k * 2 ^ q : Nat) : Int) := (Int.natCast_mul _ _).symm
        rw [this, wi64]; omega
      have c2 : IntKind.i64.wrap ((i : Int) - ((k * 2 ^ q : Nat) : Int)) = ((i - k * 2 ^ q : Nat) : Int) := by rw [wi64]; omega
      refine Wc.seq (Wc.seq ?_)
      refine Wc.reg fun K hK => ?_; simp only [go_sem, ti3, ti9, ti5, ti4, ti35, hlen, h1, h6, h7, c0, c1, c2]; refine hK _ _ ?_; clear hK K
      refine Wc.cond (t := decide (((2 ^ q * 2 : Nat) : Int) ≤ ((i - k * 2 ^ q : Nat) : Int))) (by simp only [go_sem, ti3, ti9, ti5, ti4, ti35, hlen]) (fun hc => ?_) (fun hc => ?_)
      · have hge : 2 ^ q * 2 ≤ i - k * 2 ^ q := by have : ((2 ^ q * 2 : Nat) : Int) ≤ ((i - k * 2 ^ q : Nat) : Int) := of_decide_eq_true hc
                                                   omega
        have hlt : k < kf q i := by
          rcases Nat.lt_or_ge k (kf q i) with h | h
          · exact h
          · have : k = kf q i := by omega
            rw [this] at hge; omega
        refine Wc.skip (Wc.block ?_)
        refine Wc.reg fun K hK => ?_; simp only [go_sem, ti3, ti9, ti5, ti4, ti35, hlen, h1, h6, h7, i64n k (by omega)]; refine hK _ _ ?_; clear hK K
        exact ⟨kf q i - (k + 1), by omega, k + 1, rfl, by omega, rfl, by simp only [go_sem, ti3, ti9, ti5, ti4, ti35, hlen], by simp only [go_sem, ti3, ti9, ti5, ti4, ti35, hlen, h1], by simp only [go_sem, ti3, ti9, ti5, ti4, ti35, hlen, h6], by simp only [go_sem, ti3, ti9, ti5, ti4, ti35, hlen]⟩
      · have hlt : i - k * 2 ^ q < 2 ^ q * 2 := by have : ¬ ((2 ^ q * 2 : Nat) : Int) ≤ ((i - k * 2 ^ q : Nat) : Int) := of_decide_eq_false hc
                                                   omega
        have hke : k = kf q i := by
          rcases Nat.lt_or_ge k (kf q i) with h | h
          · exfalso
            rcases ix_form q i with h3 | ⟨k', r, h3, h4, h5⟩
            · rw [(lo_small h3).2] at h; omega
            · have h6 : kf q i = k' := by rw [h3]; exact kf_of h4 h5
              rw [h6] at h
              have h7 : (k + 1) * 2 ^ q ≤ k' * 2 ^ q := Nat.mul_le_mul_right _ h
              rw [Nat.add_mul] at h7
              omega
          · omega
        subst hke
        exact Wc.exit ⟨rfl, rfl, by simp only [go_sem, ti3, ti9, ti5, ti4, ti35, hlen], by simp only [go_sem, ti3, ti9, ti5, ti4, ti35, hlen, h1], by simp only [go_sem, ti3, ti9, ti5, ti4, ti35, hlen, h6], by simp only [go_sem, ti3, ti9, ti5, ti4, ti35, hlen, h7]⟩
    · exact ⟨0, rfl, by omega, rfl, rfl, rfl, rfl, rfl⟩
  rintro ⟨e, ds, s1⟩ ⟨rfl, hlen, h1, h6, h7⟩
  simp only at hlen h1 h6 h7
  have elo : lo q i = (i - kf q i * 2 ^ q) * 2 ^ kf q i := rfl
  have ehi : hi q i = min (hiU q i) 1099511627776 := rfl
  have ehu : hiU q i = lo q i + 2 ^ kf q i - 1 := rfl
  have pk := Nat.two_pow_pos (kf q i)
  have c1 : IntKind.i64.wrap (((kf q i : Nat) : Int) * ((2 ^ q : Nat) : Int)) = ((kf q i * 2 ^ q : Nat) : Int) := by
    have : ((kf q i : Nat) : Int) * ((2 ^ q : Nat) : Int) = ((kf q i * 2 ^ q : Nat) : Int) := (Int.natCast_mul _ _).symm
    rw [this, wi64]; omega
  have c2 : IntKind.i64.wrap ((i : Int) - ((kf q i * 2 ^ q : Nat) : Int)) = ((i - kf q i * 2 ^ q : Nat) : Int) := by rw [wi64]; omega
  have c3 : IntKind.i64.wrap (((i - kf q i * 2 ^ q : Nat) : Int) * ((2 ^ kf q i : Nat) : Int)) = ((lo q i : Nat) : Int) := by
    have : ((i - kf q i * 2 ^ q : Nat) : Int) * ((2 ^ kf q i : Nat) : Int) = ((lo q i : Nat) : Int) := (Int.natCast_mul _ _).symm
    rw [this, wi64]; omega
  have c4 : IntKind.i64.wrap (((lo q i : Nat) : Int) + ((2 ^ kf q i : Nat) : Int)) = ((lo q i + 2 ^ kf q i : Nat) : Int) := by rw [wi64]; omega
  have c8 : IntKind.i64.wrap (((lo q i + 2 ^ kf q i : Nat) : Int) - 1) = ((hiU q i : Nat) : Int) := by rw [wi64]; omega
  refine Wc.seq ?_
  refine Wc.reg fun K hK => ?_; simp only [go_sem, ti3, ti9, ti5, ti4, ti35, hlen, h1, h6, h7, c1, c2]
  refine wpCall.pf (pf132 (kf q i) (by omega)) (by kernel_rfl) (by kernel_rfl) rfl rfl ?_
  simp only [go_sem, ti3, ti9, ti5, ti4, ti35, hlen, h1, h6, h7, c3]; refine hK _ _ ?_; clear hK K
  refine Wc.seq ?_
  refine Wc.reg fun K hK => ?_; simp only [go_sem, ti3, ti9, ti5, ti4, ti35, hlen, h1, h6, h7]
  refine wpCall.pf (pf132 (kf q i) (by omega)) (by kernel_rfl) (by kernel_rfl) rfl rfl ?_
  simp only [go_sem, ti3, ti9, ti5, ti4, ti35, hlen, h1, h6, h7, c4, c8]; refine hK _ _ ?_; clear hK K
  refine Wc.seq (Wc.seq ?_)
  refine Wc.reg fun K hK => ?_; simp only [go_sem, ti3, ti9, ti5, ti4, ti35, hlen, h1, h6, h7]; refine hK _ _ ?_; clear hK K
  refine Wc.cond (t := decide ((1099511627776 : Int) < ((hiU q i : Nat) : Int))) (by simp only [go_sem, ti3, ti9, ti5, ti4, ti35, hlen]) (fun hc => ?_) (fun hc => ?_)
  · have hbc : (1099511627776 : Int) < ((hiU q i : Nat) : Int) := of_decide_eq_true hc
    have hbb : 1099511627776 < hiU q i := by omega
    have e9 : ((hi q i : Nat) : Int) = 1099511627776 := by omega
    refine Wc.reg fun K hK => ?_; simp only [go_sem, ti3, ti9, ti5, ti4, ti35, hlen]; refine hK _ _ ?_; clear hK K
    refine Wc.seq ?_
    refine Wc.reg fun K hK => ?_; simp only [go_sem, ti3, ti9, ti5, ti4, ti35, hlen]; refine hK _ _ ?_; clear hK K
    rw [e9]
    exact Wc.ret (Pf.ret [.tmp 4, .tmp 5] [.c (.p (pI (lo q i))), .c (.p (pI 1099511627776))] rfl rfl (by simp only [resultsD, go_sem, ti3, ti9, ti5, ti4, ti35, hlen]) rfl)
  · have hbc : ¬ (1099511627776 : Int) < ((hiU q i : Nat) : Int) := of_decide_eq_false hc
    have hbb : ¬ 1099511627776 < hiU q i := by omega
    have e9 : hi q i = hiU q i := by omega
    rw [e9]
    refine Wc.skip (Wc.seq ?_)
    refine Wc.reg fun K hK => ?_; simp only [go_sem, ti3, ti9, ti5, ti4, ti35, hlen]; refine hK _ _ ?_; clear hK K
    exact Wc.ret (Pf.ret [.tmp 4, .tmp 5] [.c (.p (pI (lo q i))), .c (.p (pI (hiU q i)))] rfl rfl (by simp only [resultsD, go_sem, ti3, ti9, ti5, ti4, ti35, hlen]) rfl)
end Go.Proofs.YtafaoldmemcigaaGreat.Ab
namespace Go.Proofs.YtafaoldmemcigaaGreat.Ab
set_option maxHeartbeats 4000000
set_option maxRecDepth 10000
set_option linter.unusedSimpArgs false
set_option linter.unusedVariables false
/-- 143: counted, in its caller's state -/
theorem call143 {s : St} {L : List (Nat × D × Nat × List Pd)} {M : List (Nat × Ob)} {hh : Hst} {K : D → St → Prop} (h : OA s.nx s L M)
    (hK : ∀ s', OA s'.nx s' L ((s.nx, .cells (hh.pd.map .p) false) :: M) → s.nx < s'.nx → K (.v (.c (.fn (.func 156) [] [.ref s.nx 0]))) s') : wpCall E0 (.v (.c (.p (.fnc 143)))) [.v (.agg (hh.pd.map .p))] s K := by
  refine wpCall.opn (fn := Tryz.f143) (by kernel_rfl) (by kernel_rfl) rfl (by kernel_rfl) rfl ?_; simp only [List.map_cons, List.map_nil, List.cons_append, List.nil_append, List.length_cons, List.length_nil, Tryz.ntmps143, List.replicate, Nat.reduceSub, Nat.reduceAdd]
  refine Wc.seq ?_
  refine Wc.reg fun K hK => ?_; simp only [go_sem, ti3, ti9, ti5, ti4, ti35, ti53, ti55, ti83]; refine hK _ _ ?_; clear hK K
  refine Wc.seq ?_
  refine Wc.reg fun K hK => ?_; simp only [go_sem, ti3, ti9, ti5, ti4, ti35, ti53, ti55, ti83]; refine hK _ _ ?_; clear hK K
  refine Wc.ret (Op.ret [.tmp 2] [.c (.fn (.func 156) [] [.ref s.nx 0])] rfl rfl (by simp only [resultsD, go_sem, ti3, ti9, ti5, ti4, ti35, ti53, ti55, ti83]) (hK _ ?_ ?_))
  · have := (h.adv (n := 2)).new (k := s.nx) (o := .cells (hh.pd.map .p) false) (Nat.le_refl _) rfl
    exact (this.mono (b' := s.nx + 2 + 2) (by omega)).adv (n := 2)
  · simp only [St.nx_adv, St.nx_put]; omega
/-- 156: counted$1, the body of an iterator -/
theorem iter156 {r : Nat} {frz : Bool} {h : Hst} (hl : h.bs.length < 2^40) : IterC 156 [.ref r 0] (fun s => s.get r = some (.cells (h.pd.map .p) frz))
    (fun i k a => k = i + 1 ∧ ∃ b n, h.bs[i]? = some b ∧ a = [.agg ((p2 b).map .p), .c (.p (pI n))]) h.bs.length := by
  have hfl : (h.bs.flatMap p2).length = h.bs.length * 2 := flat_len (k := 2) (fun _ => rfl) _
  refine ⟨Tryz.f156, _, by kernel_rfl, rfl, fun l J hJ hJ2 hcap hy s hj Q hQ => ?_⟩
  simp only [List.map_cons, List.map_nil, List.cons_append, List.nil_append, List.length_cons, List.length_nil, Tryz.ntmps156, List.replicate, Nat.reduceSub, Nat.reduceAdd]
  have hg := hcap _ _ hj
  simp only [List.map_cons, List.map_nil] at hg
  refine Wc.seq ?_
  refine Wc.reg fun K hK => ?_; simp only [go_sem, ti3, ti9, ti5, ti4, ti35, ti53, ti55, ti83]; refine hK _ _ ?_; clear hK K
  refine Wc.seq ?_
  refine Wc.reg fun K hK => ?_; simp only [go_sem, ti3, ti9, ti5, ti4, ti35, ti53, ti55, ti83, hg, Int.natCast_zero]; refine hK _ _ ?_; clear hK K
  refine Wc.block (Wc.loop (fun k y => ∃ (i : Nat) (n : Int), k = h.bs.length - i ∧ i ≤ h.bs.length ∧ y.ds = [] ∧ y.e.length = 23 ∧ y.e.getD 0 .junk = .v (.c (.fn (.yield l) [] [])) ∧ y.e.getD 3 .junk = P' (pI n) ∧ y.e.getD 7 .junk = P' (.lst h.bs.length (h.bs.flatMap p2)) ∧ y.e.getD 8 .junk = P' (pI h.bs.length) ∧ y.e.getD 9 .junk = P' (pI i) ∧ J i y.s) ?_ (k := h.bs.length) ?_)
  · clear hj hg s
    rintro k ⟨e, ds, s1⟩ ⟨i, n, rfl, hi, rfl, hlen, h0, h3, h7, h8, h9, hj⟩
    simp only at hlen h0 h3 h7 h8 h9 hj
    refine Wc.seq ?_
    refine Wc.reg fun K hK => ?_; simp only [go_sem, ti3, ti9, ti5, ti4, ti35, ti53, ti55, ti83, hlen, h0, h3, h7, h8, h9]; refine hK _ _ ?_; clear hK K
    refine Wc.seq (Wc.cond (t := decide ((i : Int) < h.bs.length)) (by simp only [go_sem, ti3, ti9, ti5, ti4, ti35, ti53, ti55, ti83, hlen]) (fun hc => ?_) (fun hc => ?_))
    · have hil : i < h.bs.length := by have : (i : Int) < h.bs.length := by simpa using hc
                                       omega
      obtain ⟨b, hb⟩ : ∃ b, h.bs[i]? = some b := ⟨h.bs[i], List.getElem?_eq_getElem hil⟩
      have hix := ixA ti53 rfl ti83 (j := i) (m := h.bs.length) (cs := h.bs.flatMap p2) hil hfl (by decide)
      have hca := rpA (off := i * 2) (drop_flat (f := p2) (k := 2) (fun _ => rfl) hb) (by rw [hfl]; omega)
      refine Wc.skip (Wc.seq (Wc.block (Wc.seq ?_)))
      refine Wc.reg fun K hK => ?_; simp only [go_sem, ti3, ti9, ti5, ti4, ti35, ti53, ti55, ti83, hlen, h0, h3, h7, h8, h9, hix, hca]; refine hK _ _ ?_; clear hK K
      rw [St.put_put]
      refine Wc.seq ?_
      refine Wc.reg fun K hK => ?_; simp only [go_sem, ti3, ti9, ti5, ti4, ti35, ti53, ti55, ti83, hlen, h0, h3, h7, h8, h9]; refine hK _ _ ?_; clear hK K
      refine Wc.seq ?_
      refine Wc.reg fun K hK => ?_; simp only [go_sem, ti3, ti9, ti5, ti4, ti35, ti53, ti55, ti83, hlen, h0, h3, h7, h8, h9]
      have hjs := hJ i _ 5 (hJ i _ 5 (hJ2 i (s1.adv 1) 4 (s1.nx + 3) (.cells [.p (pI b.1), .p (pI b.2)] false) (hJ i _ 1 hj) (by simp only [St.nx_adv]; omega) (by simp only [St.nx_adv]; omega)))
      obtain ⟨m, d, s2, hc1, hd, hj2⟩ := hy i (i + 1) _ _ hjs ⟨rfl, b, IntKind.i64.wrap (n + b.2), hb, rfl⟩
      subst hd
      refine ⟨m, _, s2, hc1, ?_⟩
      simp only [go_sem, ti3, ti9, ti5, ti4, ti35, ti53, ti55, ti83, hlen, h0, h3, h7, h8, h9]; refine hK _ _ ?_; clear hK K
      refine Wc.cond (t := false) (by simp only [go_sem, ti3, ti9, ti5, ti4, ti35, ti53, ti55, ti83, hlen]) (fun hc => by cases hc) (fun _ => Wc.skip ?_)
      refine Wc.reg fun K hK => ?_; simp only [go_sem, ti3, ti9, ti5, ti4, ti35, ti53, ti55, ti83, hlen, h0, h3, h7, h8, h9, i64n i (by omega)]; refine hK _ _ ?_; clear hK K
      exact ⟨h.bs.length - (i + 1), by omega, i + 1, IntKind.i64.wrap (n + b.2), rfl, by omega, rfl, by simp only [go_sem, ti3, ti9, ti5, ti4, ti35, ti53, ti55, ti83, hlen], by simp only [go_sem, ti3, ti9, ti5, ti4, ti35, ti53, ti55, ti83, hlen, h0], by simp only [go_sem, ti3, ti9, ti5, ti4, ti35, ti53, ti55, ti83, hlen], by simp only [go_sem, ti3, ti9, ti5, ti4, ti35, ti53, ti55, ti83, hlen, h7], by simp only [go_sem, ti3, ti9, ti5, ti4, ti35, ti53, ti55, ti83, hlen, h8], by simp only [go_sem, ti3, ti9, ti5, ti4, ti35, ti53, ti55, ti83, hlen], hJ _ _ _ hj2⟩
    · have hil : i = h.bs.length := by have : ¬ (i : Int) < h.bs.length := by simpa using hc
                                       omega
      refine Wc.exit ?_
      subst hil
      exact bodyQ.normal (vs := []) rfl rfl (hQ _ _ (hJ _ _ _ hj))
  · exact ⟨0, 0, rfl, by omega, rfl, rfl, rfl, rfl, rfl, rfl, rfl, hJ _ _ _ (hJ _ _ _ hj)⟩
/-- 144: possible -/
theorem pf144 (h : Hst) (b : I2) (q i : Nat) (hq : q ≤ 8) (hp : h.p = q) (hbi : b.1 = i) (hb : i ≤ (41 - q) * 2 ^ q) : Pf E0 144 [.agg (h.pd.map .p), .agg ((p2 b).map .p)] (.tup [.c (.p (pI (max (lo q i : Int) h.mn))), .c (.p (pI (min (hi q i : Int) h.mx)))]) := by
  refine Pf.body (fn := Tryz.f144) (by kernel_rfl) rfl ?_; simp only [List.map_cons, List.map_nil, List.cons_append, List.nil_append, List.length_cons, List.length_nil, Tryz.ntmps144, List.replicate, Nat.reduceSub, Nat.reduceAdd]
  refine Wc.seq ?_
  refine Wc.reg fun K hK => ?_; simp only [go_sem, ti3, ti9, ti5, ti4, ti35, ti53, ti55, ti83]; refine hK _ _ ?_; clear hK K
  refine Wc.seq ?_
  refine Wc.reg fun K hK => ?_; simp only [go_sem, ti3, ti9, ti5, ti4, ti35, ti53, ti55, ti83, hp, hbi]
  refine wpCall.pf (pf157 q i hq hb) (by kernel_rfl) (by kernel_rfl) rfl rfl ?_
  simp only [go_sem, ti3, ti9, ti5, ti4, ti35, ti53, ti55, ti83]; refine hK _ _ ?_; clear hK K
  refine Wc.seq ?_
  refine Wc.regD fun K hK => ?_; simp only [go_sem, ti3, ti9, ti5, ti4, ti35, ti53, ti55, ti83, max2, min2]; refine hK _ _ ?_; clear hK K
  exact Wc.ret (Pf.ret [.tmp 4, .tmp 5] [.c (.p (pI (max (lo q i : Int) h.mn))), .c (.p (pI (min (hi q i : Int) h.mx)))] rfl rfl (by simp only [resultsD, go_sem, ti3, ti9, ti5, ti4, ti35, ti53, ti55, ti83]) rfl)
end Go.Proofs.YtafaoldmemcigaaGreat.Ab
