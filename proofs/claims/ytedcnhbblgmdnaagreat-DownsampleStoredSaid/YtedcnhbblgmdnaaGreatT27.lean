/- A part of the proof: an evaluator of the code, its contracts, the law. No condition. -/
import Derived.Test.YtedcnhbblgmdnaaGreatT17
import Derived.Test.YtedcnhbblgmdnaaGreatT24
namespace Go.Proofs.YtedcnhbblgmdnaaGreat.Ab
set_option maxHeartbeats 8000000
set_option maxRecDepth 10000
set_option linter.unusedSimpArgs false
set_option linter.unusedVariables false
theorem tmod2 (u : Nat) : (u : Int).tmod 2 = ((u % 2 : Nat) : Int) := rfl
theorem tdiv2 (u : Nat) : (u : Int).tdiv 2 = ((u / 2 : Nat) : Int) := rfl
/-- 153: unfolded -/
theorem pf295 (u : Nat) (h : u < 2^63) : Pf E0 295 [.c (.p (.int .u64 u))] (P' (pI (unf u))) := by
  have e1 : IntKind.u64.wrap ((u / 2 : Nat) : Int) = ((u / 2 : Nat) : Int) := by rw [wu64]; omega
  have e2 : IntKind.i64.wrap ((u / 2 : Nat) : Int) = ((u / 2 : Nat) : Int) := by rw [wi64]; omega
  have e3 : IntKind.i64.wrap (IntKind.i64.wrap (0 - ((u / 2 : Nat) : Int)) - 1) = -((u / 2 : Nat) : Int) - 1 := by rw [wi64, wi64]; omega
  unfold unf
  refine Pf.body (fn := Tryz.f295) (by kernel_rfl) rfl ?_; simp only [List.map_cons, List.map_nil, List.cons_append, List.nil_append, List.length_cons, List.length_nil, Tryz.ntmps295, List.replicate, Nat.reduceSub, Nat.reduceAdd]
  refine Wc.seq ?_
  refine Wc.reg fun K hK => ?_; simp only [go_sem, ti3, ti216, ti9, ti5, ti4, ti32]; refine hK _ _ ?_; clear hK K
  refine Wc.seq (Wc.seq ?_)
  refine Wc.reg fun K hK => ?_; simp only [go_sem, ti3, ti216, ti9, ti5, ti4, ti32, tmod2]; refine hK _ _ ?_; clear hK K
  refine Wc.cond (t := (((u % 2 : Nat) : Int) == 0)) (by simp only [go_sem, ti3, ti216, ti9, ti5, ti4, ti32]) (fun hc => ?_) (fun hc => ?_)
  · have hu : u % 2 = 0 := by have : ((u % 2 : Nat) : Int) = 0 := by simpa using hc
                              omega
    rw [if_pos hu]
    refine Wc.seq ?_
    refine Wc.reg fun K hK => ?_; simp only [go_sem, ti3, ti216, ti9, ti5, ti4, ti32, tdiv2, e1, e2]; refine hK _ _ ?_; clear hK K
    exact Wc.ret (Pf.ret [.tmp 2] [.c (.p (pI ((u / 2 : Nat) : Int)))] rfl rfl (by simp only [resultsD, go_sem, ti3, ti216, ti9, ti5, ti4, ti32]) rfl)
  · have hu : ¬ u % 2 = 0 := by have : ¬ ((u % 2 : Nat) : Int) = 0 := by simpa using hc
                                omega
    rw [if_neg hu]
    refine Wc.skip (Wc.seq ?_)
    refine Wc.reg fun K hK => ?_; simp only [go_sem, ti3, ti216, ti9, ti5, ti4, ti32, tdiv2, e1, e2, e3]; refine hK _ _ ?_; clear hK K
    exact Wc.ret (Pf.ret [.tmp 2] [.c (.p (pI (-((u / 2 : Nat) : Int) - 1)))] rfl rfl (by simp only [resultsD, go_sem, ti3, ti216, ti9, ti5, ti4, ti32]) rfl)
/-- 149: firstBytes$1, the body of an iterator -/
theorem iter281 {r : Nat} {frz : Bool} {t : List UInt8} : IterG 281 [.ref r 0] (fun s => s.get r = some (.cells [.p (.str t)] frz))
    (fun i k a => k = i + 1 ∧ i < 9 ∧ ∃ b, t[i]? = some b ∧ a = [.c (.p (pI i)), .c (.p (.int .u8 b.toNat))])
    (fun i => i = t.length ∨ i = 9 ∨ ∃ j b, i = j + 1 ∧ t[j]? = some b ∧ b.toNat < 128) := by
  refine ⟨Tryz.f281, _, by kernel_rfl, rfl, fun l J Z hJ hJ2 hZ hcap hy s h0 Q hQ hQZ => ?_⟩
  simp only [List.map_cons, List.map_nil, List.cons_append, List.nil_append, List.length_cons, List.length_nil, Tryz.ntmps281, List.replicate, Nat.reduceSub, Nat.reduceAdd]
  refine Wc.seq ?_
  refine Wc.reg fun K hK => ?_; simp only [go_sem, ti3, ti216, ti9, ti5, ti4, ti32]; refine hK _ _ ?_; clear hK K
  refine Wc.block (Wc.loop (fun k y => ∃ (i : Nat), k = 9 - i ∧ i ≤ 9 ∧ i ≤ t.length ∧ y.ds = [] ∧ Fs y.e 27 [(0, .v (.c (.fn (.yield l) [] []))), (1, .v (.c (.ref r 0))), (3, P' (pI i))] ∧ J i y.s) ?_ (k := 9) ?_)
  · rintro k ⟨e, ds, s1⟩ ⟨i, rfl, hi9, hil, rfl, hF, hj⟩
    simp only [Fs] at hF hj
    have hg := hcap _ _ hj
    refine Wc.seq (Wc.seq ?_)
    by_cases hlt : i < t.length
    · have d1 : ((i : Int) < (t.length : Int)) = True := by simp; omega
      refine Wc.reg fun K hK => ?_; simp only [go_sem, ti3, ti216, ti9, ti5, ti4, ti32, hF, hg, d1]; refine hK _ _ ?_; clear hK K
      refine Wc.cond (t := decide ((i : Int) < 9)) (by simp only [go_sem, ti3, ti216, ti9, ti5, ti4, ti32, hF]) (fun hc => ?_) (fun hc => ?_)
      · have h9 : i < 9 := by have : (i : Int) < 9 := by simpa using hc
                              omega
        obtain ⟨b, hb⟩ : ∃ b, t[i]? = some b := ⟨t[i], List.getElem?_eq_getElem hlt⟩
        refine Wc.skip (Wc.seq (Wc.block (Wc.seq ?_)))
        refine Wc.reg fun K hK => ?_; simp only [go_sem, ti3, ti216, ti9, ti5, ti4, ti32, hF, hg, hb, pdOfByte]
        obtain ⟨n, d, s2, hc1, hd⟩ := hy i (i + 1) _ ((s1.adv 8).adv 13) (hJ _ _ _ (hJ _ _ _ hj)) ⟨rfl, h9, b, hb, rfl⟩
        refine ⟨n, _, s2, hc1, ?_⟩
        rcases hd with ⟨rfl, hj2⟩ | ⟨rfl, hz⟩
        · have hg2 := hcap _ _ hj2
          simp only [go_sem, ti3, ti216, ti9, ti5, ti4, ti32, hF, hg2, hb, pdOfByte]; refine hK _ _ ?_; clear hK K
          refine Wc.cond (t := decide ((b.toNat : Int) < 128)) (by simp only [go_sem, ti3, ti216, ti9, ti5, ti4, ti32, hF]) (fun hc => ?_) (fun hc => ?_)
          · have hb8 : b.toNat < 128 := by have : (b.toNat : Int) < 128 := by simpa using hc
                                           omega
            exact Wc.ret (show bodyQ E0 Tryz.f281 Q .ret _ from bodyQ.ret (vs := []) rfl rfl (hQ _ _ (i + 1) (.inr (.inr ⟨i, b, rfl, hb, hb8⟩)) hj2))
          · refine Wc.skip ?_
            refine Wc.reg fun K hK => ?_; simp only [go_sem, ti3, ti216, ti9, ti5, ti4, ti32, hF, i64n i (by omega)]; refine hK _ _ ?_; clear hK K
            exact ⟨9 - (i + 1), by omega, i + 1, rfl, by omega, by omega, rfl, by simp only [Fs, Int.natCast_zero, go_sem, ti3, ti216, ti9, ti5, ti4, ti32, hF], hJ _ _ _ hj2⟩
        · simp only [go_sem, ti3, ti216, ti9, ti5, ti4, ti32, hF]; refine hK _ _ ?_; clear hK K
          refine Wc.cond (t := true) (by simp only [go_sem, ti3, ti216, ti9, ti5, ti4, ti32, hF]) (fun hc => ?_) (fun hc => by cases hc)
          exact Wc.ret (show bodyQ E0 Tryz.f281 Q .ret _ from bodyQ.ret (vs := []) rfl rfl (hQZ _ _ hz))
      · have h9 : i = 9 := by have : ¬ (i : Int) < 9 := by simpa using hc
                              omega
        exact Wc.exit (bodyQ.normal (vs := []) rfl rfl (hQ _ _ i (.inr (.inl h9)) (hJ _ _ _ hj)))
    · have d1 : ((i : Int) < (t.length : Int)) = False := by simp; omega
      refine Wc.reg fun K hK => ?_; simp only [go_sem, ti3, ti216, ti9, ti5, ti4, ti32, hF, hg, d1]; refine hK _ _ ?_; clear hK K
      refine Wc.cond (t := false) (by simp only [go_sem, ti3, ti216, ti9, ti5, ti4, ti32, hF]) (fun hc => by cases hc) (fun _ => ?_)
      exact Wc.exit (bodyQ.normal (vs := []) rfl rfl (hQ _ _ i (.inl (by omega)) (hJ _ _ _ hj)))
  · exact ⟨0, rfl, by omega, by omega, rfl, by simp only [Fs, Int.natCast_zero, go_sem, ti3, ti216, ti9, ti5, ti4, ti32], hJ _ _ _ h0⟩
/-- 135: firstBytes, in its caller's state -/
theorem call264 {s : St} {L : List (Nat × D × Nat × List Pd)} {M : List (Nat × Ob)} {t : List UInt8} {K : D → St → Prop} (h : OA s.nx s L M)
    (hK : ∀ s', OA s'.nx s' L ((s.nx, .cells [.p (.str t)] false) :: M) → s.nx < s'.nx → K (.v (.c (.fn (.func 281) [] [.ref s.nx 0]))) s') : wpCall E0 (.v (.c (.p (.fnc 264)))) [.v (.c (.p (.str t)))] s K := by
  refine wpCall.opn (fn := Tryz.f264) (by kernel_rfl) (by kernel_rfl) rfl (by kernel_rfl) rfl ?_; simp only [List.map_cons, List.map_nil, List.cons_append, List.nil_append, List.length_cons, List.length_nil, Tryz.ntmps264, List.replicate, Nat.reduceSub, Nat.reduceAdd]
  refine Wc.seq ?_
  refine Wc.reg fun K hK => ?_; simp only [go_sem, ti3, ti216, ti9, ti5, ti4, ti32]; refine hK _ _ ?_; clear hK K
  refine Wc.seq ?_
  refine Wc.reg fun K hK => ?_; simp only [go_sem, ti3, ti216, ti9, ti5, ti4, ti32]; refine hK _ _ ?_; clear hK K
  refine Wc.ret (Op.ret [.tmp 2] [.c (.fn (.func 281) [] [.ref s.nx 0])] rfl rfl (by simp only [resultsD, go_sem, ti3, ti216, ti9, ti5, ti4, ti32]) (hK _ ?_ ?_))
  · exact by (try simp only [St.nx_put, St.nx_adv]); repeat (first | exact OA.mono h (by omega) | refine OA.newB ?_ (by omega) rfl | refine OA.advB ?_)
  · simp only [St.nx_adv, St.nx_put]; omega
theorem and127b : ∀ n : Nat, n < 256 → (BitVec.ofInt 8 (n : Int) &&& BitVec.ofInt 8 127).toNat = n % 128 := by decide
theorem and127u8 (n : Nat) (h : n < 256) : andI .u8 (n : Int) 127 = ((n % 128 : Nat) : Int) := by
  unfold andI
  show IntKind.u8.wrap ((BitVec.ofInt 8 (n : Int) &&& BitVec.ofInt 8 127).toNat : Int) = _
  rw [and127b n h, wu8]; omega
theorem shl7 (x i : Nat) (hx : x < 128) (hi : i ≤ 8) : shlI .u64 (x : Int) (7 * i : Nat) = ((x * 2 ^ (7 * i) : Nat) : Int) := by
  unfold shlI
  have e : min ((7 * i : Nat) : Int).toNat (IntKind.u64.bits) = 7 * i := by
    show min ((7 * i : Nat) : Int).toNat 64 = 7 * i
    rw [Int.toNat_natCast]; omega
  rw [e, wu64]
  have h1 : (x : Int) * 2 ^ (7 * i) = ((x * 2 ^ (7 * i) : Nat) : Int) := by rw [Int.natCast_mul, Int.natCast_pow]; rfl
  have h2 : x * 2 ^ (7 * i) < 128 * 2 ^ (7 * i) := Nat.mul_lt_mul_of_pos_right hx (Nat.pow_pos (by omega))
  have h3 : 128 * 2 ^ (7 * i) = 2 ^ (7 * (i + 1)) := by rw [Nat.mul_add, Nat.pow_add, Nat.mul_comm]
  have h4 : 2 ^ (7 * (i + 1)) ≤ 2 ^ 63 := Nat.pow_le_pow_right (by omega) (by omega)
  rw [h1]
  omega
theorem orSum (a x k : Nat) (ha : a < 2 ^ k) (hs : a + x * 2 ^ k < 2 ^ 64) : orI .u64 (a : Int) ((x * 2 ^ k : Nat) : Int) = ((a + x * 2 ^ k : Nat) : Int) := by
  unfold orI
  show IntKind.u64.wrap ((BitVec.ofInt 64 (a : Int) ||| BitVec.ofInt 64 ((x * 2 ^ k : Nat) : Int)).toNat : Int) = _
  have h1 : (BitVec.ofInt 64 (a : Int)).toNat = a := by simp; omega
  have h2 : (BitVec.ofInt 64 ((x * 2 ^ k : Nat) : Int)).toNat = x * 2 ^ k := by
    rw [BitVec.toNat_ofInt]
    omega
  rw [BitVec.toNat_or, h1, h2]
  have h3 : a ||| x * 2 ^ k = a + x * 2 ^ k := by
    rw [Nat.or_comm, Nat.mul_comm x, ← Nat.two_pow_add_eq_or_of_lt ha, Nat.add_comm]
  rw [h3, wu64]
  omega
end Go.Proofs.YtedcnhbblgmdnaaGreat.Ab
namespace Go.Proofs.YtedcnhbblgmdnaaGreat.Ab
set_option maxHeartbeats 8000000
set_option maxRecDepth 10000
set_option linter.unusedSimpArgs false
set_option linter.unusedVariables false
/-- 116: read -/
theorem pf239 (t : List UInt8) : Pf E0 239 [.c (.p (.str t))] (.tup [.c (.p (.int .u64 (rdB 0 0 t).1)), .c (.p (pI (rdB 0 0 t).2.1)), .c (.p (.int .i64 (rdB 0 0 t).2.2))]) := by
  refine Pf.body (fn := Tryz.f239) (by kernel_rfl) rfl ?_; simp only [List.map_cons, List.map_nil, List.cons_append, List.nil_append, List.length_cons, List.length_nil, Tryz.ntmps239, List.replicate, Nat.reduceSub, Nat.reduceAdd]
  refine Wc.seq ?_
  refine Wc.reg fun K hK => ?_; simp only [go_sem, ti3, ti216, ti9, ti5, ti4, ti32]; refine hK _ _ ?_; clear hK K
  refine Wc.seqA (fun y => y.ds = [] ∧ Fs y.e 39 [(0, P' (.str t)), (2, .v (.c (.ref 0 0))), (3, .v (.c (.ref 1 0))), (4, .v (.c (.ref 2 0))), (5, .v (.c (.ref 3 0)))] ∧ OA y.s.nx y.s [] [(3, .cells [.p (.int .u64 0)] false), (2, .cells [.p (.int .i64 0)] false), (1, .cells [.p (.int .i64 0)] false), (0, .cells [.p (.int .u64 0)] false)]) ?_ ?_
  · refine Wc.reg fun K hK => ?_; simp only [go_sem, ti3, ti216, ti9, ti5, ti4, ti32]; refine hK _ _ ?_; clear hK K
    exact ⟨rfl, rfl, by simp only [Fs, Int.natCast_zero, go_sem, ti3, ti216, ti9, ti5, ti4, ti32], by (try simp only [St.nx_put, St.nx_adv]); repeat (first | exact OA.mono s00_oa (by omega) | refine OA.newB ?_ (by omega) rfl | refine OA.advB ?_)⟩
  rintro ⟨e, ds, s1⟩ ⟨rfl, hF, ho⟩
  simp only [Fs] at hF ho
  refine Wc.seq (Wc.seq ?_)
  refine Wc.reg fun K hK => ?_; simp only [go_sem, ti3, ti216, ti9, ti5, ti4, ti32, hF]
  refine call264 (ho.adv.mono (by simp only [St.nx_adv]; omega)) fun s2 ho2 hnx => ?_
  simp only [St.nx_adv] at ho2 hnx
  simp only [go_sem, ti3, ti216, ti9, ti5, ti4, ti32, hF]; refine hK _ _ ?_; clear hK K
  refine Wc.block ?_
  have hk0 : (s2.nx + 1 = 0) = False := by simp
  have hk1 : (s2.nx + 1 = 1) = False := by simp; omega
  have hk2 : (s2.nx + 1 = 2) = False := by simp; omega
  refine Wc.iterG (iter281 (r := s1.nx + 2) (frz := false) (t := t))
    (fun i L M => ∃ acc : Nat, L = [] ∧ M = [(s1.nx + 2, .cells [.p (.str t)] false), (3, .cells [.p (.int .u64 acc)] false), (2, .cells [.p (.int .i64 0)] false), (1, .cells [.p (.int .i64 0)] false), (0, .cells [.p (.int .u64 0)] false)] ∧ i ≤ 8 ∧ acc < 2 ^ (7 * i) ∧ rdB 0 0 t = rdB i acc (t.drop i) ∧ ∀ j b, j < i → t[j]? = some b → 128 ≤ b.toNat)
    (fun ex L M => ex = .ret ∧ L = [] ∧ ∃ m, M = [(s1.nx + 2, .cells [.p (.str t)] false), (3, m), (2, .cells [.p (.int .i64 (rdB 0 0 t).2.2)] false), (1, .cells [.p (pI (rdB 0 0 t).2.1)] false), (0, .cells [.p (.int .u64 (rdB 0 0 t).1)] false)])
    (by simp only [go_sem, ti3, ti216, ti9, ti5, ti4, ti32, hF]) ho2 ⟨0, rfl, rfl, by omega, by decide, rfl, fun j b hj => by omega⟩ ?_ ?_ ?_ ?_ ?_
  · rintro i L M s ⟨acc, rfl, rfl, _⟩ hM
    exact hM (_, _) (List.mem_cons_self ..)
  · rintro i k a ⟨_, _, b, _, rfl⟩; rfl
  · rintro i k aa lp s L M ⟨rfl, hi9, b, hb, rfl⟩ ⟨acc, rfl, rfl, hi8, hacc, hrd, hall⟩ hos
    have hb8 := b.toNat_lt
    have hlt := (List.getElem?_eq_some_iff.1 hb).1
    have hst : rdB i acc (t.drop i) = if (128 ≤ b.toNat ∧ i = 8) ∨ (b.toNat = 0 ∧ 0 < i) then (0, 0, 12) else if b.toNat < 128 then (acc + b.toNat * 2 ^ (7 * i), i + 1, 0) else rdB (i + 1) (acc + (b.toNat - 128) * 2 ^ (7 * i)) (t.drop (i + 1)) := by
      rw [List.drop_eq_getElem_cons hlt, (List.getElem?_eq_some_iff.1 hb).2]; rfl
    rw [hst] at hrd
    clear hst
    simp only [setAll, List.zip_cons_cons, List.zip_nil_right]
    refine Wc.seq ?_
    refine Wc.reg fun K hK => ?_; simp only [go_sem, ti3, ti216, ti9, ti5, ti4, ti32, hF]; refine hK _ _ ?_; clear hK K
    refine Wc.reg fun K hK => ?_; simp only [go_sem, ti3, ti216, ti9, ti5, ti4, ti32, hF]; refine hK _ _ ?_; clear hK K
    refine ⟨rfl, _, _, (hos.mono (by simp only [St.nx_adv]; omega)).adv.adv, fun lq s' hos' => ?_⟩
    refine Wc.block ?_
    have o3 := hos'.at_ (3, .cells [.p (.int .u64 acc)] false) (by simp)
    have o2 := hos'.at_ (2, .cells [.p (.int .i64 0)] false) (by simp)
    have o1 := hos'.at_ (1, .cells [.p (.int .i64 0)] false) (by simp)
    have o0 := hos'.at_ (0, .cells [.p (.int .u64 0)] false) (by simp)
    simp only at o0 o1 o2 o3
    -- what is laid at a return
    have lay : ∀ (x : St) (n : Nat) (k m : Int) (ob : Ob), OA x.nx x [] [(s2.nx, .loop lq), (s2.nx + 1, .defr), (s1.nx + 2, .cells [.p (.str t)] false), (3, ob), (2, .cells [.p (.int .i64 0)] false), (1, .cells [.p (.int .i64 0)] false), (0, .cells [.p (.int .u64 0)] false)] →
        OA (((x.put 0 (.cells [.p (.int .u64 n)] false)).put 1 (.cells [.p (pI k)] false)).put 2 (.cells [.p (.int .i64 m)] false)).nx (((x.put 0 (.cells [.p (.int .u64 n)] false)).put 1 (.cells [.p (pI k)] false)).put 2 (.cells [.p (.int .i64 m)] false)) []
          [(s2.nx, .loop lq), (s2.nx + 1, .defr), (s1.nx + 2, .cells [.p (.str t)] false), (3, ob), (2, .cells [.p (.int .i64 m)] false), (1, .cells [.p (pI k)] false), (0, .cells [.p (.int .u64 n)] false)] := fun x n k m ob h => by
      have h1 := OA.set (M1 := [(s2.nx, .loop lq), (s2.nx + 1, .defr), (s1.nx + 2, .cells [.p (.str t)] false), (3, ob), (2, .cells [.p (.int .i64 0)] false), (1, .cells [.p (.int .i64 0)] false)]) (M2 := []) (o' := .cells [.p (.int .u64 n)] false) h rfl
      have h2 := OA.set (M1 := [(s2.nx, .loop lq), (s2.nx + 1, .defr), (s1.nx + 2, .cells [.p (.str t)] false), (3, ob), (2, .cells [.p (.int .i64 0)] false)]) (M2 := [(0, .cells [.p (.int .u64 n)] false)]) (o' := .cells [.p (pI k)] false) h1 rfl
      exact OA.set (M1 := [(s2.nx, .loop lq), (s2.nx + 1, .defr), (s1.nx + 2, .cells [.p (.str t)] false), (3, ob)]) (M2 := [(1, .cells [.p (pI k)] false), (0, .cells [.p (.int .u64 n)] false)]) (o' := .cells [.p (.int .i64 m)] false) h2 rfl
    refine Wc.seqR (fun y => ¬((128 ≤ b.toNat ∧ i = 8) ∨ (b.toNat = 0 ∧ 0 < i)) ∧ y.ds = [] ∧ Fs y.e 39 [(2, .v (.c (.ref 0 0))), (3, .v (.c (.ref 1 0))), (4, .v (.c (.ref 2 0))), (5, .v (.c (.ref 3 0))), (6, P' (pI i)), (7, P' (.int .u8 b.toNat))] ∧ ∃ n, y.s = s'.adv n) ?_ ?_
    · refine Wc.seq ?_
      by_cases hA : (128 ≤ b.toNat ∧ i = 8) ∨ (b.toNat = 0 ∧ 0 < i)
      · rw [if_pos hA] at hrd
        rcases hA with ⟨h1, h2⟩ | ⟨h1, h2⟩
        · have d1 : ((128 : Int) ≤ b.toNat) = True := by simp; omega
          have d2 : ((i : Int) == 8) = true := by subst h2; rfl
          refine Wc.reg fun K hK => ?_; simp only [go_sem, ti3, ti216, ti9, ti5, ti4, ti32, hF, d1, d2]; refine hK _ _ ?_; clear hK K
          refine Wc.cond (t := true) (by simp only [go_sem, ti3, ti216, ti9, ti5, ti4, ti32, hF]) (fun _ => ?_) (fun hc => by cases hc)
          refine Wc.seq ?_
          refine Wc.reg fun K hK => ?_; simp only [go_sem, ti3, ti216, ti9, ti5, ti4, ti32, hF, o0, o1, o2]; refine hK _ _ ?_; clear hK K
          refine Wc.ret ⟨[], _, lay _ 0 0 12 (.cells [.p (.int .u64 acc)] false) ?_, rfl, rfl, _, by rw [hrd]; rfl⟩
          exact (hos'.mono (by simp only [St.nx_adv]; omega)).adv.adv
        · have d1 : ((128 : Int) ≤ b.toNat) = False := by simp; omega
          have d2 : ((b.toNat : Int) == 0) = true := by rw [h1]; rfl
          have d3 : ((0 : Int) < i) = True := by simp; omega
          refine Wc.reg fun K hK => ?_; simp only [go_sem, ti3, ti216, ti9, ti5, ti4, ti32, hF, d1, d2, d3]; refine hK _ _ ?_; clear hK K
          refine Wc.cond (t := true) (by simp only [go_sem, ti3, ti216, ti9, ti5, ti4, ti32, hF]) (fun _ => ?_) (fun hc => by cases hc)
          refine Wc.seq ?_
          refine Wc.reg fun K hK => ?_; simp only [go_sem, ti3, ti216, ti9, ti5, ti4, ti32, hF, o0, o1, o2]; refine hK _ _ ?_; clear hK K
          refine Wc.ret ⟨[], _, lay _ 0 0 12 (.cells [.p (.int .u64 acc)] false) ?_, rfl, rfl, _, by rw [hrd]; rfl⟩
          exact (hos'.mono (by simp only [St.nx_adv]; omega)).adv.adv
      · by_cases h1 : 128 ≤ b.toNat
        · have d1 : ((128 : Int) ≤ b.toNat) = True := by simp; omega
          have d2 : ((i : Int) == 8) = false := by simp; omega
          have d3 : ((b.toNat : Int) == 0) = false := by simp; omega
          refine Wc.reg fun K hK => ?_; simp only [go_sem, ti3, ti216, ti9, ti5, ti4, ti32, hF, d1, d2, d3]; refine hK _ _ ?_; clear hK K
          refine Wc.cond (t := false) (by simp only [go_sem, ti3, ti216, ti9, ti5, ti4, ti32, hF]) (fun hc => by cases hc) (fun _ => Wc.skip ?_)
          exact ⟨hA, rfl, by simp only [Fs, Int.natCast_zero, go_sem, ti3, ti216, ti9, ti5, ti4, ti32, hF], _, rfl⟩
        · have d1 : ((128 : Int) ≤ b.toNat) = False := by simp; omega
          by_cases h2 : b.toNat = 0
          · have d2 : ((b.toNat : Int) == 0) = true := by rw [h2]; rfl
            have d3 : ((0 : Int) < i) = False := by simp; omega
            refine Wc.reg fun K hK => ?_; simp only [go_sem, ti3, ti216, ti9, ti5, ti4, ti32, hF, d1, d2, d3]; refine hK _ _ ?_; clear hK K
            refine Wc.cond (t := false) (by simp only [go_sem, ti3, ti216, ti9, ti5, ti4, ti32, hF]) (fun hc => by cases hc) (fun _ => Wc.skip ?_)
            exact ⟨hA, rfl, by simp only [Fs, Int.natCast_zero, go_sem, ti3, ti216, ti9, ti5, ti4, ti32, hF], _, rfl⟩
          · have d2 : ((b.toNat : Int) == 0) = false := by simp; omega
            refine Wc.reg fun K hK => ?_; simp only [go_sem, ti3, ti216, ti9, ti5, ti4, ti32, hF, d1, d2]; refine hK _ _ ?_; clear hK K
            refine Wc.cond (t := false) (by simp only [go_sem, ti3, ti216, ti9, ti5, ti4, ti32, hF]) (fun hc => by cases hc) (fun _ => Wc.skip ?_)
            exact ⟨hA, rfl, by simp only [Fs, Int.natCast_zero, go_sem, ti3, ti216, ti9, ti5, ti4, ti32, hF], _, rfl⟩
    · clear hF
      rintro ⟨e, ds, s3⟩ ⟨hA, rfl, hF, n3, rfl⟩
      simp only [Fs] at hF
      rw [if_neg hA] at hrd
      have hm : b.toNat % 128 < 128 := Nat.mod_lt _ (by omega)
      have hp : 2 ^ (7 * (i + 1)) = 128 * 2 ^ (7 * i) := by rw [Nat.mul_add, Nat.pow_add, Nat.mul_comm]
      have hp2 : 2 ^ (7 * (i + 1)) ≤ 2 ^ 63 := Nat.pow_le_pow_right (by omega) (by omega)
      have hp3 : (b.toNat % 128 + 1) * 2 ^ (7 * i) ≤ 128 * 2 ^ (7 * i) := Nat.mul_le_mul_right _ (by omega)
      rw [Nat.add_mul] at hp3
      have w1 : IntKind.u64.wrap ((b.toNat % 128 : Nat) : Int) = ((b.toNat % 128 : Nat) : Int) := by rw [wu64]; omega
      have w2 : IntKind.i64.wrap (7 * (i : Int)) = ((7 * i : Nat) : Int) := by rw [wi64]; omega
      have w3 : (((7 * i : Nat) : Int) < 0) = False := by simp; omega
      have w4 := shl7 (b.toNat % 128) i hm hi8
      have w5 := orSum acc (b.toNat % 128) (7 * i) hacc (by omega)
      generalize hacc2 : acc + b.toNat % 128 * 2 ^ (7 * i) = acc2 at w5
      refine Wc.seq ?_
      refine Wc.regT fun K hK => ?_; simp only [go_sem, ti3, ti216, ti9, ti5, ti4, ti32, hF, o3, and127u8 b.toNat (by omega), w1, w2, w3, w4, w5]; refine ⟨by rfl, hK _ _ ?_⟩; clear hK K
      refine Wc.seq ?_
      refine Wc.reg fun K hK => ?_; simp only [go_sem, ti3, ti216, ti9, ti5, ti4, ti32, hF]; refine hK _ _ ?_; clear hK K
      have hset := OA.set (M1 := [(s2.nx, .loop lq), (s2.nx + 1, .defr), (s1.nx + 2, .cells [.p (.str t)] false)]) (k := 3) (o' := .cells [.p (.int .u64 acc2)] false) (hos'.adv (n := n3) |>.adv (n := 9)) rfl
      refine Wc.cond (t := decide ((b.toNat : Int) < 128)) (by simp only [go_sem, ti3, ti216, ti9, ti5, ti4, ti32, hF]) (fun hc => ?_) (fun hc => ?_)
      · have hb1 : b.toNat < 128 := by have : (b.toNat : Int) < 128 := by simpa using hc
                                       omega
        rw [if_pos hb1] at hrd
        have hbm : b.toNat % 128 = b.toNat := Nat.mod_eq_of_lt hb1
        rw [hbm] at hacc2
        rw [hacc2] at hrd
        refine Wc.seq ?_
        refine Wc.reg fun K hK => ?_; simp only [go_sem, ti3, ti216, ti9, ti5, ti4, ti32, hF, o0, o1, o2, i64n i (by omega)]; refine hK _ _ ?_; clear hK K
        refine Wc.ret ⟨[], _, lay _ acc2 ((i + 1 : Nat) : Int) 0 (.cells [.p (.int .u64 acc2)] false) ?_, rfl, rfl, _, by rw [hrd]⟩
        exact (hset.mono (by simp only [St.nx_put, St.nx_adv]; omega)).adv.adv
      · have hb1 : ¬ b.toNat < 128 := by have : ¬ (b.toNat : Int) < 128 := by simpa using hc
                                         omega
        rw [if_neg hb1] at hrd
        have hbm : b.toNat - 128 = b.toNat % 128 := by omega
        rw [hbm, hacc2] at hrd
        refine Wc.skip ⟨[], _, (hset.mono (by simp only [St.nx_put, St.nx_adv]; omega)).adv, acc2, rfl, rfl, by omega, by omega, hrd, fun j c hj hc => ?_⟩
        rcases Nat.lt_or_ge j i with h | h
        · exact hall j c h hc
        · have : j = i := by omega
          subst this
          rw [hb] at hc; cases hc; omega
  · rintro L M s' i hlast hos ⟨acc, rfl, rfl, hi8, hacc, hrd, hall⟩
    have hil : i = t.length := by
      rcases hlast with h | h | ⟨j, b, rfl, hb, hlt⟩
      · exact h
      · omega
      · have := hall j b (by omega) hb; omega
    subst hil
    rw [List.drop_length] at hrd
    have o2 := hos.at_ (2, .cells [.p (.int .i64 0)] false) (by simp)
    have o1 := hos.at_ (1, .cells [.p (.int .i64 0)] false) (by simp)
    have o0 := hos.at_ (0, .cells [.p (.int .u64 0)] false) (by simp)
    have gd := hos.at_ (s2.nx + 1, .defr) (by simp)
    simp only at o0 o1 o2 gd
    refine Wc.seq ?_
    refine Wc.reg fun K hK => ?_; simp only [go_sem, ti3, ti216, ti9, ti5, ti4, ti32, hF, o0, o1, o2]; refine hK _ _ ?_; clear hK K
    have hk0' : (0 = s2.nx + 1) = False := by simp
    have hk1' : (1 = s2.nx + 1) = False := by simp; omega
    have hk2' : (2 = s2.nx + 1) = False := by simp; omega
    rw [hrd]
    exact Wc.ret (Pf.ret1 [.cell 2 216, .cell 3 3, .cell 4 32] [.c (.p (.int .u64 0)), .c (.p (pI 0)), .c (.p (.int .i64 11))] rfl (by simp only [go_sem, ti3, ti216, ti9, ti5, ti4, ti32, hk0', hk1', hk2', gd]) rfl (by simp only [resultsD, go_sem, ti3, ti216, ti9, ti5, ti4, ti32, hF, o0, o1, o2, hk0, hk1, hk2]) rfl)
  · rintro ex L M s' hne hos ⟨rfl, rfl, m, rfl⟩
    have g2 := hos.at_ (2, .cells [.p (.int .i64 (rdB 0 0 t).2.2)] false) (by simp)
    have g1 := hos.at_ (1, .cells [.p (pI (rdB 0 0 t).2.1)] false) (by simp)
    have g0 := hos.at_ (0, .cells [.p (.int .u64 (rdB 0 0 t).1)] false) (by simp)
    have gd := hos.at_ (s2.nx + 1, .defr) (by simp)
    simp only at g0 g1 g2 gd
    exact Pf.ret1 [.cell 2 216, .cell 3 3, .cell 4 32] [.c (.p (.int .u64 (rdB 0 0 t).1)), .c (.p (pI (rdB 0 0 t).2.1)), .c (.p (.int .i64 (rdB 0 0 t).2.2))] rfl gd rfl (by simp only [resultsD, go_sem, ti3, ti216, ti9, ti5, ti4, ti32, hF, g0, g1, g2, hk0, hk1, hk2]) rfl
end Go.Proofs.YtedcnhbblgmdnaaGreat.Ab
namespace Go.Proofs.YtedcnhbblgmdnaaGreat.Ab
set_option maxHeartbeats 8000000
set_option maxRecDepth 10000
set_option linter.unusedSimpArgs false
set_option linter.unusedVariables false
/-- 78: Read -/
theorem pf200 (s : List UInt8) : Pf E0 200 [.c (.p (.str s))] (.tup [.c (.p (pI (rdV s).1)), .c (.p (pI (rdV s).2.1)), .c (.p (.int .i64 (rdV s).2.2))]) := by
  have hb := rdB_le s 0 0 (by omega) (by decide)
  have p := pf239 s
  unfold rdV
  generalize rdB 0 0 s = r at hb p
  obtain ⟨n, k, er⟩ := r
  simp only at hb p ⊢
  refine Pf.body (fn := Tryz.f200) (by kernel_rfl) rfl ?_; simp only [List.map_cons, List.map_nil, List.cons_append, List.nil_append, List.length_cons, List.length_nil, Tryz.ntmps200, List.replicate, Nat.reduceSub, Nat.reduceAdd]
  refine Wc.seq ?_
  refine Wc.reg fun K hK => ?_; simp only [go_sem, ti3, ti216, ti9, ti5, ti4, ti32, ti155]; refine hK _ _ ?_; clear hK K
  refine Wc.seq ?_
  refine Wc.reg fun K hK => ?_; simp only [go_sem, ti3, ti216, ti9, ti5, ti4, ti32, ti155]
  refine wpCall.pf p (by kernel_rfl) (by kernel_rfl) rfl rfl ?_
  simp only [go_sem, ti3, ti216, ti9, ti5, ti4, ti32, ti155]; refine hK _ _ ?_; clear hK K
  refine Wc.seq (Wc.seq ?_)
  refine Wc.reg fun K hK => ?_; simp only [go_sem, ti3, ti216, ti9, ti5, ti4, ti32, ti155]; refine hK _ _ ?_; clear hK K
  refine Wc.cond (t := (er != 0)) (by simp only [go_sem, ti3, ti216, ti9, ti5, ti4, ti32, ti155]) (fun hc => ?_) (fun hc => ?_)
  · have h : er ≠ 0 := by simpa using hc
    rw [if_pos h]
    refine Wc.seq ?_
    refine Wc.reg fun K hK => ?_; simp only [go_sem, ti3, ti216, ti9, ti5, ti4, ti32, ti155]; refine hK _ _ ?_; clear hK K
    exact Wc.ret (Pf.ret [.tmp 2, .tmp 3, .tmp 4] [.c (.p (pI 0)), .c (.p (pI 0)), .c (.p (pI er))] rfl rfl (by simp only [resultsD, go_sem, ti3, ti216, ti9, ti5, ti4, ti32, ti155]) rfl)
  have h : ¬ er ≠ 0 := by simpa using hc
  rw [if_neg h]
  refine Wc.skip (Wc.seq (Wc.seq ?_))
  refine Wc.reg fun K hK => ?_; simp only [go_sem, ti3, ti216, ti9, ti5, ti4, ti32, ti155]; refine hK _ _ ?_; clear hK K
  refine Wc.cond (t := decide ((1152921504606846976 : Int) < n)) (by simp only [go_sem, ti3, ti216, ti9, ti5, ti4, ti32, ti155]) (fun hc => ?_) (fun hc => ?_)
  · have h2 : 1152921504606846976 < n := by have : (1152921504606846976 : Int) < n := by simpa using hc
                                            omega
    rw [if_pos h2]
    refine Wc.seq ?_
    refine Wc.reg fun K hK => ?_; simp only [go_sem, ti3, ti216, ti9, ti5, ti4, ti32, ti155]; refine hK _ _ ?_; clear hK K
    exact Wc.ret (Pf.ret [.tmp 2, .tmp 3, .tmp 4] [.c (.p (pI 0)), .c (.p (pI 0)), .c (.p (pI 12))] rfl rfl (by simp only [resultsD, go_sem, ti3, ti216, ti9, ti5, ti4, ti32, ti155]) rfl)
  have h2 : ¬ 1152921504606846976 < n := by have : ¬ (1152921504606846976 : Int) < n := by simpa using hc
                                            omega
  rw [if_neg h2]
  have w : IntKind.i64.wrap (n : Int) = n := by rw [wi64]; omega
  refine Wc.skip (Wc.seq ?_)
  refine Wc.reg fun K hK => ?_; simp only [go_sem, ti3, ti216, ti9, ti5, ti4, ti32, ti155, w]; refine hK _ _ ?_; clear hK K
  exact Wc.ret (Pf.ret [.tmp 2, .tmp 3, .tmp 4] [.c (.p (pI n)), .c (.p (pI k)), .c (.p (pI 0))] rfl rfl (by simp only [resultsD, go_sem, ti3, ti216, ti9, ti5, ti4, ti32, ti155]) rfl)
/-- 139: ReadSigned -/
theorem pf285 (s : List UInt8) : Pf E0 285 [.c (.p (.str s))] (.tup [.c (.p (pI (rdS s).1)), .c (.p (pI (rdS s).2.1)), .c (.p (.int .i64 (rdS s).2.2))]) := by
  have hb := rdB_le s 0 0 (by omega) (by decide)
  have p := pf239 s
  unfold rdS
  generalize rdB 0 0 s = r at hb p
  obtain ⟨n, k, er⟩ := r
  simp only at hb p ⊢
  refine Pf.body (fn := Tryz.f285) (by kernel_rfl) rfl ?_; simp only [List.map_cons, List.map_nil, List.cons_append, List.nil_append, List.length_cons, List.length_nil, Tryz.ntmps285, List.replicate, Nat.reduceSub, Nat.reduceAdd]
  refine Wc.seq ?_
  refine Wc.reg fun K hK => ?_; simp only [go_sem, ti3, ti216, ti9, ti5, ti4, ti32, ti155]; refine hK _ _ ?_; clear hK K
  refine Wc.seq ?_
  refine Wc.reg fun K hK => ?_; simp only [go_sem, ti3, ti216, ti9, ti5, ti4, ti32, ti155]
  refine wpCall.pf p (by kernel_rfl) (by kernel_rfl) rfl rfl ?_
  simp only [go_sem, ti3, ti216, ti9, ti5, ti4, ti32, ti155]; refine hK _ _ ?_; clear hK K
  refine Wc.seq (Wc.seq ?_)
  refine Wc.reg fun K hK => ?_; simp only [go_sem, ti3, ti216, ti9, ti5, ti4, ti32, ti155]; refine hK _ _ ?_; clear hK K
  refine Wc.cond (t := (er != 0)) (by simp only [go_sem, ti3, ti216, ti9, ti5, ti4, ti32, ti155]) (fun hc => ?_) (fun hc => ?_)
  · have h : er ≠ 0 := by simpa using hc
    rw [if_pos h]
    refine Wc.seq ?_
    refine Wc.reg fun K hK => ?_; simp only [go_sem, ti3, ti216, ti9, ti5, ti4, ti32, ti155]; refine hK _ _ ?_; clear hK K
    exact Wc.ret (Pf.ret [.tmp 2, .tmp 3, .tmp 4] [.c (.p (pI 0)), .c (.p (pI 0)), .c (.p (pI er))] rfl rfl (by simp only [resultsD, go_sem, ti3, ti216, ti9, ti5, ti4, ti32, ti155]) rfl)
  have h : ¬ er ≠ 0 := by simpa using hc
  rw [if_neg h]
  refine Wc.skip (Wc.seq ?_)
  refine Wc.reg fun K hK => ?_; simp only [go_sem, ti3, ti216, ti9, ti5, ti4, ti32, ti155]
  refine wpCall.pf (pf295 n hb.2.2.1) (by kernel_rfl) (by kernel_rfl) rfl rfl ?_
  simp only [go_sem, ti3, ti216, ti9, ti5, ti4, ti32, ti155]; refine hK _ _ ?_; clear hK K
  refine Wc.seq (Wc.seq ?_)
  refine Wc.reg fun K hK => ?_; simp only [go_sem, ti3, ti216, ti9, ti5, ti4, ti32, ti155]
  refine wpCall.pf (pf256 (unf n)) (by kernel_rfl) (by kernel_rfl) rfl rfl ?_
  simp only [go_sem, ti3, ti216, ti9, ti5, ti4, ti32, ti155]; refine hK _ _ ?_; clear hK K
  refine Wc.cond (t := !(inR (unf n))) (by simp only [go_sem, ti3, ti216, ti9, ti5, ti4, ti32, ti155]) (fun hc => ?_) (fun hc => ?_)
  · have h2 : inR (unf n) = false := by simpa using hc
    rw [if_pos h2]
    refine Wc.seq ?_
    refine Wc.reg fun K hK => ?_; simp only [go_sem, ti3, ti216, ti9, ti5, ti4, ti32, ti155]; refine hK _ _ ?_; clear hK K
    exact Wc.ret (Pf.ret [.tmp 2, .tmp 3, .tmp 4] [.c (.p (pI 0)), .c (.p (pI 0)), .c (.p (pI 12))] rfl rfl (by simp only [resultsD, go_sem, ti3, ti216, ti9, ti5, ti4, ti32, ti155]) rfl)
  have h2 : ¬ inR (unf n) = false := by simpa using hc
  rw [if_neg h2]
  refine Wc.skip (Wc.seq ?_)
  refine Wc.reg fun K hK => ?_; simp only [go_sem, ti3, ti216, ti9, ti5, ti4, ti32, ti155]; refine hK _ _ ?_; clear hK K
  exact Wc.ret (Pf.ret [.tmp 2, .tmp 3, .tmp 4] [.c (.p (pI (unf n))), .c (.p (pI k)), .c (.p (pI 0))] rfl rfl (by simp only [resultsD, go_sem, ti3, ti216, ti9, ti5, ti4, ti32, ti155]) rfl)
/-- What follows is no part. -/
abbrev badP (u : List UInt8) : Prop := (rdV u).2.2 ≠ 0 ∨ ((u.length - (rdV u).2.1 : Nat) : Int) < (rdV u).1
/-- 136: parts$1, the body of an iterator -/
theorem iter265 {r : Nat} {frz : Bool} {t : List UInt8} (ht : t.length < 2^60) : IterG 265 [.ref r 0] (fun s => s.get r = some (.cells [.p (.str t)] frz))
    (fun i k a => i < t.length ∧ ((¬ badP (t.drop i) ∧ k = i + ((rdV (t.drop i)).2.1 + (rdV (t.drop i)).1.toNat) ∧ k ≤ t.length ∧ a = [.c (.p (.str (((t.drop i).drop (rdV (t.drop i)).2.1).take (rdV (t.drop i)).1.toNat))), .c (.p (.bool true))]) ∨
      (badP (t.drop i) ∧ k = t.length + 1 ∧ a = [.c (.p (.str [])), .c (.p (.bool false))])))
    (fun i => i = t.length ∨ i = t.length + 1) := by
  refine ⟨Tryz.f265, _, by kernel_rfl, rfl, fun l J Z hJ hJ2 hZ hcap hy s h0 Q hQ hQZ => ?_⟩
  simp only [List.map_cons, List.map_nil, List.cons_append, List.nil_append, List.length_cons, List.length_nil, Tryz.ntmps265, List.replicate, Nat.reduceSub, Nat.reduceAdd]
  have hg := hcap _ _ h0
  refine Wc.seq ?_
  refine Wc.reg fun K hK => ?_; simp only [go_sem, ti3, ti216, ti9, ti5, ti4, ti32, ti155, hg]; refine hK _ _ ?_; clear hK K
  refine Wc.block (Wc.loop (fun k y => ∃ (i : Nat), k = t.length - i ∧ i ≤ t.length ∧ y.ds = [] ∧ Fs y.e 42 [(0, .v (.c (.fn (.yield l) [] []))), (3, P' (.str (t.drop i)))] ∧ J i y.s) ?_ (k := t.length) ?_)
  · rintro k ⟨e, ds, s1⟩ ⟨i, rfl, hil, rfl, hF, hj⟩
    simp only [Fs] at hF hj
    refine Wc.seq (Wc.seq ?_)
    refine Wc.reg fun K hK => ?_; simp only [go_sem, ti3, ti216, ti9, ti5, ti4, ti32, ti155, hF]; refine hK _ _ ?_; clear hK K
    refine Wc.cond (t := !(t.drop i == [])) (by simp only [go_sem, ti3, ti216, ti9, ti5, ti4, ti32, ti155, hF]) (fun hc => ?_) (fun hc => ?_)
    · have hlt : i < t.length := by
        rcases Nat.lt_or_ge i t.length with h | h
        · exact h
        · rw [List.drop_of_length_le h] at hc; cases hc
      have hul : (t.drop i).length = t.length - i := List.length_drop ..
      generalize hu : t.drop i = u at *
      obtain ⟨b1, b2, b3, b4⟩ := rdV_le u
      obtain ⟨m, hm⟩ : ∃ m : Nat, (rdV u).1 = (m : Int) := ⟨(rdV u).1.toNat, by omega⟩
      have p78 := pf200 u
      have hst := hy i
      dsimp only [badP] at hst
      rw [hu, hm] at hst
      simp only [Int.toNat_natCast] at hst
      rw [hm] at p78
      generalize (rdV u).2.1 = sz at *
      generalize (rdV u).2.2 = er at *
      refine Wc.skip (Wc.block (Wc.seq ?_))
      refine Wc.reg fun K hK => ?_; simp only [go_sem, ti3, ti216, ti9, ti5, ti4, ti32, ti155, hF]
      refine wpCall.pf p78 (by kernel_rfl) (by kernel_rfl) rfl rfl ?_
      simp only [go_sem, ti3, ti216, ti9, ti5, ti4, ti32, ti155, hF]; refine hK _ _ ?_; clear hK K
      have w1 : IntKind.i64.wrap ((u.length : Int) - (sz : Int)) = ((u.length - sz : Nat) : Int) := by rw [wi64]; omega
      refine Wc.seqR (fun y => (er = 0 ∧ m ≤ u.length - sz) ∧ y.ds = [] ∧ Fs y.e 42 [(0, .v (.c (.fn (.yield l) [] []))), (3, P' (.str u)), (4, P' (pI m)), (5, P' (pI sz))] ∧ y.s = ((s1.adv 2).adv 9).adv 10) ?_ ?_
      · refine Wc.seq ?_
        by_cases he : er = 0
        · have d1 : (er != 0) = false := by simpa using he
          refine Wc.reg fun K hK => ?_; simp only [go_sem, ti3, ti216, ti9, ti5, ti4, ti32, ti155, hF, d1, w1]; refine hK _ _ ?_; clear hK K
          refine Wc.cond (t := decide (((u.length - sz : Nat) : Int) < (m : Int))) (by simp only [go_sem, ti3, ti216, ti9, ti5, ti4, ti32, ti155, hF]) (fun hc => ?_) (fun hc => ?_)
          · have hbad : ((u.length - sz : Nat) : Int) < (m : Int) := of_decide_eq_true hc
            refine Wc.seq ?_
            refine Wc.reg fun K hK => ?_; simp only [go_sem, ti3, ti216, ti9, ti5, ti4, ti32, ti155, hF]
            obtain ⟨n, d, s2, hc1, hd⟩ := hst (t.length + 1) _ _ (hJ _ _ 2 (hJ _ _ 10 (hJ _ _ 9 (hJ _ _ 2 hj)))) ⟨hlt, .inr ⟨.inr hbad, rfl, rfl⟩⟩
            refine ⟨n, _, s2, hc1, ?_⟩
            rcases hd with ⟨rfl, hj2⟩ | ⟨rfl, hz⟩
            · simp only [go_sem, ti3, ti216, ti9, ti5, ti4, ti32, ti155, hF]; refine hK _ _ ?_; clear hK K
              exact Wc.ret (show bodyQ E0 Tryz.f265 Q .ret _ from bodyQ.ret (vs := []) rfl rfl (hQ _ _ (t.length + 1) (.inr rfl) hj2))
            · simp only [go_sem, ti3, ti216, ti9, ti5, ti4, ti32, ti155, hF]; refine hK _ _ ?_; clear hK K
              exact Wc.ret (show bodyQ E0 Tryz.f265 Q .ret _ from bodyQ.ret (vs := []) rfl rfl (hQZ _ _ hz))
          · have hbad : ¬ ((u.length - sz : Nat) : Int) < (m : Int) := of_decide_eq_false hc
            exact Wc.skip ⟨⟨he, by omega⟩, rfl, by simp only [Fs, Int.natCast_zero, go_sem, ti3, ti216, ti9, ti5, ti4, ti32, ti155, hF], rfl⟩
        · have d1 : (er != 0) = true := by simpa using he
          refine Wc.reg fun K hK => ?_; simp only [go_sem, ti3, ti216, ti9, ti5, ti4, ti32, ti155, hF, d1]; refine hK _ _ ?_; clear hK K
          refine Wc.cond (t := true) (by simp only [go_sem, ti3, ti216, ti9, ti5, ti4, ti32, ti155, hF]) (fun _ => ?_) (fun hc => by cases hc)
          refine Wc.seq ?_
          refine Wc.reg fun K hK => ?_; simp only [go_sem, ti3, ti216, ti9, ti5, ti4, ti32, ti155, hF]
          obtain ⟨n, d, s2, hc1, hd⟩ := hst (t.length + 1) _ _ (hJ _ _ 2 (hJ _ _ 10 (hJ _ _ 9 (hJ _ _ 2 hj)))) ⟨hlt, .inr ⟨.inl he, rfl, rfl⟩⟩
          refine ⟨n, _, s2, hc1, ?_⟩
          rcases hd with ⟨rfl, hj2⟩ | ⟨rfl, hz⟩
          · simp only [go_sem, ti3, ti216, ti9, ti5, ti4, ti32, ti155, hF]; refine hK _ _ ?_; clear hK K
            exact Wc.ret (show bodyQ E0 Tryz.f265 Q .ret _ from bodyQ.ret (vs := []) rfl rfl (hQ _ _ (t.length + 1) (.inr rfl) hj2))
          · simp only [go_sem, ti3, ti216, ti9, ti5, ti4, ti32, ti155, hF]; refine hK _ _ ?_; clear hK K
            exact Wc.ret (show bodyQ E0 Tryz.f265 Q .ret _ from bodyQ.ret (vs := []) rfl rfl (hQZ _ _ hz))
      · clear hF e
        rintro ⟨e, ds, s3⟩ ⟨⟨he, hmu⟩, rfl, hF, rfl⟩
        simp only [Fs] at hF
        have w2 : IntKind.i64.wrap ((sz : Int) + (m : Int)) = ((sz + m : Nat) : Int) := by rw [wi64]; omega
        have c1 : ((sz : Int) ≤ ((sz + m : Nat) : Int)) = True := by simp; omega
        have c2 : (((sz + m : Nat) : Int) ≤ (u.length : Int)) = True := by simp; omega
        have c3 : sz + m - sz = m := by omega
        have c4 : u.length - (sz + m) = (u.drop (sz + m)).length := by simp
        refine Wc.seq (Wc.seq ?_)
        refine Wc.reg fun K hK => ?_; simp only [go_sem, ti3, ti216, ti9, ti5, ti4, ti32, ti155, hF, w2, c1, c2, c3]
        obtain ⟨n, d, s2, hc1, hd⟩ := hst (i + (sz + m)) _ _ (hJ _ _ 9 (hJ _ _ 10 (hJ _ _ 9 (hJ _ _ 2 hj)))) ⟨hlt, .inl ⟨by rintro (h | h); exact h he; omega, rfl, by omega, rfl⟩⟩
        refine ⟨n, _, s2, hc1, ?_⟩
        rcases hd with ⟨rfl, hj2⟩ | ⟨rfl, hz⟩
        · simp only [go_sem, ti3, ti216, ti9, ti5, ti4, ti32, ti155, hF]; refine hK _ _ ?_; clear hK K
          refine Wc.cond (t := false) (by simp only [go_sem, ti3, ti216, ti9, ti5, ti4, ti32, ti155, hF]) (fun hc => by cases hc) (fun _ => Wc.skip ?_)
          refine Wc.reg fun K hK => ?_; simp only [go_sem, ti3, ti216, ti9, ti5, ti4, ti32, ti155, hF, w2, c2, c4, List.take_length, Int.le_refl]; refine hK _ _ ?_; clear hK K
          refine ⟨t.length - (i + (sz + m)), ?_, i + (sz + m), rfl, by omega, rfl, ?_, hJ _ _ _ hj2⟩
          · have := b4 he; omega
          · rw [show t.drop (i + (sz + m)) = u.drop (sz + m) by rw [← hu, List.drop_drop]]
            exact by simp only [Fs, Int.natCast_zero, go_sem, ti3, ti216, ti9, ti5, ti4, ti32, ti155, hF]
        · simp only [go_sem, ti3, ti216, ti9, ti5, ti4, ti32, ti155, hF]; refine hK _ _ ?_; clear hK K
          refine Wc.cond (t := true) (by simp only [go_sem, ti3, ti216, ti9, ti5, ti4, ti32, ti155, hF]) (fun _ => ?_) (fun hc => by cases hc)
          exact Wc.ret (show bodyQ E0 Tryz.f265 Q .ret _ from bodyQ.ret (vs := []) rfl rfl (hQZ _ _ hz))
    · have hge : i = t.length := by
        rcases Nat.lt_or_ge i t.length with h | h
        · have : t.drop i ≠ [] := fun e => by have := congrArg List.length e; rw [List.length_drop, List.length_nil] at this; omega
          simp [this] at hc
        · omega
      exact Wc.exit (bodyQ.normal (vs := []) rfl rfl (hQ _ _ i (.inl hge) (hJ _ _ _ hj)))
  · exact ⟨0, rfl, by omega, rfl, by simp only [Fs, Int.natCast_zero, go_sem, ti3, ti216, ti9, ti5, ti4, ti32, ti155], hJ _ _ _ h0⟩
/-- 117: parts, in its caller's state -/
theorem call240 {s : St} {L : List (Nat × D × Nat × List Pd)} {M : List (Nat × Ob)} {t : List UInt8} {K : D → St → Prop} (h : OA s.nx s L M)
    (hK : ∀ s', OA s'.nx s' L ((s.nx, .cells [.p (.str t)] false) :: M) → s.nx < s'.nx → K (.v (.c (.fn (.func 265) [] [.ref s.nx 0]))) s') : wpCall E0 (.v (.c (.p (.fnc 240)))) [.v (.c (.p (.str t)))] s K := by
  refine wpCall.opn (fn := Tryz.f240) (by kernel_rfl) (by kernel_rfl) rfl (by kernel_rfl) rfl ?_; simp only [List.map_cons, List.map_nil, List.cons_append, List.nil_append, List.length_cons, List.length_nil, Tryz.ntmps240, List.replicate, Nat.reduceSub, Nat.reduceAdd]
  refine Wc.seq ?_
  refine Wc.reg fun K hK => ?_; simp only [go_sem, ti3, ti216, ti9, ti5, ti4, ti32, ti155]; refine hK _ _ ?_; clear hK K
  refine Wc.seq ?_
  refine Wc.reg fun K hK => ?_; simp only [go_sem, ti3, ti216, ti9, ti5, ti4, ti32, ti155]; refine hK _ _ ?_; clear hK K
  refine Wc.ret (Op.ret [.tmp 2] [.c (.fn (.func 265) [] [.ref s.nx 0])] rfl rfl (by simp only [resultsD, go_sem, ti3, ti216, ti9, ti5, ti4, ti32, ti155]) (hK _ ?_ ?_))
  · exact by (try simp only [St.nx_put, St.nx_adv]); repeat (first | exact OA.mono h (by omega) | refine OA.newB ?_ (by omega) rfl | refine OA.advB ?_)
  · simp only [St.nx_adv, St.nx_put]; omega
end Go.Proofs.YtedcnhbblgmdnaaGreat.Ab
namespace Go.Proofs.YtedcnhbblgmdnaaGreat.Ab
set_option maxHeartbeats 8000000
set_option maxRecDepth 10000
set_option linter.unusedSimpArgs false
set_option linter.unusedVariables false
/-- A function on pure data, out of its body; of what it returns, something is told. -/
theorem Pf.bodyE {E : Env} {g : Nat} {fn : Func} {c : Code} {args : List V} {P : D → Prop} (hf : E.fn g = some fn) (hb : fn.body = some c)
    (h : Wc E none c { e := args.map .v ++ List.replicate (fn.ntmps - args.length) (.tup []), ds := [], s := { ob := [], nx := 0 } } (bodyQ E fn fun d0 s2 => ∃ d s3, purD s2 d0 = some (d, s3) ∧ P d)) : ∃ d, Pf E g args d ∧ P d := by
  obtain ⟨n, d0, s2, h1, d, s3, h2, h3⟩ := Ev.body hf hb h
  exact ⟨d, ⟨n, d0, s2, s3, h1, h2⟩, h3⟩
theorem Pf.retE {E : Env} {fn : Func} {x : Fr} {d : D} {s3 : St} {P : D → Prop} (rs : List ResultVar) (vs : List V) (hd : x.ds = []) (hrs : fn.results.toList = rs) (hr : resultsD E x.e x.s rs = some vs) (hp : purD x.s (packD vs) = some (d, s3)) (hP : P d) :
    bodyQ E fn (fun d0 s2 => ∃ d s3, purD s2 d0 = some (d, s3) ∧ P d) .ret x := by
  subst hrs
  exact ⟨x.s, vs, by rw [hd]; rfl, hr, d, s3, hp, hP⟩
theorem Pf.ret1E {E : Env} {fn : Func} {x : Fr} {d : D} {s3 : St} {k : Nat} {P : D → Prop} (rs : List ResultVar) (vs : List V) (hd : x.ds = [k]) (hg : x.s.get k = some .defr) (hrs : fn.results.toList = rs) (hr : resultsD E x.e (x.s.put k .dead) rs = some vs) (hp : purD (x.s.put k .dead) (packD vs) = some (d, s3)) (hP : P d) :
    bodyQ E fn (fun d0 s2 => ∃ d s3, purD s2 d0 = some (d, s3) ∧ P d) .ret x := by
  subst hrs
  exact ⟨_, vs, by rw [hd]; simp only [killAll, hg], hr, d, s3, hp, hP⟩
theorem purD_cb {S : St} {c : C} {y x : Pd} (h : purVs S [.c c] = some ([.c (.p y)], S)) : purD S (packD [.c c, .c (.p x)]) = some (.tup [.c (.p y), .c (.p x)], S) := by simp only [packD, purD, purVs_cp h]
theorem splitN_bad {u : List UInt8} (hu : u ≠ []) (hb : badP u) : ∀ n, splitN n u = none
  | 0 => by rw [splitN, if_neg hu]
  | n + 1 => by rw [splitN, if_neg hu, if_pos hb]
theorem drop_ne {t : List UInt8} {i : Nat} (h : i < t.length) : t.drop i ≠ [] := fun e => by
  have := congrArg List.length e
  rw [List.length_drop, List.length_nil] at this
  omega
/-- 79: split -/
theorem pf201 (t : List UInt8) (c : Nat) (ht : t.length < 2^60) (hc40 : c < 2^40) :
    ∃ d, Pf E0 201 [.c (.p (.str t)), .c (.p (pI c))] d ∧ ∃ l : List (List UInt8), d = .tup [.c (.p (.lst l.length (l.map .str))), .c (.p (.bool (splitN c t).isSome))] ∧ ∀ ss, splitN c t = some ss → l = ss := by
  refine Pf.bodyE (fn := Tryz.f201) (by kernel_rfl) rfl ?_; simp only [List.map_cons, List.map_nil, List.cons_append, List.nil_append, List.length_cons, List.length_nil, Tryz.ntmps201, List.replicate, Nat.reduceSub, Nat.reduceAdd]
  refine Wc.seq ?_
  refine Wc.reg fun K hK => ?_; simp only [go_sem, ti3, ti216, ti9, ti5, ti4, ti32, ti155, ti175]; refine hK _ _ ?_; clear hK K
  refine Wc.seqA (fun y => y.ds = [] ∧ Fs y.e 30 [(0, P' (.str t)), (3, .v (.c (.ref 0 0))), (4, .v (.c (.ref 1 0))), (5, .v (.c (.ref 2 0))), (6, .v (.c (.ref 3 0)))] ∧ OA y.s.nx y.s [(1, .v (.c .nils), 0, [])] [(3, .cells [.nils] false), (2, .cells [.p (.bool false)] false), (1, .cells [.nils] false), (0, .cells [.p (pI c)] false)]) ?_ ?_
  · refine Wc.reg fun K hK => ?_; simp only [go_sem, ti3, ti216, ti9, ti5, ti4, ti32, ti155, ti175]; refine hK _ _ ?_; clear hK K
    exact ⟨rfl, rfl, by simp only [Fs, Int.natCast_zero, go_sem, ti3, ti216, ti9, ti5, ti4, ti32, ti155, ti175], OA.nil (by (try simp only [St.nx_put, St.nx_adv]); repeat (first | exact OA.mono s00_oa (by omega) | refine OA.newB ?_ (by omega) rfl | refine OA.advB ?_))⟩
  rintro ⟨e, ds, s1⟩ ⟨rfl, hF, ho⟩
  simp only [Fs] at hF ho
  refine Wc.seq (Wc.seq ?_)
  refine Wc.reg fun K hK => ?_; simp only [go_sem, ti3, ti216, ti9, ti5, ti4, ti32, ti155, ti175, hF]
  refine call240 (ho.adv.mono (by simp only [St.nx_adv]; omega)) fun s2 ho2 hnx => ?_
  simp only [St.nx_adv] at ho2 hnx
  simp only [go_sem, ti3, ti216, ti9, ti5, ti4, ti32, ti155, ti175, hF]; refine hK _ _ ?_; clear hK K
  refine Wc.block ?_
  have hk0 : (s2.nx + 1 = 0) = False := by simp
  have hk1 : (s2.nx + 1 = 1) = False := by simp; omega
  have hk2 : (s2.nx + 1 = 2) = False := by simp; omega
  have hk3 : (s2.nx + 1 = 3) = False := by simp; omega
  refine Wc.iterG (iter265 (r := s1.nx + 2) (frz := false) (t := t) ht)
    (fun i L M => ∃ (ss : List (List UInt8)) (c6 : C), L = [(1, .v (.c c6), ss.length, ss.map .str)] ∧ M = [(s1.nx + 2, .cells [.p (.str t)] false), (3, .cells [c6] false), (2, .cells [.p (.bool false)] false), (1, .cells [.nils] false), (0, .cells [.p (pI c)] false)] ∧ i ≤ t.length ∧ ss.length ≤ c ∧ splitN c t = (splitN (c - ss.length) (t.drop i)).map (ss ++ ·))
    (fun ex L M => ex = .ret ∧ splitN c t = none ∧ ∃ (c6 : C), M = [(s1.nx + 2, .cells [.p (.str t)] false), (3, .cells [c6] false), (2, .cells [.p (.bool false)] false), (1, .cells [.nils] false), (0, .cells [.p (pI c)] false)])
    (by simp only [go_sem, ti3, ti216, ti9, ti5, ti4, ti32, ti155, ti175, hF]) ho2 ⟨[], .nils, rfl, rfl, by omega, by simp, by simp⟩ ?_ ?_ ?_ ?_ ?_
  · rintro i L M s ⟨ss, c6, rfl, rfl, _⟩ hM
    exact hM (_, _) (List.mem_cons_self ..)
  · rintro i k a ⟨_, ⟨_, _, _, rfl⟩ | ⟨_, _, rfl⟩⟩ <;> rfl
  · rintro i k aa lp s L M ⟨hlt, hstep⟩ ⟨ss, c6, rfl, rfl, hil, hssc, hsp⟩ hos
    have hne := drop_ne hlt
    have hend : ∀ (x : St) (lq : LoopR), OA x.nx x [(1, .v (.c c6), ss.length, ss.map .str)] [(s2.nx, .loop lq), (s2.nx + 1, .defr), (s1.nx + 2, .cells [.p (.str t)] false), (3, .cells [c6] false), (2, .cells [.p (.bool false)] false), (1, .cells [.nils] false), (0, .cells [.p (pI c)] false)] →
        OA ((x.put 1 (.cells [.nils] false)).put 2 (.cells [.p (.bool false)] false)).nx ((x.put 1 (.cells [.nils] false)).put 2 (.cells [.p (.bool false)] false)) [(1, .v (.c c6), ss.length, ss.map .str)] [(s2.nx, .loop lq), (s2.nx + 1, .defr), (s1.nx + 2, .cells [.p (.str t)] false), (3, .cells [c6] false), (2, .cells [.p (.bool false)] false), (1, .cells [.nils] false), (0, .cells [.p (pI c)] false)] := fun x lq h => by
      have h1 := OA.set (M1 := [(s2.nx, .loop lq), (s2.nx + 1, .defr), (s1.nx + 2, .cells [.p (.str t)] false), (3, .cells [c6] false), (2, .cells [.p (.bool false)] false)]) (M2 := [(0, .cells [.p (pI c)] false)]) (o' := .cells [.nils] false) h rfl
      exact OA.set (M1 := [(s2.nx, .loop lq), (s2.nx + 1, .defr), (s1.nx + 2, .cells [.p (.str t)] false), (3, .cells [c6] false)]) (M2 := [(1, .cells [.nils] false), (0, .cells [.p (pI c)] false)]) (o' := .cells [.p (.bool false)] false) h1 rfl
    rcases hstep with ⟨hgood, rfl, hkl, rfl⟩ | ⟨hbad, rfl, rfl⟩
    · obtain ⟨b1, b2, b3, b4⟩ := rdV_le (t.drop i)
      generalize hpart : ((t.drop i).drop (rdV (t.drop i)).2.1).take (rdV (t.drop i)).1.toNat = part
      simp only [setAll, List.zip_cons_cons, List.zip_nil_right]
      refine Wc.seq ?_
      refine Wc.reg fun K hK => ?_; simp only [go_sem, ti3, ti216, ti9, ti5, ti4, ti32, ti155, ti175, hF]; refine hK _ _ ?_; clear hK K
      refine Wc.reg fun K hK => ?_; simp only [go_sem, ti3, ti216, ti9, ti5, ti4, ti32, ti155, ti175, hF]; refine hK _ _ ?_; clear hK K
      refine ⟨rfl, _, _, (hos.mono (by simp only [St.nx_adv]; omega)).adv.adv, fun lq s' hos' => ?_⟩
      have o6 := hos'.at_ (3, .cells [c6] false) (by simp)
      have o2 := hos'.at_ (2, .cells [.p (.bool false)] false) (by simp)
      have o1 := hos'.at_ (1, .cells [.nils] false) (by simp)
      have o0 := hos'.at_ (0, .cells [.p (pI c)] false) (by simp)
      have hl6 := (hos'.own (1, .v (.c c6), ss.length, ss.map .str) (by simp)).len ti155 rfl
      simp only at o6 o0 o1 o2 hl6
      refine Wc.block (Wc.seq (Wc.seq ?_))
      refine Wc.reg fun K hK => ?_; simp only [go_sem, ti3, ti216, ti9, ti5, ti4, ti32, ti155, ti175, hF, o6, o0, hl6]; refine hK _ _ ?_; clear hK K
      refine Wc.cond (t := ((ss.length : Int) == (c : Int))) (by simp only [go_sem, ti3, ti216, ti9, ti5, ti4, ti32, ti155, ti175, hF]) (fun hc => ?_) (fun hc => ?_)
      · have hsc : ss.length = c := by have : (ss.length : Int) = (c : Int) := by simpa using hc
                                       omega
        have hno : splitN c t = none := by rw [hsp, hsc, Nat.sub_self, splitN, if_neg hne]; rfl
        refine Wc.seq ?_
        refine Wc.reg fun K hK => ?_; simp only [go_sem, ti3, ti216, ti9, ti5, ti4, ti32, ti155, ti175, hF, o1, o2]; refine hK _ _ ?_; clear hK K
        refine Wc.ret ⟨_, _, hend _ lq ?_, rfl, hno, c6, rfl⟩
        exact (hos'.mono (by simp only [St.nx_adv]; omega)).adv.adv
      · have hsc : ¬ ss.length = c := by have : ¬ (ss.length : Int) = (c : Int) := by simpa using hc
                                         omega
        refine Wc.skip ?_
        refine Wc.reg fun K hK => ?_; simp only [go_sem, ti3, ti216, ti9, ti5, ti4, ti32, ti155, ti175, hF, o6]
        refine OA.app (L1 := []) (L2 := []) (by_ := 16) (n := ss.length) (m := 1) (ys := [.str part]) (OA.put (hos'.adv.adv) (by omega)) (by omega) ⟨_, ti155, rfl⟩ ti9 rfl rfl rfl (by decide) (by decide) (by simp only [go_sem, ti3, ti216, ti9, ti5, ti4, ti32, ti155, ti175]) rfl (by omega) fun b' s3 hb' hnx' => ?_
        obtain ⟨c6', rfl⟩ := (hb'.own _ (List.mem_cons_self ..)).v
        have o6' := hb'.at_ (3, .cells [c6] false) (by simp)
        simp only at o6'
        simp only [go_sem, ti3, ti216, ti9, ti5, ti4, ti32, ti155, ti175, hF, o6']; refine hK _ _ ?_; clear hK K
        have hset := OA.set (M1 := [(s2.nx, .loop lq), (s2.nx + 1, .defr), (s1.nx + 2, .cells [.p (.str t)] false)]) (k := 3) (o' := .cells [c6'] false) hb' rfl
        refine ⟨_, _, hset.mono (by simp only [St.nx_put, hnx', St.nx_adv]; omega), ss ++ [part], c6', by simp, rfl, hkl, by simp; omega, ?_⟩
        have e1 : c - ss.length = (c - (ss ++ [part]).length) + 1 := by simp; omega
        rw [hsp, e1, splitN, if_neg hne, if_neg hgood, hpart, List.drop_drop]
        cases splitN (c - (ss ++ [part]).length) (t.drop (i + ((rdV (t.drop i)).2.1 + (rdV (t.drop i)).1.toNat))) <;> simp
    · have hno : splitN c t = none := by rw [hsp, splitN_bad hne hbad]; rfl
      simp only [setAll, List.zip_cons_cons, List.zip_nil_right]
      refine Wc.seq ?_
      refine Wc.reg fun K hK => ?_; simp only [go_sem, ti3, ti216, ti9, ti5, ti4, ti32, ti155, ti175, hF]; refine hK _ _ ?_; clear hK K
      refine Wc.reg fun K hK => ?_; simp only [go_sem, ti3, ti216, ti9, ti5, ti4, ti32, ti155, ti175, hF]; refine hK _ _ ?_; clear hK K
      refine ⟨rfl, _, _, (hos.mono (by simp only [St.nx_adv]; omega)).adv.adv, fun lq s' hos' => ?_⟩
      have o2 := hos'.at_ (2, .cells [.p (.bool false)] false) (by simp)
      have o1 := hos'.at_ (1, .cells [.nils] false) (by simp)
      simp only at o1 o2
      refine Wc.block (Wc.seq (Wc.seq ?_))
      refine Wc.reg fun K hK => ?_; simp only [go_sem, ti3, ti216, ti9, ti5, ti4, ti32, ti155, ti175, hF]; refine hK _ _ ?_; clear hK K
      refine Wc.cond (t := true) (by simp only [go_sem, ti3, ti216, ti9, ti5, ti4, ti32, ti155, ti175, hF]) (fun _ => ?_) (fun hc => by cases hc)
      refine Wc.seq ?_
      refine Wc.reg fun K hK => ?_; simp only [go_sem, ti3, ti216, ti9, ti5, ti4, ti32, ti155, ti175, hF, o1, o2]; refine hK _ _ ?_; clear hK K
      refine Wc.ret ⟨_, _, hend _ lq ?_, rfl, hno, c6, rfl⟩
      exact (hos'.mono (by simp only [St.nx_adv]; omega)).adv.adv
  · rintro L M s' i hlast hos ⟨ss, c6, rfl, rfl, hil, hssc, hsp⟩
    have hil2 : i = t.length := by rcases hlast with h | h <;> omega
    subst hil2
    rw [List.drop_length] at hsp
    have o6 := hos.at_ (3, .cells [c6] false) (by simp)
    have o2 := hos.at_ (2, .cells [.p (.bool false)] false) (by simp)
    have o1 := hos.at_ (1, .cells [.nils] false) (by simp)
    have o0 := hos.at_ (0, .cells [.p (pI c)] false) (by simp)
    have gd := hos.at_ (s2.nx + 1, .defr) (by simp)
    have hl6 := (hos.own (1, .v (.c c6), ss.length, ss.map .str) (by simp)).len ti155 rfl
    simp only at o6 o0 o1 o2 gd hl6
    have hk1' : (1 = s2.nx + 1) = False := by simp; omega
    have hk2' : (2 = s2.nx + 1) = False := by simp; omega
    refine Wc.seq ?_
    refine Wc.regT fun K hK => ?_; simp only [go_sem, ti3, ti216, ti9, ti5, ti4, ti32, ti155, ti175, hF, o6, o0, o1, o2, hl6]; refine ⟨by rfl, hK _ _ ?_⟩; clear hK K
    have hown := hos.own (1, .v (.c c6), ss.length, ss.map .str) (by simp)
    have hres : (splitN c t).isSome = ((ss.length : Int) == (c : Int)) ∧ ∀ l, splitN c t = some l → ss = l := by
      rw [hsp]
      by_cases hsc : ss.length = c
      · rw [hsc, Nat.sub_self]
        refine ⟨by simp [splitN], fun l hl => ?_⟩
        simp [splitN] at hl
        exact hl
      · obtain ⟨k, hk⟩ : ∃ k, c - ss.length = k + 1 := ⟨c - ss.length - 1, by omega⟩
        rw [hk]
        refine ⟨?_, fun l hl => ?_⟩
        · simp [splitN]; omega
        · simp [splitN] at hl
    exact Wc.ret (Pf.ret1E [.cell 4 155, .cell 5 4] [.c c6, .c (.p (.bool ((ss.length : Int) == (c : Int))))] rfl (by simp only [go_sem, ti3, ti216, ti9, ti5, ti4, ti32, ti155, ti175, hk1', hk2', gd]) rfl (by simp only [resultsD, go_sem, ti3, ti216, ti9, ti5, ti4, ti32, ti155, ti175, hF, hk1, hk2]) (purD_cb (hown.vs1 _)) ⟨ss, by rw [hres.1], hres.2⟩)
  · rintro ex L M s' hne hos ⟨rfl, hno, c6, rfl⟩
    have g2 := hos.at_ (2, .cells [.p (.bool false)] false) (by simp)
    have g1 := hos.at_ (1, .cells [.nils] false) (by simp)
    have gd := hos.at_ (s2.nx + 1, .defr) (by simp)
    simp only at g1 g2 gd
    refine Pf.ret1E [.cell 4 155, .cell 5 4] [.c .nils, .c (.p (.bool false))] rfl gd rfl (by simp only [resultsD, go_sem, ti3, ti216, ti9, ti5, ti4, ti32, ti155, ti175, hF, g1, g2, hk1, hk2]) rfl ⟨[], by rw [hno]; rfl, fun ss h => ?_⟩
    rw [hno] at h; cases h
end Go.Proofs.YtedcnhbblgmdnaaGreat.Ab
