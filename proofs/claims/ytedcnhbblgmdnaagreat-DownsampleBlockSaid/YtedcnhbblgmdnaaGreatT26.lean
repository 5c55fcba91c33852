/- A part of the proof. -/
import Derived.Test.YtedcnhbblgmdnaaGreatT18
import Derived.Test.YtedcnhbblgmdnaaGreatT23
namespace Go.Proofs.YtedcnhbblgmdnaaGreat.Ab
set_option maxHeartbeats 8000000
set_option maxRecDepth 10000
set_option linter.unusedSimpArgs false
set_option linter.unusedVariables false
theorem tmod2 (u : Nat) : (u : Int).tmod 2 = ((u % 2 : Nat) : Int) := rfl
theorem tdiv2 (u : Nat) : (u : Int).tdiv 2 = ((u / 2 : Nat) : Int) := rfl
theorem pf295 (u : Nat) (h : u < 2^63) : Pf E0 295 [.c (.p (.int .u64 u))] (P' (pI (unf u))) := by
 have e1 : IntKind.u64.wrap ((u / 2 : Nat) : Int) = ((u / 2 : Nat) : Int) := by rw [wu64]; omega
 have e2 : IntKind.i64.wrap ((u / 2 : Nat) : Int) = ((u / 2 : Nat) : Int) := by rw [wi64]; omega
 have e3 : IntKind.i64.wrap (IntKind.i64.wrap (0 - ((u / 2 : Nat) : Int)) - 1) = -((u / 2 : Nat) : Int) - 1 := by rw [wi64, wi64]; omega
 unfold unf
 refine Pf.body (fn := Tryz.f295) (by kernel_rfl) rfl ?_; simp only [List.map_cons, List.map_nil, List.cons_append, List.nil_append, List.length_cons, List.length_nil, Tryz.ntmps295, List.replicate, Nat.reduceSub, Nat.reduceAdd]
 refine gS fun K F => ?_; simp only [go_sem]; apply F; clear F K
 refine Wc.seq (Wc.seq ?_)
 refine gR fun K F => ?_; simp only [go_sem, tmod2]; apply F; clear F K
 refine Wc.cond (t := (((u % 2 : Nat) : Int) == 0)) (by simp only [go_sem]) (fun hc => ?_) (fun hc => ?_)
 ·have hu : u % 2 = 0 := by have : ((u % 2 : Nat) : Int) = 0 := by simpa using hc
                            omega
  rw [if_pos hu]
  refine gS fun K F => ?_; simp only [go_sem, tdiv2, e1, e2]; apply F; clear F K
  exact Wc.ret (Pf.ret [.tmp 2] [.c (.p (pI ((u / 2 : Nat) : Int)))] rfl rfl (by simp only [resultsD, go_sem]) rfl)
 ·have hu : ¬ u % 2 = 0 := by have : ¬ ((u % 2 : Nat) : Int) = 0 := by simpa using hc
                              omega
  rw [if_neg hu]
  refine Wc.skip (Wc.seq ?_)
  refine gR fun K F => ?_; simp only [go_sem, tdiv2, e1, e2, e3]; apply F; clear F K
  exact Wc.ret (Pf.ret [.tmp 2] [.c (.p (pI (-((u / 2 : Nat) : Int) - 1)))] rfl rfl (by simp only [resultsD, go_sem]) rfl)
theorem iter281 {r : Nat} {frz : Bool} {t : List UInt8} : IterG 281 [.ref r 0] (fun s => s.get r = some (.cells [.p (.str t)] frz))
  (fun i k a => k = i + 1 ∧ i < 9 ∧ ∃ b, t[i]? = some b ∧ a = [.c (.p (pI i)), .c (.p (.int .u8 b.toNat))])
  (fun i => i = t.length ∨ i = 9 ∨ ∃ j b, i = j + 1 ∧ t[j]? = some b ∧ b.toNat < 128) := by
 refine ⟨Tryz.f281, _, by kernel_rfl, rfl, fun l J Z hJ hJ2 hZ hcap hy s h0 Q hQ hQZ => ?_⟩
 simp only [List.map_cons, List.map_nil, List.cons_append, List.nil_append, List.length_cons, List.length_nil, Tryz.ntmps281, List.replicate, Nat.reduceSub, Nat.reduceAdd]
 refine gS fun K F => ?_; simp only [go_sem]; apply F; clear F K
 refine Wc.block (Wc.loop (fun k y => ∃ (i : Nat), k = 9 - i ∧ i ≤ 9 ∧ i ≤ t.length ∧ y.ds = [] ∧ Fs y.e 27 [(0, .v (.c (.fn (.yield l) [] []))), (1, .v (.c (.ref r 0))), (3, P' (pI i))] ∧ J i y.s) ?_ (k := 9) ?_)
 ·rintro k ⟨e, ds, s1⟩ ⟨i, rfl, hi9, hil, rfl, hF, hj⟩
  simp only [Fs] at hF hj
  have hg := hcap _ _ hj
  refine Wc.seq (Wc.seq ?_)
  by_cases hlt : i < t.length
  ·have d1 : ((i : Int) < (t.length : Int)) = True := by simp; omega
   refine gR fun K F => ?_; simp only [go_sem, hF, hg, d1]; apply F; clear F K
   refine Wc.cond (t := decide ((i : Int) < 9)) (by simp only [go_sem, hF]) (fun hc => ?_) (fun hc => ?_)
   ·have h9 : i < 9 := by have : (i : Int) < 9 := by simpa using hc
                          omega
    obtain ⟨b, hb⟩ : ∃ b, t[i]? = some b := ⟨t[i], List.getElem?_eq_getElem hlt⟩
    refine Wc.skip (Wc.seq (Wc.block (Wc.seq ?_)))
    refine gR fun K F => ?_; simp only [go_sem, hF, hg, hb, pdOfByte]
    obtain ⟨n, d, s2, hc1, hd⟩ := hy i (i + 1) _ ((s1.adv 8).adv 13) (hJ _ _ _ (hJ _ _ _ hj)) ⟨rfl, h9, b, hb, rfl⟩
    refine ⟨n, _, s2, hc1, ?_⟩
    rcases hd with ⟨rfl, hj2⟩ | ⟨rfl, hz⟩
    ·have hg2 := hcap _ _ hj2
     simp only [go_sem, hF, hg2, hb, pdOfByte]; apply F; clear F K
     refine Wc.cond (t := decide ((b.toNat : Int) < 128)) (by simp only [go_sem, hF]) (fun hc => ?_) (fun hc => ?_)
     ·have hb8 : b.toNat < 128 := by have : (b.toNat : Int) < 128 := by simpa using hc
                                     omega
      exact Wc.ret (show bodyQ E0 Tryz.f281 Q .ret _ from bodyQ.ret (vs := []) rfl rfl (hQ _ _ (i + 1) (.inr (.inr ⟨i, b, rfl, hb, hb8⟩)) hj2))
     ·refine Wc.skip ?_
      refine gR fun K F => ?_; simp only [go_sem, hF, i64n i (by omega)]; apply F; clear F K
      exact ⟨9 - (i + 1), by omega, i + 1, rfl, by omega, by omega, rfl, by simp only [Fs, nZ, go_sem, hF], hJ _ _ _ hj2⟩
    ·simp only [go_sem, hF]; apply F; clear F K
     refine Wc.cond (t := true) (by simp only [go_sem, hF]) (fun hc => ?_) (fun hc => by cases hc)
     exact Wc.ret (show bodyQ E0 Tryz.f281 Q .ret _ from bodyQ.ret (vs := []) rfl rfl (hQZ _ _ hz))
   ·have h9 : i = 9 := by have : ¬ (i : Int) < 9 := by simpa using hc
                          omega
    exact Wc.exit (bodyQ.normal (vs := []) rfl rfl (hQ _ _ i (.inr (.inl h9)) (hJ _ _ _ hj)))
  ·have d1 : ((i : Int) < (t.length : Int)) = False := by simp; omega
   refine gR fun K F => ?_; simp only [go_sem, hF, hg, d1]; apply F; clear F K
   refine gX (by simp only [go_sem, hF]) ?_
   exact Wc.exit (bodyQ.normal (vs := []) rfl rfl (hQ _ _ i (.inl (by omega)) (hJ _ _ _ hj)))
 ·exact ⟨0, rfl, by omega, by omega, rfl, by simp only [Fs, nZ, go_sem], hJ _ _ _ h0⟩
theorem call264 {s : St} {L : List (Nat × D × Nat × List Pd)} {M : List (Nat × Ob)} {t : List UInt8} {K : D → St → Prop} (h : OA s.nx s L M)
  (F : ∀ s', OA s'.nx s' L ((s.nx, .cells [.p (.str t)] false) :: M) → s.nx < s'.nx → K (.v (.c (.fn (.func 281) [] [.ref s.nx 0]))) s') : wpCall E0 (.v (.c (.p (.fnc 264)))) [.v (.c (.p (.str t)))] s K := by
 refine wpCall.opn (fn := Tryz.f264) (by kernel_rfl) (by kernel_rfl) rfl (by kernel_rfl) rfl ?_; simp only [List.map_cons, List.map_nil, List.cons_append, List.nil_append, List.length_cons, List.length_nil, Tryz.ntmps264, List.replicate, Nat.reduceSub, Nat.reduceAdd]
 refine gS fun K F => ?_; simp only [go_sem]; apply F; clear F K
 refine gS fun K F => ?_; simp only [go_sem]; apply F; clear F K
 refine Wc.ret (Op.ret [.tmp 2] [.c (.fn (.func 281) [] [.ref s.nx 0])] rfl rfl (by simp only [resultsD, go_sem]) (F _ ?_ ?_))
 ·exact by (try simp only [St.nx_put, St.nx_adv]); repeat (first | exact OA.mono h (by omega) | refine OA.newB ?_ (by omega) rfl | refine OA.advB ?_)
 ·simp only [St.nx_adv, St.nx_put]; omega
theorem and127b : ∀ n : Nat, n < 256 → (BitVec.ofInt 8 (n : Int) &&& BitVec.ofInt 8 127).toNat = n % 128 := by decide
theorem and127u8 (n : Nat) (h : n < 256) : andI .u8 (n : Int) 127 = ((n % 128 : Nat) : Int) := by
 unfold andI
 show IntKind.u8.wrap ((BitVec.ofInt 8 (n : Int) &&& BitVec.ofInt 8 127).toNat : Int) = _
 rw [and127b n h, wu8]; omega
theorem shl7 (x i : Nat) (hx : x < 128) (hi : i ≤ 8) : shlI .u64 (x : Int) (7 * i : Nat) = ((x * 2 ^ (7 * i) : Nat) : Int) := by
 unfold shlI
 have e : min ((7 * i : Nat) : Int).toNat (IntKind.u64.bits) = 7 * i := by
  show min ((7 * i : Nat) : Int).toNat 64 = 7 * i
  rw [Int.toNat_natCast]; omega
 rw [e, wu64]
 have h1 : (x : Int) * 2 ^ (7 * i) = ((x * 2 ^ (7 * i) : Nat) : Int) := by rw [Int.natCast_mul, Int.natCast_pow]; rfl
 have h2 : x * 2 ^ (7 * i) < 128 * 2 ^ (7 * i) := Nat.mul_lt_mul_of_pos_right hx (Nat.pow_pos (by omega))
 have h3 : 128 * 2 ^ (7 * i) = 2 ^ (7 * (i + 1)) := by rw [Nat.mul_add, Nat.pow_add, Nat.mul_comm]
 have h4 : 2 ^ (7 * (i + 1)) ≤ 2 ^ 63 := Nat.pow_le_pow_right (by omega) (by omega)
 rw [h1]
 omega
theorem orSum (a x k : Nat) (ha : a < 2 ^ k) (hs : a + x * 2 ^ k < 2 ^ 64) : orI .u64 (a : Int) ((x * 2 ^ k : Nat) : Int) = ((a + x * 2 ^ k : Nat) : Int) := by
 unfold orI
 show IntKind.u64.wrap ((BitVec.ofInt 64 (a : Int) ||| BitVec.ofInt 64 ((x * 2 ^ k : Nat) : Int)).toNat : Int) = _
 have h1 : (BitVec.ofInt 64 (a : Int)).toNat = a := by simp; omega
 have h2 : (BitVec.ofInt 64 ((x * 2 ^ k : Nat) : Int)).toNat = x * 2 ^ k := by
  rw [BitVec.toNat_ofInt]
  omega
 rw [BitVec.toNat_or, h1, h2]
 have h3 : a ||| x * 2 ^ k = a + x * 2 ^ k := by
  rw [Nat.or_comm, Nat.mul_comm x, ← Nat.two_pow_add_eq_or_of_lt ha, Nat.add_comm]
 rw [h3, wu64]
 omega
set_option maxHeartbeats 4000000
/-! ### the reference's way of reading numbers and columns -/
def getB (s : List UInt8) : Int × Nat × Int := if (rdB 0 0 s).2.2 ≠ 0 then (0, 0, (rdB 0 0 s).2.2) else if 2305843009213693952 < (rdB 0 0 s).1 then (0, 0, 12) else ((rdB 0 0 s).1, (rdB 0 0 s).2.1, 0)
theorem rdV_get (s : List UInt8) : rdV s = if (getB s).2.2 = 0 ∧ 1152921504606846976 < (getB s).1 then (0, 0, 12) else getB s := by
 unfold rdV getB
 generalize rdB 0 0 s = p
 obtain ⟨a, b, c⟩ := p
 simp only
 by_cases h0 : c = 0
 ·subst h0
  by_cases h1 : 1152921504606846976 < a
  ·have h1' : (1152921504606846976 : Int) < (a : Int) := by omega
   by_cases h2 : 2305843009213693952 < a
   ·simp [h1, h2]
   ·simp [h1, h2, h1']
  ·have h2 : ¬ 2305843009213693952 < a := by omega
   have h1' : ¬ (1152921504606846976 : Int) < (a : Int) := by omega
   simp [h1, h2, h1']
 ·simp [h0]
theorem getB_le (s : List UInt8) : 0 ≤ (getB s).1 ∧ (getB s).1 ≤ 2305843009213693952 ∧ (getB s).2.1 ≤ s.length ∧ (getB s).2.1 ≤ 9 ∧ ((getB s).2.2 = 0 → 0 < (getB s).2.1) := by
 have := rdB_le s 0 0 (by omega) (by decide)
 unfold getB
 split
 ·refine ⟨by simp, by simp, by simp, by simp, fun h => ?_⟩
  contradiction
 ·rename_i h0
  split
  ·exact ⟨by simp, by simp, by simp, by simp, fun h => by simp at h⟩
  ·refine ⟨by simp only; omega, by simp only; omega, by simp only; omega, by simp only; omega, fun _ => this.2.2.2 (by simpa using h0)⟩
theorem unf_inR {u : Nat} : inR (unf u) = decide (u ≤ 2305843009213693952) := by
 unfold unf inR
 split <;> (rw [Bool.eq_iff_iff]; simp only [Bool.and_eq_true, decide_eq_true_eq]; omega)
theorem rdS_get (s : List UInt8) : rdS s = if (getB s).2.2 ≠ 0 then (0, 0, (getB s).2.2) else (unf (getB s).1.toNat, (getB s).2.1, 0) := by
 unfold rdS getB
 by_cases h0 : (rdB 0 0 s).2.2 = 0
 ·simp only [h0, ne_eq, not_true_eq_false, if_false]
  by_cases h1 : 2305843009213693952 < (rdB 0 0 s).1
  ·rw [if_pos h1, if_pos (by rw [unf_inR]; simp; omega), if_pos (by decide)]
  ·rw [if_neg h1, if_neg (by rw [unf_inR]; simp; omega), if_neg (by simp), Int.toNat_natCast]
 ·rw [if_pos h0, if_pos h0, if_pos h0]
def hdR : Nat → List UInt8 → List Int × List UInt8 × Int
 | 0, s => ([], s, 0)
 | k + 1, s => if (rdS s).2.2 ≠ 0 then ([], s, (rdS s).2.2) else ((rdS s).1 :: (hdR k (s.drop (rdS s).2.1)).1, (hdR k (s.drop (rdS s).2.1)).2)
def rnR : Nat → Nat → List UInt8 → List Int × List UInt8 × Int
 | 0, _, s => ([], s, 0)
 | f + 1, n, s => if n = 0 then ([], s, 0) else
  if (rdS s).2.2 ≠ 0 then ([], s, (rdS s).2.2) else
  let s1 := s.drop (rdS s).2.1
  if (rdV s1).2.2 ≠ 0 then ([], s1, (rdV s1).2.2) else
  let s2 := s1.drop (rdV s1).2.1
  if (rdV s1).1 = 0 ∨ (n : Int) < (rdV s1).1 then ([], s2, 12) else
  (List.replicate (rdV s1).1.toNat (rdS s).1 ++ (rnR f (n - (rdV s1).1.toNat) s2).1, (rnR f (n - (rdV s1).1.toNat) s2).2)
def nmR (s : List UInt8) (a n : Nat) : List Int × List Int × Int :=
 let h := hdR a s
 if h.2.2 ≠ 0 then (h.1, [], h.2.2) else
 let r := rnR n n h.2.1
 if r.2.2 ≠ 0 then (h.1, r.1, r.2.2) else if r.2.1 ≠ [] then (h.1, r.1, 12) else (h.1, r.1, 0)
def smR (f : Int) : List Int → List Int × Bool
 | [] => ([f], true)
 | x :: r => if inR (f + x) = false then ([f], false) else (f :: (smR (f + x) r).1, (smR (f + x) r).2)
theorem hdR_enc : ∀ (l : List Int) (rest : List UInt8), l.all inR = true → hdR l.length (encL l ++ rest) = (l, rest, 0)
 | [], rest, _ => rfl
 | x :: r, rest, h => by
  simp only [List.all_cons, Bool.and_eq_true] at h
  have e : encL (x :: r) ++ rest = vb (zz x) ++ (encL r ++ rest) := by simp [encL]
  have hd : (vb (zz x) ++ (encL r ++ rest)).drop (vb (zz x)).length = encL r ++ rest := by simp
  rw [List.length_cons, e, hdR, rdS_vb h.1, hd, hdR_enc r rest h.2]
  simp
theorem rnR_enc : ∀ (k : Nat) (l : List Int) (rest : List UInt8), l.length ≤ k → l.length ≤ 20000 → l.all inR = true → rnR k l.length (runE l ++ rest) = (l, rest, 0)
 | 0, l, rest, hk, _, _ => by
  have : l = [] := List.length_eq_zero_iff.1 (by omega)
  subst this
  simp [rnR, runE]
 | k + 1, [], rest, hk, _, _ => by simp [rnR, runE]
 | k + 1, x :: r, rest, hk, hm, hr => by
  obtain ⟨m, r', e1, e2, e3⟩ := runE_cons x r
  have hx : inR x = true := by simp only [List.all_cons, Bool.and_eq_true] at hr; exact hr.1
  have hr' : r'.all inR = true := by rw [e1, List.all_append, Bool.and_eq_true] at hr; exact hr.2
  simp only [List.length_cons] at hk hm
  rw [e2, List.append_assoc, List.append_assoc]
  have n1 := rdS_vb hx (vb (m + 1) ++ (runE r' ++ rest))
  have d1 : (vb (zz x) ++ (vb (m + 1) ++ (runE r' ++ rest))).drop (vb (zz x)).length = vb (m + 1) ++ (runE r' ++ rest) := by simp
  have n2 := rdV_vb (n := m + 1) (by omega) (runE r' ++ rest)
  have d2 : (vb (m + 1) ++ (runE r' ++ rest)).drop (vb (m + 1)).length = runE r' ++ rest := by simp
  have ih := rnR_enc k r' rest (by omega) (by omega) hr'
  have el : (x :: r).length - ((m + 1 : Nat) : Int).toNat = r'.length := by simp only [List.length_cons]; omega
  rw [rnR, if_neg (by simp)]
  simp only [n1, d1, n2, d2, el, ih]
  rw [if_neg (by simp), if_neg (by simp), if_neg (by simp only [List.length_cons]; omega)]
  refine Prod.ext ?_ rfl
  show List.replicate ((m + 1 : Nat) : Int).toNat x ++ r' = x :: r
  rw [Int.toNat_natCast, e1]
theorem nmR_enc {a : List Int} {l : List Int} (ha : a.all inR = true) (hl : l.length ≤ 20000) (hr : l.all inR = true) : nmR (encL a ++ runE l) a.length l.length = (a, l, 0) := by
 unfold nmR
 have h2 := rnR_enc l.length l [] (Nat.le_refl _) hl hr
 rw [List.append_nil] at h2
 simp only [hdR_enc a (runE l) ha, h2, ne_eq, not_true_eq_false, if_false]
theorem smR_diffs : ∀ (x : Int) (r : List Int), (∀ y ∈ x :: r, inR y = true) → smR x (diffs (x :: r)) = (x :: r, true)
 | x, [], _ => rfl
 | x, y :: r, h => by
  have hy := h y (by simp)
  have e : x + (y - x) = y := by omega
  simp only [diffs, smR, e, hy]
  rw [smR_diffs y r fun z hz => h z (by simp at hz ⊢; right; exact hz)]
  rfl
def vlR (t : List UInt8) : Option (List Int) :=
 if (rdV t).2.2 ≠ 0 ∨ 20000 < (rdV t).1 then none else
 let n := (rdV t).1.toNat
 let q := nmR (t.drop (rdV t).2.1) (min n 1) (n - 1)
 if q.2.2 ≠ 0 then none else
 if n = 0 then some [] else if (smR (q.1.headD 0) q.2.1).2 then some (smR (q.1.headD 0) q.2.1).1 else none
def tmR (t : List UInt8) : Option (List Int) :=
 if (rdV t).2.2 ≠ 0 ∨ 20000 < (rdV t).1 then none else
 let n := (rdV t).1.toNat
 let q := nmR (t.drop (rdV t).2.1) (min n 2) (n - 2)
 if q.2.2 ≠ 0 then none else
 if n = 0 then some [] else if n = 1 then some q.1 else
 if (smR (q.1.getD 1 0) q.2.1).2 = false then none else
 if (smR (q.1.headD 0) (smR (q.1.getD 1 0) q.2.1).1).2 then some (smR (q.1.headD 0) (smR (q.1.getD 1 0) q.2.1).1).1 else none
def okR (enc : List Int → List UInt8 × Int) (t : List UInt8) (o : Option (List Int)) : Option (List Int) := match o with
 | none => none
 | some l => if (enc l).2 = 0 ∧ (enc l).1 = t then some l else none
set_option linter.unusedSimpArgs false
set_option linter.unusedVariables false
theorem encV_eq {l : List Int} (h : (encV l).2 = 0) : encV l = (vb l.length ++ first1 l ++ runE (diffs l), 0) ∧ l.length ≤ 20000 ∧ l.all inV = true := by
 unfold encV at h ⊢
 split at h
 ·cases h
 ·rename_i h1
  split at h
  ·rename_i h2; rw [if_neg h1, if_pos h2]; exact ⟨rfl, by omega, h2⟩
  ·cases h
theorem vlR_enc {l : List Int} (h : (encV l).2 = 0) : vlR (encV l).1 = some l := by
 obtain ⟨he, hl, hv⟩ := encV_eq h
 have hV := inV_all hv
 have hR : ∀ x ∈ l, inR x = true := fun x hx => inV_R (List.all_eq_true.1 hv x hx)
 have hdR : (diffs l).all inR = true := List.all_eq_true.2 fun d hd => by have := diffs_mem hV d hd; simp [inR]; omega
 have hdl := diffs_len l
 rw [he]
 simp only
 have n1 := rdV_vb (n := l.length) (by omega) (first1 l ++ runE (diffs l))
 rw [← List.append_assoc] at n1
 have hd : (vb l.length ++ first1 l ++ runE (diffs l)).drop (vb l.length).length = first1 l ++ runE (diffs l) := by rw [List.append_assoc]; simp
 unfold vlR
 simp only [n1, hd, Int.toNat_natCast]
 rw [if_neg (by simp; omega)]
 cases l with
 | nil =>
  have := nmR_enc (a := []) (l := []) rfl (by simp) rfl
  simp [first1, diffs, runE, nmR, Go.Proofs.YtedcnhbblgmdnaaGreat.Ab.hdR, rnR]
 | cons x r =>
  have hx : [x].all inR = true := by simp [hR x (by simp)]
  have q := nmR_enc (a := [x]) (l := diffs (x :: r)) hx (by omega) hdR
  have e1 : encL [x] = first1 (x :: r) := by simp [encL, first1]
  have e2 : min (x :: r).length 1 = [x].length := by simp
  have e3 : (x :: r).length - 1 = (diffs (x :: r)).length := by omega
  rw [← e1, e2, e3, q]
  simp only [ne_eq, not_true_eq_false, if_false, List.headD_cons, smR_diffs x r hR]
  simp
theorem tmR_enc {l : List Int} (h : (encT l).2 = 0) : tmR (encT l).1 = some l := by
 have hc : chkT l = 0 := by
  unfold encT at h
  split at h
  ·assumption
  ·exact h
 have he : encT l = (vb l.length ++ first1 l ++ first1 (diffs l) ++ runE (diffs (diffs l)), 0) := by unfold encT; rw [if_pos hc]
 obtain ⟨hl, hV⟩ := chkT_ok hc
 have hR : ∀ x ∈ l, inR x = true := fun x hx => by have := hV x hx; simp [inR]; omega
 have hD := diffs_mem hV
 have hDR : ∀ x ∈ diffs l, inR x = true := fun x hx => by have := hD x hx; simp [inR]; omega
 have hDD := diffs_mem hD
 have hDDR : (diffs (diffs l)).all inR = true := List.all_eq_true.2 fun d hd => by have := hDD d hd; simp [inR]; omega
 have hdl := diffs_len l
 have hddl := diffs_len (diffs l)
 rw [he]
 simp only
 have e0 : vb l.length ++ first1 l ++ first1 (diffs l) ++ runE (diffs (diffs l)) = vb l.length ++ (first1 l ++ (first1 (diffs l) ++ runE (diffs (diffs l)))) := by simp only [List.append_assoc]
 rw [e0]
 have n1 := rdV_vb (n := l.length) (by omega) (first1 l ++ (first1 (diffs l) ++ runE (diffs (diffs l))))
 have hd : (vb l.length ++ (first1 l ++ (first1 (diffs l) ++ runE (diffs (diffs l))))).drop (vb l.length).length = first1 l ++ (first1 (diffs l) ++ runE (diffs (diffs l))) := by simp
 unfold tmR
 simp only [n1, hd, Int.toNat_natCast]
 rw [if_neg (by simp; omega)]
 match l, hl, hR, hDR, hDDR, hdl, hddl with
 | [], _, _, _, _, _, _ => simp [first1, diffs, runE, nmR, Go.Proofs.YtedcnhbblgmdnaaGreat.Ab.hdR, rnR]
 | [x], _, hR, _, _, _, _ =>
  have hx : [x].all inR = true := by simp [hR x (by simp)]
  have q := nmR_enc (a := [x]) (l := []) hx (by simp) rfl
  have e1 : encL [x] ++ runE [] = first1 [x] ++ (first1 (diffs [x]) ++ runE (diffs (diffs [x]))) := by simp [encL, first1, diffs, runE]
  rw [e1] at q
  have e2 : min [x].length 2 = [x].length := by simp
  have e3 : [x].length - 2 = ([] : List Int).length := by simp
  rw [e2, e3, q]
  simp
 | x :: y :: r, hl, hR, hDR, hDDR, hdl, hddl =>
  have hx : [x, y - x].all inR = true := by simp [hR x (by simp), hDR (y - x) (by simp [diffs])]
  have q := nmR_enc (a := [x, y - x]) (l := diffs (diffs (x :: y :: r))) hx (by omega) hDDR
  have e1 : encL [x, y - x] ++ runE (diffs (diffs (x :: y :: r))) = first1 (x :: y :: r) ++ (first1 (diffs (x :: y :: r)) ++ runE (diffs (diffs (x :: y :: r)))) := by simp [encL, first1, diffs]
  rw [e1] at q
  have e2 : min (x :: y :: r).length 2 = [x, y - x].length := by simp
  have e3 : (x :: y :: r).length - 2 = (diffs (diffs (x :: y :: r))).length := by omega
  have s1 : smR (y - x) (diffs (diffs (x :: y :: r))) = (diffs (x :: y :: r), true) := by
   have := smR_diffs (y - x) (diffs (y :: r)) (by simpa [diffs] using hDR)
   simpa [diffs] using this
  have s2 := smR_diffs x (y :: r) hR
  rw [e2, e3, q]
  simp only [ne_eq, not_true_eq_false, if_false, List.headD_cons, List.getD_cons_succ, List.getD_cons_zero, s1, s2]
  simp
theorem colR_can {rd : Nat → RdT → List Int × RdT} {enc : List Int → List UInt8 × Int} {t : List UInt8} (h : (colR rd enc t).2 = 0) : (enc (colR rd enc t).1).2 = 0 ∧ (enc (colR rd enc t).1).1 = t := by
 unfold colR at h ⊢
 simp only at h ⊢
 split at h
 ·cases h
 ·rename_i h1
  rw [if_neg h1]
  split at h
  ·rename_i h2; exact absurd h h2
  ·rename_i h2
   rw [if_neg h2]
   split at h
   ·cases h
   ·rename_i h3
    rw [if_neg h3]
    split at h
    ·rename_i h4; rw [if_pos h4]; exact h4
    ·cases h
theorem tmR_dec (t : List UInt8) : okR encT t (tmR t) = if (decT t).2 = 0 then some (decT t).1 else none := by
 by_cases h : (decT t).2 = 0
 ·obtain ⟨h1, h2⟩ := colR_can h
  have h3 := tmR_enc h1
  rw [h2] at h3
  rw [if_pos h, show tmR t = some (decT t).1 from h3]
  exact if_pos ⟨h1, h2⟩
 ·rw [if_neg h]
  cases hv : tmR t with
  | none => rfl
  | some l =>
   refine if_neg fun ⟨h1, h2⟩ => h ?_
   have := decT_enc h1
   rw [h2] at this
   rw [this]
set_option maxHeartbeats 8000000
set_option maxRecDepth 10000
theorem tmod128 (u : Nat) : (u : Int).tmod 128 = ((u % 128 : Nat) : Int) := rfl
theorem mul7 (i : Nat) (h : i ≤ 8) : IntKind.i64.wrap (7 * (i : Int)) = ((7 * i : Nat) : Int) := by rw [wi64]; omega
theorem shl7i (x i : Nat) (hx : x < 128) (hi : i ≤ 8) : shlI .i64 (x : Int) ((7 * i : Nat) : Int) = ((x * 2 ^ (7 * i) : Nat) : Int) := by
 unfold shlI
 have e : min ((7 * i : Nat) : Int).toNat (IntKind.i64.bits) = 7 * i := by
  show min ((7 * i : Nat) : Int).toNat 64 = 7 * i
  rw [Int.toNat_natCast]; omega
 rw [e, wi64]
 have h1 : (x : Int) * 2 ^ (7 * i) = ((x * 2 ^ (7 * i) : Nat) : Int) := by rw [Int.natCast_mul, Int.natCast_pow]; rfl
 have h2 : x * 2 ^ (7 * i) < 128 * 2 ^ (7 * i) := Nat.mul_lt_mul_of_pos_right hx (Nat.pow_pos (by omega))
 have h3 : 128 * 2 ^ (7 * i) = 2 ^ (7 * (i + 1)) := by rw [Nat.mul_add, Nat.pow_add, Nat.mul_comm]
 have h4 : 2 ^ (7 * (i + 1)) ≤ 2 ^ 63 := Nat.pow_le_pow_right (by omega) (by omega)
 rw [h1]
 omega
theorem sum7 (a x i : Nat) (ha : a < 2 ^ (7 * i)) (hx : x < 128) (hi : i ≤ 8) : a + x * 2 ^ (7 * i) < 2 ^ (7 * (i + 1)) ∧ a + x * 2 ^ (7 * i) < 2 ^ 63 := by
 have h2 : (x + 1) * 2 ^ (7 * i) ≤ 128 * 2 ^ (7 * i) := Nat.mul_le_mul_right _ (by omega)
 rw [Nat.add_mul] at h2
 have h3 : 128 * 2 ^ (7 * i) = 2 ^ (7 * (i + 1)) := by rw [Nat.mul_add, Nat.pow_add, Nat.mul_comm]
 have h4 : 2 ^ (7 * (i + 1)) ≤ 2 ^ 63 := Nat.pow_le_pow_right (by omega) (by omega)
 omega
theorem rdB_step {t : List UInt8} {i acc : Nat} {b : UInt8} (h : t[i]? = some b) : rdB i acc (t.drop i) = if (128 ≤ b.toNat ∧ i = 8) ∨ (b.toNat = 0 ∧ 0 < i) then (0, 0, 12) else if b.toNat < 128 then (acc + b.toNat * 2 ^ (7 * i), i + 1, 0) else rdB (i + 1) (acc + (b.toNat - 128) * 2 ^ (7 * i)) (t.drop (i + 1)) := by
 obtain ⟨h1, h2⟩ := List.getElem?_eq_some_iff.1 h
 rw [List.drop_eq_getElem_cons h1, h2, rdB]
def gtB (p : Nat × Nat × Int) : Int × Nat × Int := if p.2.2 ≠ 0 then (0, 0, p.2.2) else if 2305843009213693952 < p.1 then (0, 0, 12) else (p.1, p.2.1, 0)
theorem pf242 (t : List UInt8) : Pf E0 242 [.c (.p (.str t))] (.tup [.c (.p (pI (getB t).1)), .c (.p (pI (getB t).2.1)), .c (.p (pI (getB t).2.2))]) := by
 have hR0 : gtB (rdB 0 0 (t.drop 0)) = getB t := rfl
 generalize getB t = R at hR0 ⊢
 refine Pf.body (fn := Tryz.f242) (by kernel_rfl) rfl ?_; simp only [List.map_cons, List.map_nil, List.cons_append, List.nil_append, List.length_cons, List.length_nil, Tryz.ntmps242, List.replicate, Nat.reduceSub, Nat.reduceAdd]
 refine gS fun K F => ?_; simp only [go_sem, nZ]; apply F; clear F K
 refine gS fun K F => ?_; simp only [go_sem, nZ]; apply F; clear F K
 refine gS fun K F => ?_; simp only [go_sem, nZ]; apply F; clear F K
 refine Wc.block (Wc.loop (fun k y => ∃ i acc : Nat, k = 9 - i ∧ (i ≤ 8 ∧ acc < 2 ^ (7 * i) ∧ gtB (rdB i acc (t.drop i)) = R) ∧ y.ds = [] ∧ Fs y.e 46 [(0, P' (.str t)), (5, P' (pI acc)), (6, P' (pI i))]) ?_ (k := 9) ⟨0, 0, rfl, ⟨by omega, by decide, hR0⟩, rfl, by simp only [Fs, nZ, go_sem, nZ]⟩)
 clear hR0
 rintro k ⟨e, ds, s1⟩ ⟨i, acc, rfl, ⟨hi, ha, hR⟩, rfl, hF⟩
 simp only [Fs] at hF
 refine Wc.seq (Wc.block ?_)
 refine Wc.seq (Wc.seq ?_)
 by_cases hl : t.length ≤ i
 ·rw [List.drop_of_length_le hl, rdB] at hR
  have d1 : ((t.length : Int) ≤ (i : Int)) = True := by simp; omega
  refine gR fun K F => ?_; simp only [go_sem, nZ, hF, d1]; apply F; clear F K
  refine gT (by simp only [go_sem, nZ, hF, d1]) ?_
  refine gS fun K F => ?_; simp only [go_sem, nZ, hF]; apply F; clear F K
  rw [← hR]
  exact Wc.ret (Pf.ret [.tmp 2, .tmp 3, .tmp 4] [.c (.p (pI 0)), .c (.p (pI 0)), .c (.p (pI 11))] rfl rfl (by simp only [resultsD, go_sem, nZ, hF]) rfl)
 have d1 : ((t.length : Int) ≤ (i : Int)) = False := by simp; omega
 obtain ⟨b, hb⟩ : ∃ b, t[i]? = some b := ⟨t[i], List.getElem?_eq_getElem (by omega)⟩
 have hb8 := b.toNat_lt
 rw [rdB_step hb] at hR
 have hcv : IntKind.i64.wrap (b.toNat : Int) = (b.toNat : Int) := by rw [wi64]; omega
 have hm := mul7 i hi
 have hs := shl7i (b.toNat % 128) i (by omega) hi
 have hsum := sum7 acc (b.toNat % 128) i ha (by omega) hi
 have hw : IntKind.i64.wrap ((acc : Int) + ((b.toNat % 128 * 2 ^ (7 * i) : Nat) : Int)) = ((acc + b.toNat % 128 * 2 ^ (7 * i) : Nat) : Int) := by rw [wi64]; omega
 refine gR fun K F => ?_; simp only [go_sem, nZ, hF, d1]; apply F; clear F K
 refine gF (by simp only [go_sem, nZ, hF, d1]) ?_
 refine gS fun K F => ?_; simp only [go_sem, nZ, hF, hb, pdOfByte, hcv]; apply F; clear F K
 have hn7 : (((7 * i : Nat) : Int) < 0) = False := by simp; omega
 by_cases h128 : 128 ≤ b.toNat
 ·refine Wc.seq (Wc.seq ?_)
  have k128 : ((128 : Int) ≤ (b.toNat : Int)) = True := by simp; omega
  by_cases hi8 : i = 8
  ·have ki : ((i : Int) == 8) = true := by simp; omega
   rw [if_pos (.inl ⟨h128, hi8⟩)] at hR
   refine gR fun K F => ?_; simp only [go_sem, nZ, hF, ki, k128]; apply F; clear F K
   refine gT (by simp only [go_sem, nZ, hF, ki, k128]) ?_
   refine gS fun K F => ?_; simp only [go_sem, nZ, hF]; apply F; clear F K
   rw [← hR]
   exact Wc.ret (Pf.ret [.tmp 2, .tmp 3, .tmp 4] [.c (.p (pI 0)), .c (.p (pI 0)), .c (.p (pI 12))] rfl rfl (by simp only [resultsD, go_sem, nZ, hF]) rfl)
  have ki : ((i : Int) == 8) = false := by simp; omega
  have e1 : b.toNat % 128 = b.toNat - 128 := by omega
  rw [if_neg (by omega), if_neg (by omega), ← e1] at hR
  refine gR fun K F => ?_; simp only [go_sem, nZ, hF, ki]; apply F; clear F K
  refine gF (by simp only [go_sem, nZ, hF, ki]) ?_
  refine gS fun K F => ?_; simp only [go_sem, nZ, hF, tmod128, hm, hn7, hs, hw]; apply F; clear F K
  refine Wc.seq (Wc.seq ?_)
  refine gR fun K F => ?_; simp only [go_sem, nZ, hF, k128]; apply F; clear F K
  refine gT (by simp only [go_sem, nZ, hF, k128]) ?_
  refine Wc.exit ?_
  refine gR fun K F => ?_; simp only [go_sem, nZ, hF, i64n i (by omega)]; apply F; clear F K
  exact ⟨9 - (i + 1), by omega, i + 1, _, rfl, ⟨by omega, hsum.1, hR⟩, rfl, by simp only [Fs, nZ, go_sem, nZ, hF]⟩
 have k128 : ((128 : Int) ≤ (b.toNat : Int)) = False := by simp; omega
 have e1 : b.toNat % 128 = b.toNat := by omega
 rw [e1] at hs hw hsum
 have hcm : ((b.toNat % 128 : Nat) : Int) = (b.toNat : Int) := by rw [e1]
 refine Wc.seqR (fun y => y.ds = [] ∧ Fs y.e 46 [(0, P' (.str t)), (5, P' (pI acc)), (6, P' (pI i)), (7, P' (pI b.toNat))]) ?_ ?_
 ·refine Wc.seq ?_
  rcases Bool.eq_false_or_eq_true ((i : Int) == 8) with ki | ki
  ·refine gR fun K F => ?_; simp only [go_sem, nZ, hF, ki, k128]; apply F; clear F K
   refine gF (by simp only [go_sem, nZ, hF, ki, k128]) ?_
   exact ⟨rfl, by simp only [Fs, nZ, go_sem, nZ, hF]⟩
  ·refine gR fun K F => ?_; simp only [go_sem, nZ, hF, ki, k128]; apply F; clear F K
   refine gF (by simp only [go_sem, nZ, hF, ki, k128]) ?_
   exact ⟨rfl, by simp only [Fs, nZ, go_sem, nZ, hF]⟩
 clear hF d1 e s1
 rintro ⟨e, ds, s1⟩ ⟨rfl, hF⟩
 simp only [Fs] at hF
 have h128' : b.toNat < 128 := by omega
 generalize hV : acc + b.toNat * 2 ^ (7 * i) = V at *
 refine gS fun K F => ?_; simp only [go_sem, nZ, hF, tmod128, hcm, e1, hm, hn7, hs, hw]; apply F; clear F K
 refine Wc.seq (Wc.seq ?_)
 refine gR fun K F => ?_; simp only [go_sem, nZ, hF, k128]; apply F; clear F K
 refine gF (by simp only [go_sem, nZ, hF, k128]) ?_
 by_cases hz : b.toNat = 0 ∧ 0 < i
 ·refine Wc.seq (Wc.seq ?_)
  rw [if_pos (.inr hz)] at hR
  have z1 : ((0 : Int) < (i : Int)) = True := by simp; omega
  have z2 : ((b.toNat : Int) == 0) = true := by simp; omega
  refine gR fun K F => ?_; simp only [go_sem, nZ, hF, z1, z2]; apply F; clear F K
  refine gT (by simp only [go_sem, nZ, hF, z1, z2]) ?_
  refine gS fun K F => ?_; simp only [go_sem, nZ, hF]; apply F; clear F K
  rw [← hR]
  exact Wc.ret (Pf.ret [.tmp 2, .tmp 3, .tmp 4] [.c (.p (pI 0)), .c (.p (pI 0)), .c (.p (pI 12))] rfl rfl (by simp only [resultsD, go_sem, nZ, hF]) rfl)
 rw [if_neg (by omega), if_pos h128'] at hR
 simp only [gtB, ne_eq, not_true_eq_false, if_false] at hR
 refine Wc.seqR (fun y => ¬ 2305843009213693952 < V ∧ y.ds = [] ∧ Fs y.e 46 [(5, P' (pI V)), (6, P' (pI i))]) ?_ ?_
 ·refine Wc.seq ?_
  by_cases hbig : 2305843009213693952 < V
  ·rw [if_pos hbig] at hR
   have kb : ((2305843009213693952 : Int) < (V : Int)) = True := by simp; omega
   by_cases hi0 : 0 < i
   ·have z1 : ((0 : Int) < (i : Int)) = True := by simp; omega
    have z2 : ((b.toNat : Int) == 0) = false := by simp; omega
    refine gR fun K F => ?_; simp only [go_sem, nZ, hF, z1, z2, kb]; apply F; clear F K
    refine gT (by simp only [go_sem, nZ, hF, z1, z2, kb]) ?_
    refine gS fun K F => ?_; simp only [go_sem, nZ, hF]; apply F; clear F K
    rw [← hR]
    exact Wc.ret (Pf.ret [.tmp 2, .tmp 3, .tmp 4] [.c (.p (pI 0)), .c (.p (pI 0)), .c (.p (pI 12))] rfl rfl (by simp only [resultsD, go_sem, nZ, hF]) rfl)
   ·have z1 : ((0 : Int) < (i : Int)) = False := by simp; omega
    refine gR fun K F => ?_; simp only [go_sem, nZ, hF, z1, kb]; apply F; clear F K
    refine gT (by simp only [go_sem, nZ, hF, z1, kb]) ?_
    refine gS fun K F => ?_; simp only [go_sem, nZ, hF]; apply F; clear F K
    rw [← hR]
    exact Wc.ret (Pf.ret [.tmp 2, .tmp 3, .tmp 4] [.c (.p (pI 0)), .c (.p (pI 0)), .c (.p (pI 12))] rfl rfl (by simp only [resultsD, go_sem, nZ, hF]) rfl)
  ·have kb : ((2305843009213693952 : Int) < (V : Int)) = False := by simp; omega
   by_cases hi0 : 0 < i
   ·have z1 : ((0 : Int) < (i : Int)) = True := by simp; omega
    have z2 : ((b.toNat : Int) == 0) = false := by simp; omega
    refine gR fun K F => ?_; simp only [go_sem, nZ, hF, z1, z2, kb]; apply F; clear F K
    refine gF (by simp only [go_sem, nZ, hF, z1, z2, kb]) ?_
    exact ⟨hbig, rfl, by simp only [Fs, nZ, go_sem, nZ, hF]⟩
   ·have z1 : ((0 : Int) < (i : Int)) = False := by simp; omega
    refine gR fun K F => ?_; simp only [go_sem, nZ, hF, z1, kb]; apply F; clear F K
    refine gF (by simp only [go_sem, nZ, hF, z1, kb]) ?_
    exact ⟨hbig, rfl, by simp only [Fs, nZ, go_sem, nZ, hF]⟩
 clear hF e s1
 rintro ⟨e, ds, s1⟩ ⟨hbig, rfl, hF⟩
 simp only [Fs] at hF
 rw [if_neg hbig] at hR
 rw [← hR]
 refine gS fun K F => ?_; simp only [go_sem, nZ, hF, i64n i (by omega)]; apply F; clear F K
 exact Wc.ret (Pf.ret [.tmp 2, .tmp 3, .tmp 4] [.c (.p (pI V)), .c (.p (pI ((i + 1 : Nat) : Int))), .c (.p (pI 0))] rfl rfl (by simp only [resultsD, go_sem, nZ, hF]) rfl)
theorem pf204 (t : List UInt8) : Pf E0 204 [.c (.p (.str t))] (.tup [.c (.p (pI (rdV t).1)), .c (.p (pI (rdV t).2.1)), .c (.p (pI (rdV t).2.2))]) := by
 have p242 := pf242 t
 rw [rdV_get]
 generalize getB t = G at *
 obtain ⟨n, k, er⟩ := G
 simp only at p242 ⊢
 refine Pf.body (fn := Tryz.f204) (by kernel_rfl) rfl ?_; simp only [List.map_cons, List.map_nil, List.cons_append, List.nil_append, List.length_cons, List.length_nil, Tryz.ntmps204, List.replicate, Nat.reduceSub, Nat.reduceAdd]
 refine gS fun K F => ?_; simp only [go_sem, nZ]; apply F; clear F K
 refine gS fun K F => ?_; simp only [go_sem, nZ]
 refine gP (p242) (by kernel_rfl) (by kernel_rfl) rfl rfl ?_
 simp only [go_sem, nZ]; apply F; clear F K
 refine Wc.seq (Wc.seq ?_)
 by_cases he : er = 0
 ·have k0 : (er == 0) = true := by simpa using he
  refine gR fun K F => ?_; simp only [go_sem, nZ, k0]; apply F; clear F K
  refine Wc.cond (t := decide ((1152921504606846976 : Int) < n)) (by simp only [go_sem, nZ]) (fun hc => ?_) (fun hc => ?_)
  ·rw [if_pos ⟨he, of_decide_eq_true hc⟩]
   refine gS fun K F => ?_; simp only [go_sem, nZ]; apply F; clear F K
   exact Wc.ret (Pf.ret [.tmp 2, .tmp 3, .tmp 4] [.c (.p (pI 0)), .c (.p (pI 0)), .c (.p (pI 12))] rfl rfl (by simp only [resultsD, go_sem, nZ]) rfl)
  ·rw [if_neg (fun h => of_decide_eq_false hc h.2)]
   refine Wc.skip (Wc.seq ?_)
   refine gR fun K F => ?_; simp only [go_sem, nZ]; apply F; clear F K
   exact Wc.ret (Pf.ret [.tmp 2, .tmp 3, .tmp 4] [.c (.p (pI n)), .c (.p (pI k)), .c (.p (pI er))] rfl rfl (by simp only [resultsD, go_sem, nZ]) rfl)
 ·have k0 : (er == 0) = false := by simpa using he
  rw [if_neg (fun h => he h.1)]
  refine gR fun K F => ?_; simp only [go_sem, nZ, k0]; apply F; clear F K
  refine gF (by simp only [go_sem, nZ, k0]) ?_
  refine gS fun K F => ?_; simp only [go_sem, nZ]; apply F; clear F K
  exact Wc.ret (Pf.ret [.tmp 2, .tmp 3, .tmp 4] [.c (.p (pI n)), .c (.p (pI k)), .c (.p (pI er))] rfl rfl (by simp only [resultsD, go_sem, nZ]) rfl)
theorem pf269 (t : List UInt8) : Pf E0 269 [.c (.p (.str t))] (.tup [.c (.p (pI (rdS t).1)), .c (.p (pI (rdS t).2.1)), .c (.p (pI (rdS t).2.2))]) := by
 have p242 := pf242 t
 have hle := getB_le t
 rw [rdS_get]
 generalize getB t = G at *
 obtain ⟨n, k, er⟩ := G
 simp only at p242 hle ⊢
 obtain ⟨u, rfl⟩ : ∃ u : Nat, n = (u : Int) := ⟨n.toNat, by omega⟩
 refine Pf.body (fn := Tryz.f269) (by kernel_rfl) rfl ?_; simp only [List.map_cons, List.map_nil, List.cons_append, List.nil_append, List.length_cons, List.length_nil, Tryz.ntmps269, List.replicate, Nat.reduceSub, Nat.reduceAdd]
 refine gS fun K F => ?_; simp only [go_sem, nZ]; apply F; clear F K
 refine gS fun K F => ?_; simp only [go_sem, nZ]
 refine gP (p242) (by kernel_rfl) (by kernel_rfl) rfl rfl ?_
 simp only [go_sem, nZ]; apply F; clear F K
 refine Wc.seq (Wc.seq ?_)
 by_cases he : er = 0
 case neg =>
  have k0 : (er != 0) = true := by simpa using he
  rw [if_pos he]
  refine gR fun K F => ?_; simp only [go_sem, nZ, k0]; apply F; clear F K
  refine gT (by simp only [go_sem, nZ, k0]) ?_
  refine gS fun K F => ?_; simp only [go_sem, nZ]; apply F; clear F K
  exact Wc.ret (Pf.ret [.tmp 2, .tmp 3, .tmp 4] [.c (.p (pI 0)), .c (.p (pI 0)), .c (.p (pI er))] rfl rfl (by simp only [resultsD, go_sem, nZ]) rfl)
 have k0 : (er != 0) = false := by simpa using he
 rw [if_neg (by simpa using he), Int.toNat_natCast]
 unfold unf
 have e1 : IntKind.i64.wrap ((u / 2 : Nat) : Int) = ((u / 2 : Nat) : Int) := by rw [wi64]; omega
 have e3 : IntKind.i64.wrap (IntKind.i64.wrap (0 - ((u / 2 : Nat) : Int)) - 1) = -((u / 2 : Nat) : Int) - 1 := by rw [wi64, wi64]; omega
 refine gR fun K F => ?_; simp only [go_sem, nZ, k0]; apply F; clear F K
 refine gF (by simp only [go_sem, nZ, k0]) ?_
 refine Wc.seq (Wc.seq ?_)
 refine gR fun K F => ?_; simp only [go_sem, nZ, tmod2]; apply F; clear F K
 by_cases hu : u % 2 = 0
 ·have k1 : (((u % 2 : Nat) : Int) == 1) = false := by simp; omega
  rw [if_pos hu]
  refine gF (by simp only [go_sem, nZ, k1]) ?_
  refine gS fun K F => ?_; simp only [go_sem, nZ, tdiv2, e1]; apply F; clear F K
  exact Wc.ret (Pf.ret [.tmp 2, .tmp 3, .tmp 4] [.c (.p (pI ((u / 2 : Nat) : Int))), .c (.p (pI k)), .c (.p (pI 0))] rfl rfl (by simp only [resultsD, go_sem, nZ]) rfl)
 ·have k1 : (((u % 2 : Nat) : Int) == 1) = true := by simp; omega
  rw [if_neg hu]
  refine gT (by simp only [go_sem, nZ, k1]) ?_
  refine gS fun K F => ?_; simp only [go_sem, nZ, tdiv2, e1, e3]; apply F; clear F K
  exact Wc.ret (Pf.ret [.tmp 2, .tmp 3, .tmp 4] [.c (.p (pI (-((u / 2 : Nat) : Int) - 1))), .c (.p (pI k)), .c (.p (pI 0))] rfl rfl (by simp only [resultsD, go_sem, nZ]) rfl)
def cnR (t : List UInt8) : Int × Int := if (rdV t).2.2 ≠ 0 then (0, (rdV t).2.2) else if 20000 < (rdV t).1 then (0, 4) else ((rdV t).1, 0)
theorem pf243 (t : List UInt8) : Pf E0 243 [.c (.p (.str t))] (.tup [.c (.p (pI (cnR t).1)), .c (.p (pI (cnR t).2))]) := by
 have p204 := pf204 t
 unfold cnR
 generalize rdV t = G at *
 obtain ⟨n, k, er⟩ := G
 simp only at p204 ⊢
 refine Pf.body (fn := Tryz.f243) (by kernel_rfl) rfl ?_; simp only [List.map_cons, List.map_nil, List.cons_append, List.nil_append, List.length_cons, List.length_nil, Tryz.ntmps243, List.replicate, Nat.reduceSub, Nat.reduceAdd]
 refine gS fun K F => ?_; simp only [go_sem, nZ]; apply F; clear F K
 refine gS fun K F => ?_; simp only [go_sem, nZ]
 refine gP (p204) (by kernel_rfl) (by kernel_rfl) rfl rfl ?_
 simp only [go_sem, nZ]; apply F; clear F K
 refine Wc.seq (Wc.seq ?_)
 refine gR fun K F => ?_; simp only [go_sem, nZ]; apply F; clear F K
 refine Wc.cond (t := er != 0) (by simp only [go_sem, nZ]) (fun hc => ?_) (fun hc => ?_)
 ·rw [if_pos (by simpa using hc)]
  refine gS fun K F => ?_; simp only [go_sem, nZ]; apply F; clear F K
  exact Wc.ret (Pf.ret [.tmp 2, .tmp 3] [.c (.p (pI 0)), .c (.p (pI er))] rfl rfl (by simp only [resultsD, go_sem, nZ]) rfl)
 rw [if_neg (by simpa using hc)]
 refine Wc.skip (Wc.seq (Wc.seq ?_))
 refine gR fun K F => ?_; simp only [go_sem, nZ]; apply F; clear F K
 refine Wc.cond (t := decide ((20000 : Int) < n)) (by simp only [go_sem, nZ]) (fun hc => ?_) (fun hc => ?_)
 ·rw [if_pos (of_decide_eq_true hc)]
  refine gS fun K F => ?_; simp only [go_sem, nZ]; apply F; clear F K
  exact Wc.ret (Pf.ret [.tmp 2, .tmp 3] [.c (.p (pI 0)), .c (.p (pI 4))] rfl rfl (by simp only [resultsD, go_sem, nZ]) rfl)
 rw [if_neg (of_decide_eq_false hc)]
 refine Wc.skip (Wc.seq ?_)
 refine gR fun K F => ?_; simp only [go_sem, nZ]; apply F; clear F K
 exact Wc.ret (Pf.ret [.tmp 2, .tmp 3] [.c (.p (pI n)), .c (.p (pI 0))] rfl rfl (by simp only [resultsD, go_sem, nZ]) rfl)
set_option linter.unusedSimpArgs false
set_option linter.unusedVariables false
theorem pf239 (t : List UInt8) : Pf E0 239 [.c (.p (.str t))] (.tup [.c (.p (.int .u64 (rdB 0 0 t).1)), .c (.p (pI (rdB 0 0 t).2.1)), .c (.p (.int .i64 (rdB 0 0 t).2.2))]) := by
 refine Pf.body (fn := Tryz.f239) (by kernel_rfl) rfl ?_; simp only [List.map_cons, List.map_nil, List.cons_append, List.nil_append, List.length_cons, List.length_nil, Tryz.ntmps239, List.replicate, Nat.reduceSub, Nat.reduceAdd]
 refine gS fun K F => ?_; simp only [go_sem]; apply F; clear F K
 refine Wc.seqA (fun y => y.ds = [] ∧ Fs y.e 39 [(0, P' (.str t)), (2, .v (.c (.ref 0 0))), (3, .v (.c (.ref 1 0))), (4, .v (.c (.ref 2 0))), (5, .v (.c (.ref 3 0)))] ∧ OA y.s.nx y.s [] [(3, .cells [.p (.int .u64 0)] false), (2, .cells [.p (.int .i64 0)] false), (1, .cells [.p (.int .i64 0)] false), (0, .cells [.p (.int .u64 0)] false)]) ?_ ?_
 ·refine gR fun K F => ?_; simp only [go_sem]; apply F; clear F K
  exact ⟨rfl, rfl, by simp only [Fs, nZ, go_sem], by (try simp only [St.nx_put, St.nx_adv]); repeat (first | exact OA.mono s00_oa (by omega) | refine OA.newB ?_ (by omega) rfl | refine OA.advB ?_)⟩
 rintro ⟨e, ds, s1⟩ ⟨rfl, hF, ho⟩
 simp only [Fs] at hF ho
 refine Wc.seq (Wc.seq ?_)
 refine gR fun K F => ?_; simp only [go_sem, hF]
 refine call264 (ho.adv.mono (by simp only [St.nx_adv]; omega)) fun s2 ho2 hnx => ?_
 simp only [St.nx_adv] at ho2 hnx
 simp only [go_sem, hF]; apply F; clear F K
 refine Wc.block ?_
 have hk0 : (s2.nx + 1 = 0) = False := by simp
 have hk1 : (s2.nx + 1 = 1) = False := by simp; omega
 have hk2 : (s2.nx + 1 = 2) = False := by simp; omega
 refine Wc.iterG (iter281 (r := s1.nx + 2) (frz := false) (t := t))
  (fun i L M => ∃ acc : Nat, L = [] ∧ M = [(s1.nx + 2, .cells [.p (.str t)] false), (3, .cells [.p (.int .u64 acc)] false), (2, .cells [.p (.int .i64 0)] false), (1, .cells [.p (.int .i64 0)] false), (0, .cells [.p (.int .u64 0)] false)] ∧ i ≤ 8 ∧ acc < 2 ^ (7 * i) ∧ rdB 0 0 t = rdB i acc (t.drop i) ∧ ∀ j b, j < i → t[j]? = some b → 128 ≤ b.toNat)
  (fun ex L M => ex = .ret ∧ L = [] ∧ ∃ m, M = [(s1.nx + 2, .cells [.p (.str t)] false), (3, m), (2, .cells [.p (.int .i64 (rdB 0 0 t).2.2)] false), (1, .cells [.p (pI (rdB 0 0 t).2.1)] false), (0, .cells [.p (.int .u64 (rdB 0 0 t).1)] false)])
  (by simp only [go_sem, hF]) ho2 ⟨0, rfl, rfl, by omega, by decide, rfl, fun j b hj => by omega⟩ ?_ ?_ ?_ ?_ ?_
 ·rintro i L M s ⟨acc, rfl, rfl, _⟩ hM
  exact hM (_, _) (List.mem_cons_self ..)
 ·rintro i k a ⟨_, _, b, _, rfl⟩; rfl
 ·rintro i k aa lp s L M ⟨rfl, hi9, b, hb, rfl⟩ ⟨acc, rfl, rfl, hi8, hacc, hrd, hall⟩ hos
  have hb8 := b.toNat_lt
  have hlt := (List.getElem?_eq_some_iff.1 hb).1
  have hst : rdB i acc (t.drop i) = if (128 ≤ b.toNat ∧ i = 8) ∨ (b.toNat = 0 ∧ 0 < i) then (0, 0, 12) else if b.toNat < 128 then (acc + b.toNat * 2 ^ (7 * i), i + 1, 0) else rdB (i + 1) (acc + (b.toNat - 128) * 2 ^ (7 * i)) (t.drop (i + 1)) := by
   rw [List.drop_eq_getElem_cons hlt, (List.getElem?_eq_some_iff.1 hb).2]; rfl
  rw [hst] at hrd
  clear hst
  simp only [setAll, List.zip_cons_cons, List.zip_nil_right]
  refine gS fun K F => ?_; simp only [go_sem, hF]; apply F; clear F K
  refine gR fun K F => ?_; simp only [go_sem, hF]; apply F; clear F K
  refine ⟨rfl, _, _, (hos.mono (by simp only [St.nx_adv]; omega)).adv.adv, fun lq s' hos' => ?_⟩
  refine Wc.block ?_
  have o3 := hos'.at_ (3, .cells [.p (.int .u64 acc)] false) (by simp)
  have o2 := hos'.at_ (2, .cells [.p (.int .i64 0)] false) (by simp)
  have o1 := hos'.at_ (1, .cells [.p (.int .i64 0)] false) (by simp)
  have o0 := hos'.at_ (0, .cells [.p (.int .u64 0)] false) (by simp)
  simp only at o0 o1 o2 o3
  have lay : ∀ (x : St) (n : Nat) (k m : Int) (ob : Ob), OA x.nx x [] [(s2.nx, .loop lq), (s2.nx + 1, .defr), (s1.nx + 2, .cells [.p (.str t)] false), (3, ob), (2, .cells [.p (.int .i64 0)] false), (1, .cells [.p (.int .i64 0)] false), (0, .cells [.p (.int .u64 0)] false)] →
    OA (((x.put 0 (.cells [.p (.int .u64 n)] false)).put 1 (.cells [.p (pI k)] false)).put 2 (.cells [.p (.int .i64 m)] false)).nx (((x.put 0 (.cells [.p (.int .u64 n)] false)).put 1 (.cells [.p (pI k)] false)).put 2 (.cells [.p (.int .i64 m)] false)) []
     [(s2.nx, .loop lq), (s2.nx + 1, .defr), (s1.nx + 2, .cells [.p (.str t)] false), (3, ob), (2, .cells [.p (.int .i64 m)] false), (1, .cells [.p (pI k)] false), (0, .cells [.p (.int .u64 n)] false)] := fun x n k m ob h => by
   have h1 := OA.set (M1 := [(s2.nx, .loop lq), (s2.nx + 1, .defr), (s1.nx + 2, .cells [.p (.str t)] false), (3, ob), (2, .cells [.p (.int .i64 0)] false), (1, .cells [.p (.int .i64 0)] false)]) (M2 := []) (o' := .cells [.p (.int .u64 n)] false) h rfl
   have h2 := OA.set (M1 := [(s2.nx, .loop lq), (s2.nx + 1, .defr), (s1.nx + 2, .cells [.p (.str t)] false), (3, ob), (2, .cells [.p (.int .i64 0)] false)]) (M2 := [(0, .cells [.p (.int .u64 n)] false)]) (o' := .cells [.p (pI k)] false) h1 rfl
   exact OA.set (M1 := [(s2.nx, .loop lq), (s2.nx + 1, .defr), (s1.nx + 2, .cells [.p (.str t)] false), (3, ob)]) (M2 := [(1, .cells [.p (pI k)] false), (0, .cells [.p (.int .u64 n)] false)]) (o' := .cells [.p (.int .i64 m)] false) h2 rfl
  refine Wc.seqR (fun y => ¬((128 ≤ b.toNat ∧ i = 8) ∨ (b.toNat = 0 ∧ 0 < i)) ∧ y.ds = [] ∧ Fs y.e 39 [(2, .v (.c (.ref 0 0))), (3, .v (.c (.ref 1 0))), (4, .v (.c (.ref 2 0))), (5, .v (.c (.ref 3 0))), (6, P' (pI i)), (7, P' (.int .u8 b.toNat))] ∧ ∃ n, y.s = s'.adv n) ?_ ?_
  ·refine Wc.seq ?_
   by_cases hA : (128 ≤ b.toNat ∧ i = 8) ∨ (b.toNat = 0 ∧ 0 < i)
   ·rw [if_pos hA] at hrd
    rcases hA with ⟨h1, h2⟩ | ⟨h1, h2⟩
    ·have d1 : ((128 : Int) ≤ b.toNat) = True := by simp; omega
     have d2 : ((i : Int) == 8) = true := by subst h2; rfl
     refine gR fun K F => ?_; simp only [go_sem, hF, d1, d2]; apply F; clear F K
     refine gT (by simp only [go_sem, hF]) ?_
     refine gS fun K F => ?_; simp only [go_sem, hF, o0, o1, o2]; apply F; clear F K
     refine Wc.ret ⟨[], _, lay _ 0 0 12 (.cells [.p (.int .u64 acc)] false) ?_, rfl, rfl, _, by rw [hrd]; rfl⟩
     exact (hos'.mono (by simp only [St.nx_adv]; omega)).adv.adv
    ·have d1 : ((128 : Int) ≤ b.toNat) = False := by simp; omega
     have d2 : ((b.toNat : Int) == 0) = true := by rw [h1]; rfl
     have d3 : ((0 : Int) < i) = True := by simp; omega
     refine gR fun K F => ?_; simp only [go_sem, hF, d1, d2, d3]; apply F; clear F K
     refine gT (by simp only [go_sem, hF]) ?_
     refine gS fun K F => ?_; simp only [go_sem, hF, o0, o1, o2]; apply F; clear F K
     refine Wc.ret ⟨[], _, lay _ 0 0 12 (.cells [.p (.int .u64 acc)] false) ?_, rfl, rfl, _, by rw [hrd]; rfl⟩
     exact (hos'.mono (by simp only [St.nx_adv]; omega)).adv.adv
   ·by_cases h1 : 128 ≤ b.toNat
    ·have d1 : ((128 : Int) ≤ b.toNat) = True := by simp; omega
     have d2 : ((i : Int) == 8) = false := by simp; omega
     have d3 : ((b.toNat : Int) == 0) = false := by simp; omega
     refine gR fun K F => ?_; simp only [go_sem, hF, d1, d2, d3]; apply F; clear F K
     refine gF (by simp only [go_sem, hF]) ?_
     exact ⟨hA, rfl, by simp only [Fs, nZ, go_sem, hF], _, rfl⟩
    ·have d1 : ((128 : Int) ≤ b.toNat) = False := by simp; omega
     by_cases h2 : b.toNat = 0
     ·have d2 : ((b.toNat : Int) == 0) = true := by rw [h2]; rfl
      have d3 : ((0 : Int) < i) = False := by simp; omega
      refine gR fun K F => ?_; simp only [go_sem, hF, d1, d2, d3]; apply F; clear F K
      refine gF (by simp only [go_sem, hF]) ?_
      exact ⟨hA, rfl, by simp only [Fs, nZ, go_sem, hF], _, rfl⟩
     ·have d2 : ((b.toNat : Int) == 0) = false := by simp; omega
      refine gR fun K F => ?_; simp only [go_sem, hF, d1, d2]; apply F; clear F K
      refine gF (by simp only [go_sem, hF]) ?_
      exact ⟨hA, rfl, by simp only [Fs, nZ, go_sem, hF], _, rfl⟩
  ·clear hF
   rintro ⟨e, ds, s3⟩ ⟨hA, rfl, hF, n3, rfl⟩
   simp only [Fs] at hF
   rw [if_neg hA] at hrd
   have hm : b.toNat % 128 < 128 := Nat.mod_lt _ (by omega)
   have hp : 2 ^ (7 * (i + 1)) = 128 * 2 ^ (7 * i) := by rw [Nat.mul_add, Nat.pow_add, Nat.mul_comm]
   have hp2 : 2 ^ (7 * (i + 1)) ≤ 2 ^ 63 := Nat.pow_le_pow_right (by omega) (by omega)
   have hp3 : (b.toNat % 128 + 1) * 2 ^ (7 * i) ≤ 128 * 2 ^ (7 * i) := Nat.mul_le_mul_right _ (by omega)
   rw [Nat.add_mul] at hp3
   have w1 : IntKind.u64.wrap ((b.toNat % 128 : Nat) : Int) = ((b.toNat % 128 : Nat) : Int) := by rw [wu64]; omega
   have w2 : IntKind.i64.wrap (7 * (i : Int)) = ((7 * i : Nat) : Int) := by rw [wi64]; omega
   have w3 : (((7 * i : Nat) : Int) < 0) = False := by simp; omega
   have w4 := shl7 (b.toNat % 128) i hm hi8
   have w5 := orSum acc (b.toNat % 128) (7 * i) hacc (by omega)
   generalize hacc2 : acc + b.toNat % 128 * 2 ^ (7 * i) = acc2 at w5
   refine Wc.seq ?_
   refine Wc.regT fun K F => ?_; simp only [go_sem, hF, o3, and127u8 b.toNat (by omega), w1, w2, w3, w4, w5]; refine ⟨by rfl, F _ _ ?_⟩; clear F K
   refine gS fun K F => ?_; simp only [go_sem, hF]; apply F; clear F K
   have hset := OA.set (M1 := [(s2.nx, .loop lq), (s2.nx + 1, .defr), (s1.nx + 2, .cells [.p (.str t)] false)]) (k := 3) (o' := .cells [.p (.int .u64 acc2)] false) (hos'.adv (n := n3) |>.adv (n := 9)) rfl
   refine Wc.cond (t := decide ((b.toNat : Int) < 128)) (by simp only [go_sem, hF]) (fun hc => ?_) (fun hc => ?_)
   ·have hb1 : b.toNat < 128 := by have : (b.toNat : Int) < 128 := by simpa using hc
                                   omega
    rw [if_pos hb1] at hrd
    have hbm : b.toNat % 128 = b.toNat := Nat.mod_eq_of_lt hb1
    rw [hbm] at hacc2
    rw [hacc2] at hrd
    refine gS fun K F => ?_; simp only [go_sem, hF, o0, o1, o2, i64n i (by omega)]; apply F; clear F K
    refine Wc.ret ⟨[], _, lay _ acc2 ((i + 1 : Nat) : Int) 0 (.cells [.p (.int .u64 acc2)] false) ?_, rfl, rfl, _, by rw [hrd]⟩
    exact (hset.mono (by simp only [St.nx_put, St.nx_adv]; omega)).adv.adv
   ·have hb1 : ¬ b.toNat < 128 := by have : ¬ (b.toNat : Int) < 128 := by simpa using hc
                                     omega
    rw [if_neg hb1] at hrd
    have hbm : b.toNat - 128 = b.toNat % 128 := by omega
    rw [hbm, hacc2] at hrd
    refine Wc.skip ⟨[], _, (hset.mono (by simp only [St.nx_put, St.nx_adv]; omega)).adv, acc2, rfl, rfl, by omega, by omega, hrd, fun j c hj hc => ?_⟩
    rcases Nat.lt_or_ge j i with h | h
    ·exact hall j c h hc
    ·have : j = i := by omega
     subst this
     rw [hb] at hc; cases hc; omega
 ·rintro L M s' i hlast hos ⟨acc, rfl, rfl, hi8, hacc, hrd, hall⟩
  have hil : i = t.length := by
   rcases hlast with h | h | ⟨j, b, rfl, hb, hlt⟩
   ·exact h
   ·omega
   ·have := hall j b (by omega) hb; omega
  subst hil
  rw [List.drop_length] at hrd
  have o2 := hos.at_ (2, .cells [.p (.int .i64 0)] false) (by simp)
  have o1 := hos.at_ (1, .cells [.p (.int .i64 0)] false) (by simp)
  have o0 := hos.at_ (0, .cells [.p (.int .u64 0)] false) (by simp)
  have gd := hos.at_ (s2.nx + 1, .defr) (by simp)
  simp only at o0 o1 o2 gd
  refine gS fun K F => ?_; simp only [go_sem, hF, o0, o1, o2]; apply F; clear F K
  have hk0' : (0 = s2.nx + 1) = False := by simp
  have hk1' : (1 = s2.nx + 1) = False := by simp; omega
  have hk2' : (2 = s2.nx + 1) = False := by simp; omega
  rw [hrd]
  exact Wc.ret (Pf.ret1 [.cell 2 216, .cell 3 3, .cell 4 32] [.c (.p (.int .u64 0)), .c (.p (pI 0)), .c (.p (.int .i64 11))] rfl (by simp only [go_sem, hk0', hk1', hk2', gd]) rfl (by simp only [resultsD, go_sem, hF, o0, o1, o2, hk0, hk1, hk2]) rfl)
 ·rintro ex L M s' hne hos ⟨rfl, rfl, m, rfl⟩
  have g2 := hos.at_ (2, .cells [.p (.int .i64 (rdB 0 0 t).2.2)] false) (by simp)
  have g1 := hos.at_ (1, .cells [.p (pI (rdB 0 0 t).2.1)] false) (by simp)
  have g0 := hos.at_ (0, .cells [.p (.int .u64 (rdB 0 0 t).1)] false) (by simp)
  have gd := hos.at_ (s2.nx + 1, .defr) (by simp)
  simp only at g0 g1 g2 gd
  exact Pf.ret1 [.cell 2 216, .cell 3 3, .cell 4 32] [.c (.p (.int .u64 (rdB 0 0 t).1)), .c (.p (pI (rdB 0 0 t).2.1)), .c (.p (.int .i64 (rdB 0 0 t).2.2))] rfl gd rfl (by simp only [resultsD, go_sem, hF, g0, g1, g2, hk0, hk1, hk2]) rfl
end Go.Proofs.YtedcnhbblgmdnaaGreat.Ab
