/- A part of the proof. -/
import Derived.Test.YtedcnhbblgmdnaaGreatT30
namespace Go.Proofs.YtedcnhbblgmdnaaGreat.Ab
set_option maxHeartbeats 8000000
set_option maxRecDepth 10000
set_option linter.unusedSimpArgs false
set_option linter.unusedVariables false
theorem pf206 (t : List UInt8) (ht : t.length < 2^40) : ∃ d, Pf E0 206 [.c (.p (.str t))] d ∧ clR (okR encT t (tmR t)) d := by
 refine Pf.bodyE (fn := Tryz.f206) (by kernel_rfl) rfl ?_; simp only [List.map_cons, List.map_nil, List.cons_append, List.nil_append, List.length_cons, List.length_nil, Tryz.ntmps206, List.replicate, Nat.reduceSub, Nat.reduceAdd]
 generalize hO : okR encT t (tmR t) = O
 unfold tmR at hO
 have p243 := pf243 t
 have p204 := pf204 t
 unfold cnR at p243
 obtain ⟨b1, b2, b3, b4⟩ := rdV_le t
 obtain ⟨N, hN⟩ : ∃ N : Nat, (rdV t).1 = (N : Int) := ⟨(rdV t).1.toNat, by omega⟩
 rw [hN] at hO p243 p204
 rw [Int.toNat_natCast] at hO
 generalize (rdV t).2.1 = sz at *
 generalize (rdV t).2.2 = er at *
 refine gS fun K F => ?_; simp only [go_sem, nZ]; apply F; clear F K
 by_cases hbad : er ≠ 0 ∨ 20000 < (N : Int)
 ·rw [if_pos hbad] at hO
  simp only [okR] at hO
  subst hO
  obtain ⟨q, hq, h0⟩ : ∃ q, (if er ≠ 0 then ((0 : Int), er) else if 20000 < (N : Int) then (0, 4) else ((N : Int), 0)) = (0, q) ∧ q ≠ 0 := by
   by_cases h : er ≠ 0
   ·exact ⟨er, if_pos h, h⟩
   ·exact ⟨4, by rw [if_neg h, if_pos (hbad.resolve_left h)], by decide⟩
  rw [hq] at p243
  have hF : (q != 0) = true := by simpa using h0
  refine gS fun K F => ?_; simp only [go_sem, nZ]
  refine gP (p243) (by kernel_rfl) (by kernel_rfl) rfl rfl ?_
  simp only [go_sem, nZ]; apply F; clear F K
  refine Wc.seq (Wc.seq ?_)
  refine gR fun K F => ?_; simp only [go_sem, nZ, hF]; apply F; clear F K
  refine gT (by simp only [go_sem, nZ, hF]) ?_
  refine gS fun K F => ?_; simp only [go_sem, nZ]; apply F; clear F K
  refine Wc.ret (thenD_ret ?_)
  exact (show bodyQ E0 Tryz.f206 _ .ret _ from Pf.retC (y := .lst 0 []) [.tmp 2, .tmp 3] rfl rfl (by simp only [resultsD, go_sem, nZ, hF]; exact ⟨_, rfl, rfl⟩) (clR_none h0))
 have he : er = 0 := by
  by_cases h : er = 0
  ·exact h
  ·exact absurd (.inl h) hbad
 have hN2 : N ≤ 20000 := by
  by_cases h : 20000 < (N : Int)
  ·exact absurd (.inr h) hbad
  ·omega
 rw [if_neg hbad] at hO
 dsimp only at hO
 rw [if_neg (by simpa using he), if_neg (by omega)] at p243
 simp only at p243
 have c1 : ((sz : Int) ≤ (t.length : Int)) = True := by simp; omega
 have hmn : minI (N : Int) 2 = ((min N 2 : Nat) : Int) := min_nat N 2
 have hmx : maxI (IntKind.i64.wrap ((N : Int) - 2)) 0 = ((N - 2 : Nat) : Int) := max_nat N 2 hN2 (by omega)
 have p244 := pf244 (t.drop sz) (min N 2) (N - 2) (by simp; omega) (by omega) (by omega)
 have hok := nmR_ok (t.drop sz) (min N 2) (N - 2)
 generalize nmR (t.drop sz) (min N 2) (N - 2) = Q at *
 obtain ⟨H, Lq, eq⟩ := Q
 simp only at p244 hok hO
 obtain ⟨ok1, ok2, ok3, ok4⟩ := hok
 refine gS fun K F => ?_; simp only [go_sem, nZ]
 refine gP (p243) (by kernel_rfl) (by kernel_rfl) rfl rfl ?_
 simp only [go_sem, nZ]; apply F; clear F K
 refine Wc.seq (Wc.seq ?_)
 refine gR fun K F => ?_; simp only [go_sem, nZ, b00]; apply F; clear F K
 refine gF (by simp only [go_sem, nZ, b00]) ?_
 refine gS fun K F => ?_; simp only [go_sem, nZ]
 refine gP (p204) (by kernel_rfl) (by kernel_rfl) rfl rfl ?_
 simp only [go_sem, nZ]; apply F; clear F K
 refine gS fun K F => ?_; simp only [go_sem, nZ, c1, slice_from, Int.le_refl, minB2, maxB2, hmn, hmx]
 refine gP (p244) (by kernel_rfl) (by kernel_rfl) rfl rfl ?_
 simp only [go_sem, nZ]; apply F; clear F K
 refine Wc.seq (Wc.seq ?_)
 refine gR fun K F => ?_; simp only [go_sem, nZ]; apply F; clear F K
 refine Wc.cond (t := eq != 0) (by simp only [go_sem, nZ]) (fun hc => ?_) (fun hc => ?_)
 ·have h0 : eq ≠ 0 := by simpa using hc
  rw [if_pos h0] at hO
  simp only [okR] at hO
  subst hO
  have hF := hc
  refine gS fun K F => ?_; simp only [go_sem, nZ]; apply F; clear F K
  refine Wc.ret (thenD_ret ?_)
  exact (show bodyQ E0 Tryz.f206 _ .ret _ from Pf.retC (y := .lst 0 []) [.tmp 2, .tmp 3] rfl rfl (by simp only [resultsD, go_sem, nZ, hF]; exact ⟨_, rfl, rfl⟩) (clR_none h0))
 have hq0 : eq = 0 := by simpa using hc
 rw [if_neg (by simpa using hq0)] at hO
 have hHl := ok1 hq0
 refine Wc.skip (Wc.seqA (fun y => ∃ xc, purS xc = some (.lst 0 []) ∧ y.ds = [] ∧ Fs y.e 88 [(0, P' (.str t)), (4, P' (pI N)), (9, P' (.lst H.length (H.map pI))), (10, P' (.lst Lq.length (Lq.map pI))), (11, .v (.c xc))]) ?_ ?_)
 ·refine gR fun K F => ?_; simp only [go_sem, nZ]; apply F; clear F K
  exact ⟨rfl, .own 0 [] 38, rfl, rfl, by simp only [Fs, nZ, go_sem, nZ]⟩
 rintro ⟨e, ds, s1⟩ ⟨xc, hxc, rfl, hF⟩
 simp only [Fs] at hF
 refine Wc.seqR (fun y => ∃ xc, ((N = 0 → purS xc = some (.lst 0 [])) ∧ (N = 1 → purS xc = some (.lst H.length (H.map pI))) ∧ True) ∧ y.ds = [] ∧ Fs y.e 88 [(0, P' (.str t)), (4, P' (pI N)), (9, P' (.lst H.length (H.map pI))), (10, P' (.lst Lq.length (Lq.map pI))), (11, .v (.c xc))]) ?_ ?_
 ·refine gS fun K F => ?_; simp only [go_sem, nZ, hF]; apply F; clear F K
  refine Wc.cond (t := (N : Int) == 1) (by simp only [go_sem, nZ, hF]) (fun hc => ?_) (fun hc => ?_)
  ·have hN1 : N = 1 := by have := eq_of_beq hc; omega
   refine gR fun K F => ?_; simp only [go_sem, nZ, hF]; apply F; clear F K
   exact ⟨.p (.lst H.length (H.map pI)), ⟨fun h => by omega, fun _ => rfl, trivial⟩, rfl, by simp only [Fs, nZ, go_sem, nZ, hF]⟩
  ·have hN1 : N ≠ 1 := by have := ne_of_beq_false hc; omega
   exact Wc.skip ⟨xc, ⟨fun _ => hxc, fun h => absurd h hN1, trivial⟩, rfl, by simp only [Fs, nZ, go_sem, nZ, hF]⟩
 clear hF hxc e s1 xc
 rintro ⟨e, ds, s1⟩ ⟨xc, ⟨x0, x1, _⟩, rfl, hF⟩
 simp only [Fs] at hF
 refine Wc.seqR (fun y => ∃ xc l, (purS xc = some (.lst l.length (l.map pI)) ∧ l.length ≤ 20002 ∧ okR encT t (some l) = O) ∧ y.ds = [] ∧ Fs y.e 88 [(0, P' (.str t)), (11, .v (.c xc))]) ?_ ?_
 ·refine gS fun K F => ?_; simp only [go_sem, nZ, hF]; apply F; clear F K
  refine Wc.cond (t := decide ((1 : Int) < N)) (by simp only [go_sem, nZ, hF]) (fun hc => ?_) (fun hc => ?_)
  ·have hN0 : 1 < N := by have := of_decide_eq_true hc; omega
   rw [if_neg (by omega), if_neg (by omega)] at hO
   have hm1 : min N 2 = 2 := by omega
   rw [hm1] at hHl
   obtain ⟨x, z, rfl⟩ : ∃ x z, H = [x, z] := by
    match H, hHl with
    | [x, z], _ => exact ⟨x, z, rfl⟩
   have hi0 := ixA ti175 rfl ti3 (j := 0) (m := 2) (cs := [pI x, pI z]) (by decide) rfl (by decide)
   have hi1 := ixA ti175 rfl ti3 (j := 1) (m := 2) (cs := [pI x, pI z]) (by decide) rfl (by decide)
   have hc0 := rpA (off := 0) (cs := [pI x, pI z]) (pre := [pI x]) (rest := [pI z]) rfl (by simp)
   have hc1 := rpA (off := 1) (cs := [pI x, pI z]) (pre := [pI z]) (rest := []) rfl (by simp)
   simp only [nZ, Nat.zero_mul] at hi0
   rw [show ((1 : Nat) : Int) = 1 from rfl, Nat.mul_one] at hi1
   have p245 := pf245 z Lq (by omega) (ok2 z (by simp)) ok3
   have hsm := smR_ok Lq z (ok2 z (by simp))
   rw [show ([x, z] : List Int).headD 0 = x from rfl, show ([x, z] : List Int).getD 1 0 = z from rfl] at hO
   generalize smR z Lq = Z at *
   obtain ⟨dl, okz⟩ := Z
   simp only at p245 hsm
   refine gS fun K F => ?_; simp only [go_sem, nZ, hF, hi1, hc1]
   refine gP (p245) (by kernel_rfl) (by kernel_rfl) rfl rfl ?_
   simp only [go_sem, nZ, hF]; apply F; clear F K
   cases okz with
   | false =>
    rw [if_pos rfl] at hO
    simp only [okR] at hO
    subst hO
    have h0 := b12
    refine Wc.seq (Wc.seq ?_)
    refine gR fun K F => ?_; simp only [go_sem, nZ, hF]; apply F; clear F K
    refine gF (by simp only [go_sem, nZ, hF]) ?_
    refine gS fun K F => ?_; simp only [go_sem, nZ, hF]; apply F; clear F K
    refine gT (by simp only [go_sem, nZ, hF]) ?_
    refine gS fun K F => ?_; simp only [go_sem, nZ, hF]; apply F; clear F K
    refine Wc.ret (thenD_ret ?_)
    exact (show bodyQ E0 Tryz.f206 _ .ret _ from Pf.retC (y := .lst 0 []) [.tmp 2, .tmp 3] rfl rfl (by simp only [resultsD, go_sem, nZ, hF]; exact ⟨_, rfl, rfl⟩) (clR_none h0))
   | true =>
   rw [if_neg (show ¬ (true = false) by decide)] at hO
   dsimp only at hO
   have p245 := pf245 x dl (by omega) (ok2 x (by simp)) hsm.1
   have hsm2 := smR_ok dl x (ok2 x (by simp))
   generalize smR x dl = Z at *
   obtain ⟨l, okz⟩ := Z
   simp only at p245 hO hsm2
   refine Wc.seq (Wc.seq ?_)
   refine gR fun K F => ?_; simp only [go_sem, nZ, hF]; apply F; clear F K
   refine gT (by simp only [go_sem, nZ, hF]) ?_
   refine gR fun K F => ?_; simp only [go_sem, nZ, hF, hi0, hc0]
   refine gP (p245) (by kernel_rfl) (by kernel_rfl) rfl rfl ?_
   simp only [go_sem, nZ, hF]; apply F; clear F K
   refine gS fun K F => ?_; simp only [go_sem, nZ, hF]; apply F; clear F K
   cases okz with
   | false =>
    rw [if_neg (by decide)] at hO
    simp only [okR] at hO
    subst hO
    have h0 := b12
    refine gT (by simp only [go_sem, nZ, hF]) ?_
    refine gS fun K F => ?_; simp only [go_sem, nZ, hF]; apply F; clear F K
    refine Wc.ret (thenD_ret ?_)
    exact (show bodyQ E0 Tryz.f206 _ .ret _ from Pf.retC (y := .lst 0 []) [.tmp 2, .tmp 3] rfl rfl (by simp only [resultsD, go_sem, nZ, hF]; exact ⟨_, rfl, rfl⟩) (clR_none h0))
   | true =>
    rw [if_pos rfl] at hO
    refine gF (by simp only [go_sem, nZ, hF]) ?_
    exact ⟨.p (.lst l.length (l.map pI)), l, ⟨rfl, by omega, hO⟩, rfl, by simp only [Fs, nZ, go_sem, nZ, hF]⟩
  ·have hN0 : ¬ 1 < N := by have := of_decide_eq_false hc; omega
   by_cases hN1 : N = 1
   ·rw [if_neg (by omega), if_pos hN1] at hO
    exact Wc.skip ⟨xc, H, ⟨x1 hN1, by omega, hO⟩, rfl, by simp only [Fs, nZ, go_sem, nZ, hF]⟩
   ·have hN2 : N = 0 := by omega
    rw [if_pos hN2] at hO
    exact Wc.skip ⟨xc, [], ⟨x0 hN2, by simp, hO⟩, rfl, by simp only [Fs, nZ, go_sem, nZ, hF]⟩
 clear hF hO x0 x1 e s1 xc
 rintro ⟨e, ds, s1⟩ ⟨xc, l, ⟨hxc, hl, hO⟩, rfl, hF⟩
 simp only [Fs] at hF
 have p122 := pf122 l (by omega)
 simp only [okR] at hO
 generalize encT l = E at *
 obtain ⟨d, ed⟩ := E
 simp only at p122 hO
 refine Wc.seqR (fun y => O = some l ∧ y.ds = [] ∧ Fs y.e 88 [(11, .v (.c xc))]) ?_ ?_
 ·refine gS fun K F => ?_; simp only [go_sem, nZ, hF]
  refine wpCall.pf p122 (by kernel_rfl) (by kernel_rfl) rfl (purVs_c1 hxc) ?_
  simp only [go_sem, nZ, hF]; apply F; clear F K
  refine Wc.seq ?_
  have h0 := b12
  by_cases he : ed = 0
  ·have k0 : (ed != 0) = false := by simpa using he
   refine gR fun K F => ?_; simp only [go_sem, nZ, hF, k0]; apply F; clear F K
   refine Wc.cond (t := !(d == t)) (by simp only [go_sem, nZ, hF]) (fun hc => ?_) (fun hc => ?_)
   ·have hne : d ≠ t := by simpa using hc
    rw [if_neg (fun h => hne h.2)] at hO
    subst hO
    refine gS fun K F => ?_; simp only [go_sem, nZ, hF]; apply F; clear F K
    refine Wc.ret (thenD_ret ?_)
    exact (show bodyQ E0 Tryz.f206 _ .ret _ from Pf.retC (y := .lst 0 []) [.tmp 2, .tmp 3] rfl rfl (by simp only [resultsD, go_sem, nZ, hF]; exact ⟨_, rfl, rfl⟩) (clR_none h0))
   ·have hd : d = t := by simpa using hc
    rw [if_pos ⟨he, hd⟩] at hO
    exact Wc.skip ⟨hO.symm, rfl, by simp only [Fs, nZ, go_sem, nZ, hF]⟩
  ·have k0 : (ed != 0) = true := by simpa using he
   rw [if_neg (fun h => he h.1)] at hO
   subst hO
   refine gR fun K F => ?_; simp only [go_sem, nZ, hF, k0]; apply F; clear F K
   refine gT (by simp only [go_sem, nZ, hF, k0]) ?_
   refine gS fun K F => ?_; simp only [go_sem, nZ, hF]; apply F; clear F K
   refine Wc.ret (thenD_ret ?_)
   exact (show bodyQ E0 Tryz.f206 _ .ret _ from Pf.retC (y := .lst 0 []) [.tmp 2, .tmp 3] rfl rfl (by simp only [resultsD, go_sem, nZ, hF]; exact ⟨_, rfl, rfl⟩) (clR_none h0))
 clear hF e s1
 rintro ⟨e, ds, s1⟩ ⟨rfl, rfl, hF⟩
 simp only [Fs] at hF
 refine gS fun K F => ?_; simp only [go_sem, nZ, hF]; apply F; clear F K
 exact Wc.ret (Pf.retC [.tmp 2, .tmp 3] rfl rfl (by simp only [resultsD, go_sem, nZ, hF]; exact ⟨_, rfl, hxc⟩) (clR_some l))
abbrev RdR := List UInt8 × Bool
abbrev rdP (r : RdR) : List C := [.p (.str r.1), .p (.bool r.2)]
def nbR (r : RdR) : Int × RdR := if r.2 = true ∨ (rdV r.1).2.2 ≠ 0 then (0, ([], true)) else ((rdV r.1).1, (r.1.drop (rdV r.1).2.1, false))
def ptR (r : RdR) : List UInt8 × RdR := if (nbR r).2.2 = true ∨ ((nbR r).2.1.length : Int) < (nbR r).1 then ([], ([], true)) else ((nbR r).2.1.take (nbR r).1.toNat, ((nbR r).2.1.drop (nbR r).1.toNat, false))
def clO (O : Option (List Int)) (r : RdR) : List Int × RdR := match O with
 | none => ([], ([], true))
 | some l => if r.2 = true then ([], ([], true)) else (l, r)
def vsR (r : RdR) : List Int × RdR := clO (okR encV (ptR r).1 (vlR (ptR r).1)) (ptR r).2
def tsR (r : RdR) : List Int × RdR := clO (okR encT (ptR r).1 (tmR (ptR r).1)) (ptR r).2
theorem nbR_le (r : RdR) : 0 ≤ (nbR r).1 ∧ (nbR r).1 ≤ 1152921504606846976 ∧ (nbR r).2.1.length ≤ r.1.length := by
 have := rdV_le r.1
 unfold nbR
 split
 ·simp
 ·simp only [List.length_drop]; omega
theorem ptR_le (r : RdR) : (ptR r).1.length ≤ r.1.length ∧ (ptR r).2.1.length ≤ r.1.length := by
 have := nbR_le r
 unfold ptR
 split
 ·simp
 ·simp only [List.length_drop, List.length_take]; omega
theorem pf130 (r : RdR) : Pf E0 130 [.agg (rdP r)] (.tup [.c (.p (pI (nbR r).1)), .agg (rdP (nbR r).2)]) := by
 obtain ⟨s, b⟩ := r
 have p204 := pf204 s
 have hle := rdV_le s
 unfold nbR
 simp only
 generalize rdV s = G at *
 obtain ⟨n, k, er⟩ := G
 simp only at p204 hle ⊢
 have c1 : ((k : Int) ≤ (s.length : Int)) = True := by simp; omega
 refine Pf.body (fn := Tryz.f130) (by kernel_rfl) rfl ?_; simp only [List.map_cons, List.map_nil, List.cons_append, List.nil_append, List.length_cons, List.length_nil, Tryz.ntmps130, List.replicate, Nat.reduceSub, Nat.reduceAdd]
 refine gS fun K F => ?_; simp only [go_sem, nZ]; apply F; clear F K
 refine gS fun K F => ?_; simp only [go_sem, nZ]
 refine gP (p204) (by kernel_rfl) (by kernel_rfl) rfl rfl ?_
 simp only [go_sem, nZ]; apply F; clear F K
 refine Wc.seq (Wc.seq ?_)
 cases b with
 | true =>
  rw [if_pos (.inl rfl)]
  refine gR fun K F => ?_; simp only [go_sem, nZ]; apply F; clear F K
  refine gT (by simp only [go_sem, nZ]) ?_
  refine gS fun K F => ?_; simp only [go_sem, nZ]; apply F; clear F K
  exact Wc.ret (Pf.ret [.tmp 2, .cell 3 189] [.c (.p (pI 0)), .agg [.p (.str []), .p (.bool true)]] rfl rfl (by simp only [resultsD, go_sem, nZ]) rfl)
 | false =>
  refine gR fun K F => ?_; simp only [go_sem, nZ]; apply F; clear F K
  refine Wc.cond (t := er != 0) (by simp only [go_sem, nZ]) (fun hc => ?_) (fun hc => ?_)
  ·rw [if_pos (.inr (by simpa using hc))]
   refine gS fun K F => ?_; simp only [go_sem, nZ]; apply F; clear F K
   exact Wc.ret (Pf.ret [.tmp 2, .cell 3 189] [.c (.p (pI 0)), .agg [.p (.str []), .p (.bool true)]] rfl rfl (by simp only [resultsD, go_sem, nZ]) rfl)
  ·rw [if_neg (by rintro (h | h); cases h; exact h (by simpa using hc))]
   refine Wc.skip (Wc.seq ?_)
   refine Wc.regT fun K F => ?_; simp only [go_sem, nZ, c1, slice_from, Int.le_refl]; refine ⟨by rw [trOK_eq3]; rfl, F _ _ ?_⟩; clear F K
   exact Wc.ret (Pf.ret [.tmp 2, .cell 3 189] [.c (.p (pI n)), .agg [.p (.str (s.drop k)), .p (.bool false)]] rfl rfl (by simp only [resultsD, go_sem, nZ]) rfl)
theorem pf205 (r : RdR) (hr : r.1.length < 2^60) : Pf E0 205 [.agg (rdP r)] (.tup [.c (.p (.str (ptR r).1)), .agg (rdP (ptR r).2)]) := by
 have p130 := pf130 r
 have hle := nbR_le r
 unfold ptR
 generalize nbR r = G at *
 obtain ⟨n, s, b⟩ := G
 simp only at p130 hle ⊢
 refine Pf.body (fn := Tryz.f205) (by kernel_rfl) rfl ?_; simp only [List.map_cons, List.map_nil, List.cons_append, List.nil_append, List.length_cons, List.length_nil, Tryz.ntmps205, List.replicate, Nat.reduceSub, Nat.reduceAdd]
 refine gS fun K F => ?_; simp only [go_sem, nZ]; apply F; clear F K
 refine gS fun K F => ?_; simp only [go_sem, nZ]
 refine gP (p130) (by kernel_rfl) (by kernel_rfl) rfl rfl ?_
 simp only [go_sem, nZ]; apply F; clear F K
 refine Wc.seq (Wc.seq ?_)
 cases b with
 | true =>
  rw [if_pos (.inl rfl)]
  refine gR fun K F => ?_; simp only [go_sem, nZ]; apply F; clear F K
  refine gT (by simp only [go_sem, nZ]) ?_
  refine gS fun K F => ?_; simp only [go_sem, nZ]; apply F; clear F K
  exact Wc.ret (Pf.ret [.tmp 2, .cell 3 189] [.c (.p (.str [])), .agg [.p (.str []), .p (.bool true)]] rfl rfl (by simp only [resultsD, go_sem, nZ]) rfl)
 | false =>
  refine gR fun K F => ?_; simp only [go_sem, nZ]; apply F; clear F K
  refine Wc.cond (t := decide ((s.length : Int) < n)) (by simp only [go_sem, nZ]) (fun hc => ?_) (fun hc => ?_)
  ·rw [if_pos (.inr (of_decide_eq_true hc))]
   refine gS fun K F => ?_; simp only [go_sem, nZ]; apply F; clear F K
   exact Wc.ret (Pf.ret [.tmp 2, .cell 3 189] [.c (.p (.str [])), .agg [.p (.str []), .p (.bool true)]] rfl rfl (by simp only [resultsD, go_sem, nZ]) rfl)
  ·rw [if_neg (by rintro (h | h); cases h; exact of_decide_eq_false hc h)]
   obtain ⟨m, rfl⟩ : ∃ m : Nat, n = (m : Int) := ⟨n.toNat, by omega⟩
   have hms := of_decide_eq_false hc
   have c1 : ((m : Int) ≤ (s.length : Int)) = True := by simp; omega
   have c2 : ((0 : Int) ≤ (m : Int)) = True := by simp
   refine Wc.skip (Wc.seq ?_)
   simp only [Int.toNat_natCast]
   refine Wc.regT fun K F => ?_; simp only [go_sem, nZ, c1, c2, slice_from, Int.le_refl, Int.toNat_natCast, List.drop_zero, Nat.sub_zero]; refine ⟨by rw [trOK_eq3]; rfl, F _ _ ?_⟩; clear F K
   exact Wc.ret (Pf.ret [.tmp 2, .cell 3 189] [.c (.p (.str (s.take m))), .agg [.p (.str (s.drop m)), .p (.bool false)]] rfl rfl (by simp only [resultsD, go_sem, nZ]) rfl)
set_option maxHeartbeats 8000000
set_option maxRecDepth 10000
set_option linter.unusedSimpArgs false
set_option linter.unusedVariables false
theorem pf132 (r : RdR) (hr : r.1.length < 2^40) : Pf E0 132 [.agg (rdP r)] (.tup [.c (.p (.lst (vsR r).1.length ((vsR r).1.map pI))), .agg (rdP (vsR r).2)]) := by
 have p205 := pf205 r (by omega)
 have hle := ptR_le r
 unfold vsR
 generalize ptR r = G at *
 obtain ⟨s, r1⟩ := G
 obtain ⟨s1, b⟩ := r1
 simp only at p205 hle ⊢
 obtain ⟨d, p207, er, her, rfl⟩ := pf207 s (by omega)
 generalize okR encV s (vlR s) = O at *
 refine Pf.body (fn := Tryz.f132) (by kernel_rfl) rfl ?_; simp only [List.map_cons, List.map_nil, List.cons_append, List.nil_append, List.length_cons, List.length_nil, Tryz.ntmps132, List.replicate, Nat.reduceSub, Nat.reduceAdd]
 refine gS fun K F => ?_; simp only [go_sem, nZ]; apply F; clear F K
 refine gS fun K F => ?_; simp only [go_sem, nZ]
 refine gP (p205) (by kernel_rfl) (by kernel_rfl) rfl rfl ?_
 simp only [go_sem, nZ]; apply F; clear F K
 refine gS fun K F => ?_; simp only [go_sem, nZ]
 refine gP (p207) (by kernel_rfl) (by kernel_rfl) rfl rfl ?_
 simp only [go_sem, nZ]; apply F; clear F K
 refine Wc.seq (Wc.seq ?_)
 cases O with
 | none =>
  have h0 : (er != 0) = true := by
   have : er ≠ 0 := fun h => by have := her.1 h; cases this
   simpa using this
  simp only [clO]
  cases b with
  | true =>
   refine gR fun K F => ?_; simp only [go_sem, nZ]; apply F; clear F K
   refine gT (by simp only [go_sem, nZ]) ?_
   refine gS fun K F => ?_; simp only [go_sem, nZ]; apply F; clear F K
   exact Wc.ret (Pf.ret [.tmp 2, .cell 3 189] [.c (.own 0 [] 23), .agg [.p (.str []), .p (.bool true)]] rfl rfl (by simp only [resultsD, go_sem, nZ]) rfl)
  | false =>
   refine gR fun K F => ?_; simp only [go_sem, nZ, h0]; apply F; clear F K
   refine gT (by simp only [go_sem, nZ, h0]) ?_
   refine gS fun K F => ?_; simp only [go_sem, nZ]; apply F; clear F K
   exact Wc.ret (Pf.ret [.tmp 2, .cell 3 189] [.c (.own 0 [] 23), .agg [.p (.str []), .p (.bool true)]] rfl rfl (by simp only [resultsD, go_sem, nZ]) rfl)
 | some l =>
  have h0 : (er != 0) = false := by
   have : er = 0 := her.2 rfl
   simpa using this
  simp only [clO]
  cases b with
  | true =>
   rw [if_pos rfl]
   refine gR fun K F => ?_; simp only [go_sem, nZ]; apply F; clear F K
   refine gT (by simp only [go_sem, nZ]) ?_
   refine gS fun K F => ?_; simp only [go_sem, nZ]; apply F; clear F K
   exact Wc.ret (Pf.ret [.tmp 2, .cell 3 189] [.c (.own 0 [] 23), .agg [.p (.str []), .p (.bool true)]] rfl rfl (by simp only [resultsD, go_sem, nZ]) rfl)
  | false =>
   rw [if_neg (by decide)]
   refine gR fun K F => ?_; simp only [go_sem, nZ, h0]; apply F; clear F K
   refine gF (by simp only [go_sem, nZ, h0]) ?_
   refine Wc.seq ?_
   refine Wc.regT fun K F => ?_; simp only [go_sem, nZ, Option.getD_some]; refine ⟨by rw [trOK_eq3]; rfl, F _ _ ?_⟩; clear F K
   exact Wc.ret (Pf.ret [.tmp 2, .cell 3 189] [.c (.p (.lst l.length (l.map pI))), .agg [.p (.str s1), .p (.bool false)]] rfl rfl (by simp only [resultsD, go_sem, nZ]) rfl)
theorem pf131 (r : RdR) (hr : r.1.length < 2^40) : Pf E0 131 [.agg (rdP r)] (.tup [.c (.p (.lst (tsR r).1.length ((tsR r).1.map pI))), .agg (rdP (tsR r).2)]) := by
 have p205 := pf205 r (by omega)
 have hle := ptR_le r
 unfold tsR
 generalize ptR r = G at *
 obtain ⟨s, r1⟩ := G
 obtain ⟨s1, b⟩ := r1
 simp only at p205 hle ⊢
 obtain ⟨d, p206, er, her, rfl⟩ := pf206 s (by omega)
 generalize okR encT s (tmR s) = O at *
 refine Pf.body (fn := Tryz.f131) (by kernel_rfl) rfl ?_; simp only [List.map_cons, List.map_nil, List.cons_append, List.nil_append, List.length_cons, List.length_nil, Tryz.ntmps131, List.replicate, Nat.reduceSub, Nat.reduceAdd]
 refine gS fun K F => ?_; simp only [go_sem, nZ]; apply F; clear F K
 refine gS fun K F => ?_; simp only [go_sem, nZ]
 refine gP (p205) (by kernel_rfl) (by kernel_rfl) rfl rfl ?_
 simp only [go_sem, nZ]; apply F; clear F K
 refine gS fun K F => ?_; simp only [go_sem, nZ]
 refine gP (p206) (by kernel_rfl) (by kernel_rfl) rfl rfl ?_
 simp only [go_sem, nZ]; apply F; clear F K
 refine Wc.seq (Wc.seq ?_)
 cases O with
 | none =>
  have h0 : (er != 0) = true := by
   have : er ≠ 0 := fun h => by have := her.1 h; cases this
   simpa using this
  simp only [clO]
  cases b with
  | true =>
   refine gR fun K F => ?_; simp only [go_sem, nZ]; apply F; clear F K
   refine gT (by simp only [go_sem, nZ]) ?_
   refine gS fun K F => ?_; simp only [go_sem, nZ]; apply F; clear F K
   exact Wc.ret (Pf.ret [.tmp 2, .cell 3 189] [.c (.own 0 [] 23), .agg [.p (.str []), .p (.bool true)]] rfl rfl (by simp only [resultsD, go_sem, nZ]) rfl)
  | false =>
   refine gR fun K F => ?_; simp only [go_sem, nZ, h0]; apply F; clear F K
   refine gT (by simp only [go_sem, nZ, h0]) ?_
   refine gS fun K F => ?_; simp only [go_sem, nZ]; apply F; clear F K
   exact Wc.ret (Pf.ret [.tmp 2, .cell 3 189] [.c (.own 0 [] 23), .agg [.p (.str []), .p (.bool true)]] rfl rfl (by simp only [resultsD, go_sem, nZ]) rfl)
 | some l =>
  have h0 : (er != 0) = false := by
   have : er = 0 := her.2 rfl
   simpa using this
  simp only [clO]
  cases b with
  | true =>
   rw [if_pos rfl]
   refine gR fun K F => ?_; simp only [go_sem, nZ]; apply F; clear F K
   refine gT (by simp only [go_sem, nZ]) ?_
   refine gS fun K F => ?_; simp only [go_sem, nZ]; apply F; clear F K
   exact Wc.ret (Pf.ret [.tmp 2, .cell 3 189] [.c (.own 0 [] 23), .agg [.p (.str []), .p (.bool true)]] rfl rfl (by simp only [resultsD, go_sem, nZ]) rfl)
  | false =>
   rw [if_neg (by decide)]
   refine gR fun K F => ?_; simp only [go_sem, nZ, h0]; apply F; clear F K
   refine gF (by simp only [go_sem, nZ, h0]) ?_
   refine Wc.seq ?_
   refine Wc.regT fun K F => ?_; simp only [go_sem, nZ, Option.getD_some]; refine ⟨by rw [trOK_eq3]; rfl, F _ _ ?_⟩; clear F K
   exact Wc.ret (Pf.ret [.tmp 2, .cell 3 189] [.c (.p (.lst l.length (l.map pI))), .agg [.p (.str s1), .p (.bool false)]] rfl rfl (by simp only [resultsD, go_sem, nZ]) rfl)
theorem pf133g (a b : Chk) (hsg : a.sig = b.sig) (hlb : a.lb = b.lb) (hl : b.lb.length < 2^60) : Pf E0 133 [.agg (a.pd.map .p), .agg (b.pd.map .p)] (P' (.bool (decide (a.d = b.d ∧ a.z = b.z)))) := by
 obtain ⟨sg, lb, za, da⟩ := a
 obtain ⟨sg', lb', zb, db⟩ := b
 simp only at hsg hlb hl ⊢
 subst hsg hlb
 have p50 := pf50 lb hl
 refine Pf.body (fn := Tryz.f133) (by kernel_rfl) rfl ?_; simp only [List.map_cons, List.map_nil, List.cons_append, List.nil_append, List.length_cons, List.length_nil, Tryz.ntmps133, List.replicate, Nat.reduceSub, Nat.reduceAdd]
 refine gS fun K F => ?_; simp only [go_sem, nZ]; apply F; clear F K
 refine Wc.seq ?_
 cases hz : zGe za zb with
 | true =>
  have hz' := (zGe_iff za zb).1 hz
  subst hz'
  unfold zGe at hz
  have e : decide (da = db ∧ za = za) = (da == db) := by
   by_cases h : da = db <;> simp [h]
  rw [e]
  refine gR fun K F => ?_; simp only [go_sem, nZ]
  refine gP (p50) (by kernel_rfl) (by kernel_rfl) rfl rfl ?_
  simp only [go_sem, nZ, eqL, eqS, beq_self_eq_true, Bool.and_self]; apply F; clear F K
  exact Wc.ret (Pf.ret [.tmp 4] [.c (.p (.bool (da == db)))] rfl rfl (by simp only [resultsD, go_sem, nZ]) rfl)
 | false =>
  have hne : za ≠ zb := fun h => by rw [(zGe_iff za zb).2 h] at hz; cases hz
  unfold zGe at hz
  have e : decide (da = db ∧ za = zb) = false := by simp [hne]
  rw [e]
  refine gR fun K F => ?_; simp only [go_sem, nZ]
  refine gP (p50) (by kernel_rfl) (by kernel_rfl) rfl rfl ?_
  simp only [go_sem, nZ, eqL, eqS, hz]; apply F; clear F K
  exact Wc.ret (Pf.ret [.tmp 4] [.c (.p (.bool false))] rfl rfl (by simp only [resultsD, go_sem, nZ]) rfl)
theorem pf198 (a : Int) : Pf E0 198 [.c (.p (pI a))] (P' (.bool ((a == 3) || (a == 5)))) := by
 refine Pf.body (fn := Tryz.f198) (by kernel_rfl) rfl ?_; simp only [List.map_cons, List.map_nil, List.cons_append, List.nil_append, List.length_cons, List.length_nil, Tryz.ntmps198, List.replicate, Nat.reduceSub, Nat.reduceAdd]
 refine gS fun K F => ?_; simp only [go_sem, nZ]; apply F; clear F K
 refine Wc.seq ?_
 cases h : (a == 3) with
 | true =>
  refine gR fun K F => ?_; simp only [go_sem, nZ, h]; apply F; clear F K
  exact Wc.ret (Pf.ret [.tmp 2] [.c (.p (.bool true))] rfl rfl (by simp only [resultsD, go_sem, nZ]) rfl)
 | false =>
  refine gR fun K F => ?_; simp only [go_sem, nZ, h]; apply F; clear F K
  exact Wc.ret (Pf.ret [.tmp 2] [.c (.p (.bool (a == 5)))] rfl rfl (by simp only [resultsD, go_sem, nZ]) rfl)
theorem wthn_or (n a b : Int) : (decide (n < a) || decide (b < n)) = !wthn n a b := by
 unfold wthn
 by_cases h1 : a ≤ n
 ·by_cases h2 : n ≤ b
  ·have e1 : ¬ n < a := by omega
   have e2 : ¬ b < n := by omega
   simp [h1, h2, e1, e2]
  ·have e2 : b < n := by omega
   simp [h2, e2]
 ·have e1 : n < a := by omega
  simp [h1, e1]
theorem pf199 (z : ZG) : Pf E0 199 [.agg (z.pd.map .p)] (P' (pI (zkG z))) := by
 generalize hR : zkG z = R
 unfold zkG at hR
 rw [wthn_or, show isT z.t1 = wthn z.t1 1 1099511627776 from rfl, show isT z.t2 = wthn z.t2 1 1099511627776 from rfl, show isVl z.v1 = wthn z.v1 (-1099511627776) 1099511627776 from rfl, show isVl z.v2 = wthn z.v2 (-1099511627776) 1099511627776 from rfl] at hR
 have q0 := pf238 z.c 0 1152921504606846976
 have q1 := pf238 z.t1 1 1099511627776
 have q2 := pf238 z.t2 1 1099511627776
 have q3 := pf238 z.v1 (-1099511627776) 1099511627776
 have q4 := pf238 z.v2 (-1099511627776) 1099511627776
 generalize wthn z.c 0 1152921504606846976 = w0 at *
 generalize wthn z.t1 1 1099511627776 = w1 at *
 generalize wthn z.t2 1 1099511627776 = w2 at *
 generalize wthn z.v1 (-1099511627776) 1099511627776 = w3 at *
 generalize wthn z.v2 (-1099511627776) 1099511627776 = w4 at *
 refine Pf.body (fn := Tryz.f199) (by kernel_rfl) rfl ?_; simp only [List.map_cons, List.map_nil, List.cons_append, List.nil_append, List.length_cons, List.length_nil, Tryz.ntmps199, List.replicate, Nat.reduceSub, Nat.reduceAdd]
 refine gS fun K F => ?_; simp only [go_sem, nZ]; apply F; clear F K
 refine Wc.seq (Wc.seq ?_)
 refine gR fun K F => ?_; simp only [go_sem, nZ]
 refine gP (q0) (by kernel_rfl) (by kernel_rfl) rfl rfl ?_
 simp only [go_sem, nZ]; apply F; clear F K
 cases w0 with
 | false =>
  simp only [gB, cond_true, cond_false] at hR
  subst hR
  refine gT (by simp only [go_sem, nZ]) ?_
  refine gS fun K F => ?_; simp only [go_sem, nZ]; apply F; clear F K
  exact Wc.ret (Pf.ret [.tmp 2] [.c (.p (pI 2))] rfl rfl (by simp only [resultsD, go_sem, nZ]) rfl)
 | true =>
 simp only [gB, cond_true, cond_false] at hR
 refine gF (by simp only [go_sem, nZ]) ?_
 refine Wc.seq (Wc.seq ?_)
 rcases Bool.eq_false_or_eq_true (z.c == 0) with k0 | k0
 ·simp only [k0, gB, cond_true, cond_false] at hR
  refine gR fun K F => ?_; simp only [go_sem, nZ, k0]; apply F; clear F K
  refine gT (by simp only [go_sem, nZ, k0]) ?_
  refine Wc.seq (Wc.seq ?_)
  unfold zG1 at hR
  have kz := eq_of_beq k0
  rcases Bool.eq_false_or_eq_true ((z.t1 == 0) && ((z.t2 == 0) && ((z.v1 == 0) && ((z.v2 == 0) && ((z.b0 == 0) && ((z.b1 == 0) && ((z.b2 == 0) && ((z.b3 == 0) && ((z.b4 == 0) && ((z.b5 == 0) && ((z.b6 == 0) && (z.b7 == 0)))))))))))) with k1 | k1
  ·simp only [k1, cond_true] at hR
   subst hR
   refine gR fun K F => ?_; simp only [go_sem, nZ, k0, k1, eqL, eqS]; apply F; clear F K
   refine gF (by simp only [go_sem, nZ, k1]) ?_
   refine gS fun K F => ?_; simp only [go_sem, nZ]; apply F; clear F K
   exact Wc.ret (Pf.ret [.tmp 2] [.c (.p (pI 0))] rfl rfl (by simp only [resultsD, go_sem, nZ]) rfl)
  ·simp only [k1, cond_false] at hR
   subst hR
   refine gR fun K F => ?_; simp only [go_sem, nZ, k0, k1, eqL, eqS]; apply F; clear F K
   refine gT (by simp only [go_sem, nZ, k1]) ?_
   refine gS fun K F => ?_; simp only [go_sem, nZ]; apply F; clear F K
   exact Wc.ret (Pf.ret [.tmp 2] [.c (.p (pI 10))] rfl rfl (by simp only [resultsD, go_sem, nZ]) rfl)
 simp only [k0, gB, cond_true, cond_false] at hR
 refine gR fun K F => ?_; simp only [go_sem, nZ, k0]; apply F; clear F K
 refine gF (by simp only [go_sem, nZ, k0]) ?_
 refine Wc.seq (Wc.seq ?_)
 cases w1 with
 | false =>
  simp only [gB, cond_true, cond_false] at hR
  subst hR
  refine gR fun K F => ?_; simp only [go_sem, nZ]
  refine gP (q1) (by kernel_rfl) (by kernel_rfl) rfl rfl ?_
  simp only [go_sem, nZ]; apply F; clear F K
  refine gT (by simp only [go_sem, nZ]) ?_
  refine gS fun K F => ?_; simp only [go_sem, nZ]; apply F; clear F K
  exact Wc.ret (Pf.ret [.tmp 2] [.c (.p (pI 2))] rfl rfl (by simp only [resultsD, go_sem, nZ]) rfl)
 | true =>
 cases w2 with
 | false =>
  simp only [gB, cond_true, cond_false] at hR
  subst hR
  refine gR fun K F => ?_; simp only [go_sem, nZ]
  refine gP (q1) (by kernel_rfl) (by kernel_rfl) rfl rfl ?_
  simp only [go_sem, nZ]
  refine gP (q2) (by kernel_rfl) (by kernel_rfl) rfl rfl ?_
  simp only [go_sem, nZ]; apply F; clear F K
  refine gT (by simp only [go_sem, nZ]) ?_
  refine gS fun K F => ?_; simp only [go_sem, nZ]; apply F; clear F K
  exact Wc.ret (Pf.ret [.tmp 2] [.c (.p (pI 2))] rfl rfl (by simp only [resultsD, go_sem, nZ]) rfl)
 | true =>
 simp only [gB, cond_true, cond_false] at hR
 refine gR fun K F => ?_; simp only [go_sem, nZ]
 refine gP (q1) (by kernel_rfl) (by kernel_rfl) rfl rfl ?_
 simp only [go_sem, nZ]
 refine gP (q2) (by kernel_rfl) (by kernel_rfl) rfl rfl ?_
 simp only [go_sem, nZ]; apply F; clear F K
 refine gF (by simp only [go_sem, nZ]) ?_
 refine Wc.seq (Wc.seq ?_)
 refine gR fun K F => ?_; simp only [go_sem, nZ]; apply F; clear F K
 refine Wc.cond (t := decide (z.t2 < z.t1)) (by simp only [go_sem, nZ]) (fun hc => ?_) (fun hc => ?_)
 ·simp only [hc, gB, cond_true, cond_false] at hR
  subst hR
  refine gS fun K F => ?_; simp only [go_sem, nZ]; apply F; clear F K
  exact Wc.ret (Pf.ret [.tmp 2] [.c (.p (pI 9))] rfl rfl (by simp only [resultsD, go_sem, nZ]) rfl)
 simp only [hc, gB, cond_true, cond_false] at hR
 refine Wc.skip (Wc.seq (Wc.seq ?_))
 cases w3 with
 | false =>
  simp only [gB, cond_true, cond_false] at hR
  subst hR
  refine gR fun K F => ?_; simp only [go_sem, nZ]
  refine gP (q3) (by kernel_rfl) (by kernel_rfl) rfl rfl ?_
  simp only [go_sem, nZ]; apply F; clear F K
  refine gT (by simp only [go_sem, nZ]) ?_
  refine gS fun K F => ?_; simp only [go_sem, nZ]; apply F; clear F K
  exact Wc.ret (Pf.ret [.tmp 2] [.c (.p (pI 2))] rfl rfl (by simp only [resultsD, go_sem, nZ]) rfl)
 | true =>
 cases w4 with
 | false =>
  simp only [gB, cond_true, cond_false] at hR
  subst hR
  refine gR fun K F => ?_; simp only [go_sem, nZ]
  refine gP (q3) (by kernel_rfl) (by kernel_rfl) rfl rfl ?_
  simp only [go_sem, nZ]
  refine gP (q4) (by kernel_rfl) (by kernel_rfl) rfl rfl ?_
  simp only [go_sem, nZ]; apply F; clear F K
  refine gT (by simp only [go_sem, nZ]) ?_
  refine gS fun K F => ?_; simp only [go_sem, nZ]; apply F; clear F K
  exact Wc.ret (Pf.ret [.tmp 2] [.c (.p (pI 2))] rfl rfl (by simp only [resultsD, go_sem, nZ]) rfl)
 | true =>
 simp only [gB, cond_true, cond_false] at hR
 refine gR fun K F => ?_; simp only [go_sem, nZ]
 refine gP (q3) (by kernel_rfl) (by kernel_rfl) rfl rfl ?_
 simp only [go_sem, nZ]
 refine gP (q4) (by kernel_rfl) (by kernel_rfl) rfl rfl ?_
 simp only [go_sem, nZ]; apply F; clear F K
 refine gF (by simp only [go_sem, nZ]) ?_
 refine Wc.seq (Wc.seq ?_)
 refine gR fun K F => ?_; simp only [go_sem, nZ]; apply F; clear F K
 refine Wc.cond (t := decide (z.v2 < z.v1)) (by simp only [go_sem, nZ]) (fun hc => ?_) (fun hc => ?_)
 ·simp only [hc, gB, cond_true, cond_false] at hR
  subst hR
  refine gS fun K F => ?_; simp only [go_sem, nZ]; apply F; clear F K
  exact Wc.ret (Pf.ret [.tmp 2] [.c (.p (pI 9))] rfl rfl (by simp only [resultsD, go_sem, nZ]) rfl)
 simp only [hc, gB, cond_true, cond_false] at hR
 subst hR
 refine Wc.skip (Wc.seq ?_)
 refine gR fun K F => ?_; simp only [go_sem, nZ]; apply F; clear F K
 exact Wc.ret (Pf.ret [.tmp 2] [.c (.p (pI 0))] rfl rfl (by simp only [resultsD, go_sem, nZ]) rfl)
theorem pf125 (c : Chk) (w : Int) (z : Cz c) (hw : 0 ≤ w) : Pf E0 125 [.c (.p (pI w)), .agg (c.pd.map .p)] (P' (pI (ckC c w))) := by
 generalize hR : ckC c w = R
 unfold ckC at hR
 have hww : (w != 0) = decide (0 < w) := by
  by_cases h : w = 0
  ·subst h; rfl
  ·have : 0 < w := by omega
   simp [h, this]
 rw [hww] at hR
 have p92 := pf92 c.lb z.lb z.ls
 have p199 := pf199 c.z
 refine Pf.body (fn := Tryz.f125) (by kernel_rfl) rfl ?_; simp only [List.map_cons, List.map_nil, List.cons_append, List.nil_append, List.length_cons, List.length_nil, Tryz.ntmps125, List.replicate, Nat.reduceSub, Nat.reduceAdd]
 refine gS fun K F => ?_; simp only [go_sem, nZ]; apply F; clear F K
 refine Wc.seq (Wc.seq ?_)
 rcases Bool.eq_false_or_eq_true (decide (c.sig < 1)) with a1 | a1
 ·refine gR fun K F => ?_; simp only [go_sem, nZ, a1]; apply F; clear F K
  refine gT (by simp only [go_sem, nZ, a1]) ?_
  refine gS fun K F => ?_; simp only [go_sem, nZ]; apply F; clear F K
  obtain rfl : R = 8 := by rw [← hR]; simp only [a1, gB, cond_true, cond_false]
  exact Wc.ret (Pf.ret [.tmp 4] [.c (.p (pI 8))] rfl rfl (by simp only [resultsD, go_sem, nZ]) rfl)
 rcases Bool.eq_false_or_eq_true (decide (6 < c.sig)) with a2 | a2
 ·refine gR fun K F => ?_; simp only [go_sem, nZ, a1, a2]; apply F; clear F K
  refine gT (by simp only [go_sem, nZ, a1, a2]) ?_
  refine gS fun K F => ?_; simp only [go_sem, nZ]; apply F; clear F K
  obtain rfl : R = 8 := by rw [← hR]; simp only [a1, a2, gB, cond_true, cond_false]
  exact Wc.ret (Pf.ret [.tmp 4] [.c (.p (pI 8))] rfl rfl (by simp only [resultsD, go_sem, nZ]) rfl)
 rcases Bool.eq_false_or_eq_true (!((c.sig == 6) == decide (0 < w))) with a3 | a3
 ·refine gR fun K F => ?_; simp only [go_sem, nZ, a1, a2, a3]; apply F; clear F K
  refine gT (by simp only [go_sem, nZ, a1, a2, a3]) ?_
  refine gS fun K F => ?_; simp only [go_sem, nZ]; apply F; clear F K
  obtain rfl : R = 8 := by rw [← hR]; simp only [a1, a2, a3, gB, cond_true, cond_false]
  exact Wc.ret (Pf.ret [.tmp 4] [.c (.p (pI 8))] rfl rfl (by simp only [resultsD, go_sem, nZ]) rfl)
 refine gR fun K F => ?_; simp only [go_sem, nZ, a1, a2, a3]; apply F; clear F K
 refine gF (by simp only [go_sem, nZ, a1, a2, a3]) ?_
 simp only [a1, a2, a3, gB, cond_true, cond_false] at hR
 refine Wc.seq (Wc.seq ?_)
 refine gR fun K F => ?_; simp only [go_sem, nZ]
 refine gP (p92) (by kernel_rfl) (by kernel_rfl) rfl rfl ?_
 simp only [go_sem, nZ]; apply F; clear F K
 refine gS fun K F => ?_; simp only [go_sem, nZ]; apply F; clear F K
 generalize lckA c.lb = L at *
 refine Wc.cond (t := L != 0) (by simp only [go_sem, nZ]) (fun hc => ?_) (fun hc => ?_)
 ·simp only [hc, gB, cond_true, cond_false] at hR
  subst hR
  refine gS fun K F => ?_; simp only [go_sem, nZ]; apply F; clear F K
  exact Wc.ret (Pf.ret [.tmp 4] [.c (.p (pI L))] rfl rfl (by simp only [resultsD, go_sem, nZ]) rfl)
 simp only [hc, gB, cond_true, cond_false] at hR
 refine Wc.skip ?_
 rcases Bool.eq_false_or_eq_true (((c.sig == 3) || (c.sig == 5)) && decide (0 < (c.lb.length : Int))) with k1 | k1
 ·simp only [k1, gB, cond_true, cond_false] at hR
  subst hR
  have k2 := k1
  rw [Bool.and_eq_true] at k2
  refine Wc.seq (Wc.seq ?_)
  refine gR fun K F => ?_; simp only [go_sem, nZ]
  refine gP (pf198 c.sig) (by kernel_rfl) (by kernel_rfl) rfl rfl ?_
  simp only [go_sem, nZ, k2.1, k2.2]; apply F; clear F K
  refine gT (by simp only [go_sem, nZ, k2.2]) ?_
  refine gS fun K F => ?_; simp only [go_sem, nZ]; apply F; clear F K
  exact Wc.ret (Pf.ret [.tmp 4] [.c (.p (pI 1))] rfl rfl (by simp only [resultsD, go_sem, nZ]) rfl)
 simp only [k1, gB, cond_true, cond_false] at hR
 have p198 := pf198 c.sig
 refine Wc.seqR (fun y => y.ds = [] ∧ Fs y.e 48 [(3, .v (.c (.ref 0 0)))] ∧ OA y.s.nx y.s [] [(0, .cells (c.pd.map .p) false)]) ?_ ?_
 ·refine Wc.seq ?_
  cases hu : ((c.sig == 3) || (c.sig == 5)) with
  | false =>
   rw [hu] at p198
   refine gR fun K F => ?_; simp only [go_sem, nZ]
   refine gP (p198) (by kernel_rfl) (by kernel_rfl) rfl rfl ?_
   simp only [go_sem, nZ]; apply F; clear F K
   refine gF (by simp only [go_sem, nZ]) ?_
   exact ⟨rfl, by simp only [Fs, nZ, go_sem, nZ], by (try simp only [St.nx_put, St.nx_adv]); repeat (first | exact OA.mono s00_oa (by omega) | refine OA.newB ?_ (by omega) rfl | refine OA.advB ?_)⟩
  | true =>
   rw [hu, Bool.true_and] at k1
   rw [hu] at p198
   refine gR fun K F => ?_; simp only [go_sem, nZ]
   refine gP (p198) (by kernel_rfl) (by kernel_rfl) rfl rfl ?_
   simp only [go_sem, nZ, k1]; apply F; clear F K
   refine gF (by simp only [go_sem, nZ, k1]) ?_
   exact ⟨rfl, by simp only [Fs, nZ, go_sem, nZ], by (try simp only [St.nx_put, St.nx_adv]); repeat (first | exact OA.mono s00_oa (by omega) | refine OA.newB ?_ (by omega) rfl | refine OA.advB ?_)⟩
 rintro ⟨e, ds, s1⟩ ⟨rfl, hF, ho⟩
 simp only [Fs] at hF ho
 have g0 := ho.at_ (0, .cells (c.pd.map .p) false) (by simp)
 simp only [List.map_cons, List.map_nil] at g0
 refine Wc.seq (Wc.seq ?_)
 refine gR fun K F => ?_; simp only [go_sem, nZ, hF, g0]
 refine gP (p199) (by kernel_rfl) (by kernel_rfl) rfl rfl ?_
 simp only [go_sem, nZ, hF]; apply F; clear F K
 refine gS fun K F => ?_; simp only [go_sem, nZ, hF]; apply F; clear F K
 generalize zkG c.z = Z at *
 refine Wc.cond (t := Z != 0) (by simp only [go_sem, nZ, hF]) (fun hc => ?_) (fun hc => ?_)
 ·simp only [hc, gB, cond_true, cond_false] at hR
  subst hR
  refine gS fun K F => ?_; simp only [go_sem, nZ, hF]; apply F; clear F K
  exact Wc.ret (Pf.ret [.tmp 4] [.c (.p (pI Z))] rfl rfl (by simp only [resultsD, go_sem, nZ, hF]) rfl)
 simp only [hc, gB, cond_true, cond_false] at hR
 refine Wc.skip (Wc.seq (Wc.seq ?_))
 refine gR fun K F => ?_; simp only [go_sem, nZ, hF, g0]; apply F; clear F K
 refine Wc.cond (t := decide (262144 < (c.d.length : Int))) (by simp only [go_sem, nZ, hF]) (fun hc => ?_) (fun hc => ?_)
 ·simp only [hc, gB, cond_true, cond_false] at hR
  subst hR
  refine gS fun K F => ?_; simp only [go_sem, nZ, hF]; apply F; clear F K
  exact Wc.ret (Pf.ret [.tmp 4] [.c (.p (pI 4))] rfl rfl (by simp only [resultsD, go_sem, nZ, hF]) rfl)
 simp only [hc, gB, cond_true, cond_false] at hR
 subst hR
 refine Wc.skip (Wc.seq ?_)
 refine gR fun K F => ?_; simp only [go_sem, nZ, hF]; apply F; clear F K
 exact Wc.ret (Pf.ret [.tmp 4] [.c (.p (pI 0))] rfl rfl (by simp only [resultsD, go_sem, nZ, hF]) rfl)
theorem pf126g (a b : Chk) (ha : Cz a) (hb : Cz b) : Pf E0 126 [.agg (a.pd.map .p), .agg (b.pd.map .p)] (P' (pI (cmpC a b))) := by
 have p96 := pf96g a.lb b.lb (by have := ha.lb; omega) (by have := hb.lb; omega)
 refine Pf.body (fn := Tryz.f126) (by kernel_rfl) rfl ?_; simp only [List.map_cons, List.map_nil, List.cons_append, List.nil_append, List.length_cons, List.length_nil, Tryz.ntmps126, List.replicate, Nat.reduceSub, Nat.reduceAdd]
 refine gS fun K F => ?_; simp only [go_sem, nZ]; apply F; clear F K
 refine Wc.seq (Wc.seq ?_)
 by_cases h1 : a.sig < b.sig
 ·have e : cmpC a b = -1 := by unfold cmpC cmpI; rw [if_pos h1, if_pos (by decide)]
  rw [e]
  refine gR fun K F => ?_; simp only [go_sem, nZ, h1]; apply F; clear F K
  refine gT (by simp only [go_sem, nZ, h1]) ?_
  refine gS fun K F => ?_; simp only [go_sem, nZ]; apply F; clear F K
  exact Wc.ret (Pf.ret [.tmp 4] [.c (.p (pI (-1)))] rfl rfl (by simp only [resultsD, go_sem, nZ]) rfl)
 refine gR fun K F => ?_; simp only [go_sem, nZ, h1]; apply F; clear F K
 refine gF (by simp only [go_sem, nZ, h1]) ?_
 refine Wc.seq (Wc.seq ?_)
 by_cases h2 : b.sig < a.sig
 ·have e : cmpC a b = 1 := by unfold cmpC cmpI; rw [if_neg h1, if_pos h2, if_pos (by decide)]
  rw [e]
  refine gR fun K F => ?_; simp only [go_sem, nZ, h1, h2]; apply F; clear F K
  refine gT (by simp only [go_sem, nZ, h1, h2]) ?_
  refine gS fun K F => ?_; simp only [go_sem, nZ]; apply F; clear F K
  exact Wc.ret (Pf.ret [.tmp 4] [.c (.p (pI 1))] rfl rfl (by simp only [resultsD, go_sem, nZ]) rfl)
 have e : cmpC a b = cmpL a.lb b.lb := by unfold cmpC cmpI; rw [if_neg h1, if_neg h2, if_neg (by decide)]
 rw [e]
 generalize cmpL a.lb b.lb = D at *
 refine gR fun K F => ?_; simp only [go_sem, nZ, h1, h2]; apply F; clear F K
 refine gF (by simp only [go_sem, nZ, h1, h2]) ?_
 refine gS fun K F => ?_; simp only [go_sem, nZ]
 refine gP (p96) (by kernel_rfl) (by kernel_rfl) rfl rfl ?_
 simp only [go_sem, nZ]; apply F; clear F K
 exact Wc.ret (Pf.ret [.tmp 4] [.c (.p (pI D))] rfl rfl (by simp only [resultsD, go_sem, nZ]) rfl)
set_option maxHeartbeats 8000000
set_option maxRecDepth 10000
set_option linter.unusedSimpArgs false
set_option linter.unusedVariables false
theorem o125 : E0.opn 125 = false := by kernel_rfl
theorem x125 : E0.xt 125 = none := by kernel_rfl
theorem o126 : E0.opn 126 = false := by kernel_rfl
theorem x126 : E0.xt 126 = none := by kernel_rfl
theorem fr_eq (w fr : Int) : ((decide (fr < 0) || decide (1099511627776 < fr)) || ((w == 0) && (fr != 0))) = ((decide (fr < 0) || decide (1099511627776 < fr)) || ((w == 0) && decide (0 < fr))) := by
 by_cases h1 : fr < 0
 ·simp [h1]
 ·by_cases h2 : fr = 0
  ·simp [h2]
  ·have h3 : 0 < fr := by omega
   have h4 : (fr != 0) = true := by simpa using h2
   rw [h4, decide_eq_true h3]
theorem pf66 (b : Blk) (hl : b.cs.length < 2^40) (hz : ∀ c ∈ b.cs, Cz c) : Pf E0 66 [.agg (b.pd.map .p)] (P' (pI (blkC b))) := by
 have hfl := fK b.cs
 generalize hR : blkC b = R
 unfold blkC at hR
 rw [fr_eq] at hR
 refine Pf.body (fn := Tryz.f66) (by kernel_rfl) rfl ?_; simp only [List.map_cons, List.map_nil, List.cons_append, List.nil_append, List.length_cons, List.length_nil, Tryz.ntmps66, List.replicate, Nat.reduceSub, Nat.reduceAdd]
 refine gS fun K F => ?_; simp only [go_sem, nZ]; apply F; clear F K
 refine Wc.seqR (fun y => ((bif decide (4000 < (b.cs.length : Int)) then 4 else cksC b.w none b.cs) = R ∧ 0 ≤ b.w) ∧ y.ds = [] ∧ Fs y.e 82 [(1, .v (.c (.ref 0 0)))] ∧ OA y.s.nx y.s [] [(0, .cells (b.pd.map .p) false)]) ?_ ?_
 ·refine Wc.seq ?_
  rcases Bool.eq_false_or_eq_true (b.w == 0) with k0 | k0
  ·skip
   rcases Bool.eq_false_or_eq_true (decide (b.id < 1)) with a1 | a1
   ·refine gR fun K F => ?_; simp only [go_sem, nZ, k0, a1]; apply F; clear F K
    refine gT (by simp only [go_sem, nZ, k0, a1]) ?_
    refine gS fun K F => ?_; simp only [go_sem, nZ]; apply F; clear F K
    obtain rfl : R = 2 := by rw [← hR]; simp only [a1, k0, gB, cond_true, cond_false]
    exact Wc.ret (Pf.ret [.tmp 2] [.c (.p (pI 2))] rfl rfl (by simp only [resultsD, go_sem, nZ]) rfl)
   rcases Bool.eq_false_or_eq_true (decide (1152921504606846976 < b.id)) with a2 | a2
   ·refine gR fun K F => ?_; simp only [go_sem, nZ, k0, a1, a2]; apply F; clear F K
    refine gT (by simp only [go_sem, nZ, k0, a1, a2]) ?_
    refine gS fun K F => ?_; simp only [go_sem, nZ]; apply F; clear F K
    obtain rfl : R = 2 := by rw [← hR]; simp only [a1, a2, k0, gB, cond_true, cond_false]
    exact Wc.ret (Pf.ret [.tmp 2] [.c (.p (pI 2))] rfl rfl (by simp only [resultsD, go_sem, nZ]) rfl)
   rcases Bool.eq_false_or_eq_true (decide (b.w < 0)) with a3 | a3
   ·refine gR fun K F => ?_; simp only [go_sem, nZ, k0, a1, a2, a3]; apply F; clear F K
    refine gT (by simp only [go_sem, nZ, k0, a1, a2, a3]) ?_
    refine gS fun K F => ?_; simp only [go_sem, nZ]; apply F; clear F K
    obtain rfl : R = 2 := by rw [← hR]; simp only [a1, a2, a3, k0, gB, cond_true, cond_false]
    exact Wc.ret (Pf.ret [.tmp 2] [.c (.p (pI 2))] rfl rfl (by simp only [resultsD, go_sem, nZ]) rfl)
   rcases Bool.eq_false_or_eq_true (decide (1099511627776 < b.w)) with a4 | a4
   ·refine gR fun K F => ?_; simp only [go_sem, nZ, k0, a1, a2, a3, a4]; apply F; clear F K
    refine gT (by simp only [go_sem, nZ, k0, a1, a2, a3, a4]) ?_
    refine gS fun K F => ?_; simp only [go_sem, nZ]; apply F; clear F K
    obtain rfl : R = 2 := by rw [← hR]; simp only [a1, a2, a3, a4, k0, gB, cond_true, cond_false]
    exact Wc.ret (Pf.ret [.tmp 2] [.c (.p (pI 2))] rfl rfl (by simp only [resultsD, go_sem, nZ]) rfl)
   rcases Bool.eq_false_or_eq_true (decide (b.fr < 0)) with a5 | a5
   ·refine gR fun K F => ?_; simp only [go_sem, nZ, k0, a1, a2, a3, a4, a5]; apply F; clear F K
    refine gT (by simp only [go_sem, nZ, k0, a1, a2, a3, a4, a5]) ?_
    refine gS fun K F => ?_; simp only [go_sem, nZ]; apply F; clear F K
    obtain rfl : R = 2 := by rw [← hR]; simp only [a1, a2, a3, a4, a5, k0, gB, cond_true, cond_false]
    exact Wc.ret (Pf.ret [.tmp 2] [.c (.p (pI 2))] rfl rfl (by simp only [resultsD, go_sem, nZ]) rfl)
   rcases Bool.eq_false_or_eq_true (decide (1099511627776 < b.fr)) with a6 | a6
   ·refine gR fun K F => ?_; simp only [go_sem, nZ, k0, a1, a2, a3, a4, a5, a6]; apply F; clear F K
    refine gT (by simp only [go_sem, nZ, k0, a1, a2, a3, a4, a5, a6]) ?_
    refine gS fun K F => ?_; simp only [go_sem, nZ]; apply F; clear F K
    obtain rfl : R = 2 := by rw [← hR]; simp only [a1, a2, a3, a4, a5, a6, k0, gB, cond_true, cond_false]
    exact Wc.ret (Pf.ret [.tmp 2] [.c (.p (pI 2))] rfl rfl (by simp only [resultsD, go_sem, nZ]) rfl)
   rcases Bool.eq_false_or_eq_true (decide (0 < b.fr)) with a7 | a7
   ·refine gR fun K F => ?_; simp only [go_sem, nZ, k0, a1, a2, a3, a4, a5, a6, a7]; apply F; clear F K
    refine gT (by simp only [go_sem, nZ, k0, a1, a2, a3, a4, a5, a6, a7]) ?_
    refine gS fun K F => ?_; simp only [go_sem, nZ]; apply F; clear F K
    obtain rfl : R = 2 := by rw [← hR]; simp only [a1, a2, a3, a4, a5, a6, a7, k0, gB, cond_true, cond_false]
    exact Wc.ret (Pf.ret [.tmp 2] [.c (.p (pI 2))] rfl rfl (by simp only [resultsD, go_sem, nZ]) rfl)
   refine gR fun K F => ?_; simp only [go_sem, nZ, k0, a1, a2, a3, a4, a5, a6, a7]; apply F; clear F K
   refine gF (by simp only [go_sem, nZ, k0, a1, a2, a3, a4, a5, a6, a7]) ?_
   simp only [a1, a2, a3, a4, a5, a6, a7, k0, gB, cond_true, cond_false] at hR
   exact ⟨⟨hR, by have := of_decide_eq_false a3; omega⟩, rfl, by simp only [Fs, nZ, go_sem, nZ], by (try simp only [St.nx_put, St.nx_adv]); repeat (first | exact OA.mono s00_oa (by omega) | refine OA.newB ?_ (by omega) rfl | refine OA.advB ?_)⟩
  ·skip
   rcases Bool.eq_false_or_eq_true (decide (b.id < 1)) with a1 | a1
   ·refine gR fun K F => ?_; simp only [go_sem, nZ, k0, a1]; apply F; clear F K
    refine gT (by simp only [go_sem, nZ, k0, a1]) ?_
    refine gS fun K F => ?_; simp only [go_sem, nZ]; apply F; clear F K
    obtain rfl : R = 2 := by rw [← hR]; simp only [a1, k0, gB, cond_true, cond_false]
    exact Wc.ret (Pf.ret [.tmp 2] [.c (.p (pI 2))] rfl rfl (by simp only [resultsD, go_sem, nZ]) rfl)
   rcases Bool.eq_false_or_eq_true (decide (1152921504606846976 < b.id)) with a2 | a2
   ·refine gR fun K F => ?_; simp only [go_sem, nZ, k0, a1, a2]; apply F; clear F K
    refine gT (by simp only [go_sem, nZ, k0, a1, a2]) ?_
    refine gS fun K F => ?_; simp only [go_sem, nZ]; apply F; clear F K
    obtain rfl : R = 2 := by rw [← hR]; simp only [a1, a2, k0, gB, cond_true, cond_false]
    exact Wc.ret (Pf.ret [.tmp 2] [.c (.p (pI 2))] rfl rfl (by simp only [resultsD, go_sem, nZ]) rfl)
   rcases Bool.eq_false_or_eq_true (decide (b.w < 0)) with a3 | a3
   ·refine gR fun K F => ?_; simp only [go_sem, nZ, k0, a1, a2, a3]; apply F; clear F K
    refine gT (by simp only [go_sem, nZ, k0, a1, a2, a3]) ?_
    refine gS fun K F => ?_; simp only [go_sem, nZ]; apply F; clear F K
    obtain rfl : R = 2 := by rw [← hR]; simp only [a1, a2, a3, k0, gB, cond_true, cond_false]
    exact Wc.ret (Pf.ret [.tmp 2] [.c (.p (pI 2))] rfl rfl (by simp only [resultsD, go_sem, nZ]) rfl)
   rcases Bool.eq_false_or_eq_true (decide (1099511627776 < b.w)) with a4 | a4
   ·refine gR fun K F => ?_; simp only [go_sem, nZ, k0, a1, a2, a3, a4]; apply F; clear F K
    refine gT (by simp only [go_sem, nZ, k0, a1, a2, a3, a4]) ?_
    refine gS fun K F => ?_; simp only [go_sem, nZ]; apply F; clear F K
    obtain rfl : R = 2 := by rw [← hR]; simp only [a1, a2, a3, a4, k0, gB, cond_true, cond_false]
    exact Wc.ret (Pf.ret [.tmp 2] [.c (.p (pI 2))] rfl rfl (by simp only [resultsD, go_sem, nZ]) rfl)
   rcases Bool.eq_false_or_eq_true (decide (b.fr < 0)) with a5 | a5
   ·refine gR fun K F => ?_; simp only [go_sem, nZ, k0, a1, a2, a3, a4, a5]; apply F; clear F K
    refine gT (by simp only [go_sem, nZ, k0, a1, a2, a3, a4, a5]) ?_
    refine gS fun K F => ?_; simp only [go_sem, nZ]; apply F; clear F K
    obtain rfl : R = 2 := by rw [← hR]; simp only [a1, a2, a3, a4, a5, k0, gB, cond_true, cond_false]
    exact Wc.ret (Pf.ret [.tmp 2] [.c (.p (pI 2))] rfl rfl (by simp only [resultsD, go_sem, nZ]) rfl)
   rcases Bool.eq_false_or_eq_true (decide (1099511627776 < b.fr)) with a6 | a6
   ·refine gR fun K F => ?_; simp only [go_sem, nZ, k0, a1, a2, a3, a4, a5, a6]; apply F; clear F K
    refine gT (by simp only [go_sem, nZ, k0, a1, a2, a3, a4, a5, a6]) ?_
    refine gS fun K F => ?_; simp only [go_sem, nZ]; apply F; clear F K
    obtain rfl : R = 2 := by rw [← hR]; simp only [a1, a2, a3, a4, a5, a6, k0, gB, cond_true, cond_false]
    exact Wc.ret (Pf.ret [.tmp 2] [.c (.p (pI 2))] rfl rfl (by simp only [resultsD, go_sem, nZ]) rfl)
   refine gR fun K F => ?_; simp only [go_sem, nZ, k0, a1, a2, a3, a4, a5, a6]; apply F; clear F K
   refine gF (by simp only [go_sem, nZ, k0, a1, a2, a3, a4, a5, a6]) ?_
   simp only [a1, a2, a3, a4, a5, a6, k0, gB, cond_true, cond_false] at hR
   exact ⟨⟨hR, by have := of_decide_eq_false a3; omega⟩, rfl, by simp only [Fs, nZ, go_sem, nZ], by (try simp only [St.nx_put, St.nx_adv]); repeat (first | exact OA.mono s00_oa (by omega) | refine OA.newB ?_ (by omega) rfl | refine OA.advB ?_)⟩
 clear hR
 rintro ⟨e, ds, s1⟩ ⟨⟨hR, hw0⟩, rfl, hF, ho⟩
 simp only [Fs] at hF ho
 have g0 := ho.at_ (0, .cells (b.pd.map .p) false) (by simp)
 simp only [List.map_cons, List.map_nil] at g0
 refine Wc.seq (Wc.seq ?_)
 refine gR fun K F => ?_; simp only [go_sem, nZ, hF, g0]; apply F; clear F K
 refine Wc.cond (t := decide (4000 < (b.cs.length : Int))) (by simp only [go_sem, nZ, hF]) (fun hc => ?_) (fun hc => ?_)
 ·simp only [hc, gB, cond_true, cond_false] at hR
  subst hR
  refine gS fun K F => ?_; simp only [go_sem, nZ, hF]; apply F; clear F K
  exact Wc.ret (Pf.ret [.tmp 2] [.c (.p (pI 4))] rfl rfl (by simp only [resultsD, go_sem, nZ, hF]) rfl)
 simp only [hc, gB, cond_true, cond_false] at hR
 have hR0 : cksC b.w (prevC b.cs 0) (b.cs.drop 0) = R := hR
 refine Wc.skip (Wc.seqR (fun y => R = 0 ∧ y.ds = [] ∧ Fs y.e 82 []) ?_ ?_)
 ·refine gS fun K F => ?_; simp only [go_sem, nZ, hF]; apply F; clear F K
  refine Wc.block (Wc.loop (fun k y => ∃ i : Nat, k = b.cs.length - i ∧ (i ≤ b.cs.length ∧ cksC b.w (prevC b.cs i) (b.cs.drop i) = R) ∧ y.ds = [] ∧ Fs y.e 82 [(1, .v (.c (.ref 0 0))), (3, P' (pI i))] ∧ OA y.s.nx y.s [] [(0, .cells (b.pd.map .p) false)]) ?_ (k := b.cs.length) ⟨0, rfl, ⟨by omega, hR0⟩, rfl, by simp only [Fs, nZ, go_sem, nZ, hF], by (try simp only [St.nx_put, St.nx_adv]); repeat (first | exact OA.mono ho (by omega) | refine OA.newB ?_ (by omega) rfl | refine OA.advB ?_)⟩)
  clear hF ho g0 e s1 hR hR0
  rintro k ⟨e, ds, s1⟩ ⟨i, rfl, ⟨hi, hR⟩, rfl, hF, ho⟩
  simp only [Fs] at hF ho
  have g0 := ho.at_ (0, .cells (b.pd.map .p) false) (by simp)
  simp only [List.map_cons, List.map_nil] at g0
  refine Wc.seq (Wc.seq ?_)
  refine gR fun K F => ?_; simp only [go_sem, nZ, hF, g0]; apply F; clear F K
  refine Wc.cond (t := decide ((i : Int) < b.cs.length)) (by simp only [go_sem, nZ, hF]) (fun hc => ?_) (fun hc => ?_)
  ·have hil : i < b.cs.length := by have := of_decide_eq_true hc; omega
   obtain ⟨c, hcc⟩ : ∃ c, b.cs[i]? = some c := ⟨b.cs[i], List.getElem?_eq_getElem hil⟩
   have zc := hz c (List.mem_of_getElem? hcc)
   rw [cksC_step hcc] at hR
   have hix := ixA ti65 rfl ti96 (j := i) (m := b.cs.length) (cs := b.cs.flatMap Chk.pd) hil hfl (by decide)
   have hca := rpK hcc
   have p125 := pf125 c b.w zc hw0
   refine Wc.skip (Wc.seq (Wc.block (Wc.seq (Wc.seq ?_))))
   refine Wc.regT fun K F => ?_; simp only [go_sem, nZ, hF, g0, hix, hca]
   refine gP (p125) (by kernel_rfl) (by kernel_rfl) rfl rfl ?_
   simp only [go_sem, nZ, hF, o125, x125]; refine ⟨by rw [trOK_eq3]; rfl, F _ _ ?_⟩; clear F K
   refine gS fun K F => ?_; simp only [go_sem, nZ, hF]; apply F; clear F K
   generalize ckC c b.w = V at *
   refine Wc.cond (t := V != 0) (by simp only [go_sem, nZ, hF]) (fun hc => ?_) (fun hc => ?_)
   ·simp only [hc, gB, cond_true, cond_false] at hR
    subst hR
    refine gS fun K F => ?_; simp only [go_sem, nZ, hF]; apply F; clear F K
    exact Wc.ret (Pf.ret [.tmp 2] [.c (.p (pI V))] rfl rfl (by simp only [resultsD, go_sem, nZ, hF]) rfl)
   simp only [hc, gB, cond_true, cond_false] at hR
   refine Wc.skip ?_
   refine Wc.cutR (fun y => cksC b.w (prevC b.cs (i + 1)) (b.cs.drop (i + 1)) = R ∧ y.ds = [] ∧ Fs y.e 82 [(1, .v (.c (.ref 0 0))), (3, P' (pI i))] ∧ OA y.s.nx y.s [] [(0, .cells (b.pd.map .p) false)]) ?_ ?_
   ·by_cases h0 : i = 0
    ·have hh : ((0 : Int) < (i : Int)) = False := by simp; omega
     have hd : decide (0 < i) = false := by simp; omega
     simp only [hd, gB, cond_true, cond_false] at hR
     refine Wc.seq ?_
     refine Wc.regT fun K F => ?_; simp only [go_sem, nZ, hF, hh]; refine ⟨by rw [trOK_eq3]; rfl, F _ _ ?_⟩; clear F K
     refine gF (by simp only [go_sem, nZ, hF]) ?_
     exact ⟨hR, rfl, by simp only [Fs, nZ, go_sem, nZ, hF], by (try simp only [St.nx_put, St.nx_adv]); repeat (first | exact OA.mono ho (by omega) | refine OA.newB ?_ (by omega) rfl | refine OA.advB ?_)⟩
    ·have hh : ((0 : Int) < (i : Int)) = True := by simp; omega
     have hd : decide (0 < i) = true := by simp; omega
     obtain ⟨q, hq⟩ : ∃ q, b.cs[i - 1]? = some q := ⟨b.cs[i - 1], List.getElem?_eq_getElem (by omega)⟩
     have zq := hz q (List.mem_of_getElem? hq)
     have w1 : IntKind.i64.wrap ((i : Int) - 1) = ((i - 1 : Nat) : Int) := by rw [wi64]; omega
     have hiq := ixA ti65 rfl ti96 (j := i - 1) (m := b.cs.length) (cs := b.cs.flatMap Chk.pd) (by omega) hfl (by decide)
     have hcq := rpK hq
     have p126 := pf126g q c zq zc
     have hcp : cmpP (b.cs[i - 1]?) c = cmpC q c := by rw [hq]; rfl
     rw [hcp] at hR
     generalize cmpC q c = V2 at hR p126
     simp only [hd, gB, cond_true, cond_false] at hR
     refine Wc.seq ?_
     refine Wc.regT fun K F => ?_; simp only [go_sem, nZ, hF, hh, g0, w1, hiq, hcq, hix, hca]
     refine gP (p126) (by kernel_rfl) (by kernel_rfl) rfl rfl ?_
     simp only [go_sem, nZ, hF, o126, x126]; refine ⟨by rw [trOK_eq3]; rfl, F _ _ ?_⟩; clear F K
     refine Wc.cond (t := decide (0 ≤ V2)) (by simp only [go_sem, nZ, hF]) (fun hc => ?_) (fun hc => ?_)
     ·simp only [hc, gB, cond_true, cond_false] at hR
      subst hR
      refine gS fun K F => ?_; simp only [go_sem, nZ, hF]; apply F; clear F K
      exact Wc.ret (Pf.ret [.tmp 2] [.c (.p (pI 9))] rfl rfl (by simp only [resultsD, go_sem, nZ, hF]) rfl)
     simp only [hc, gB, cond_true, cond_false] at hR
     exact Wc.skip ⟨hR, rfl, by simp only [Fs, nZ, go_sem, nZ, hF], by (try simp only [St.nx_put, St.nx_adv]); repeat (first | exact OA.mono ho (by omega) | refine OA.newB ?_ (by omega) rfl | refine OA.advB ?_)⟩
   clear hF ho g0 e s1 hR
   rintro ⟨e, ds, s1⟩ ⟨hR, rfl, hF, ho⟩
   simp only [Fs] at hF ho
   refine gR fun K F => ?_; simp only [go_sem, nZ, hF, i64n i (by omega)]; apply F; clear F K
   exact ⟨b.cs.length - (i + 1), by omega, i + 1, rfl, ⟨by omega, hR⟩, rfl, by simp only [Fs, nZ, go_sem, nZ, hF], by (try simp only [St.nx_put, St.nx_adv]); repeat (first | exact OA.mono ho (by omega) | refine OA.newB ?_ (by omega) rfl | refine OA.advB ?_)⟩
  ·have hil : i = b.cs.length := by have := of_decide_eq_false hc; omega
   rw [hil, List.drop_length, cksC] at hR
   exact Wc.exit ⟨hR.symm, rfl, by simp only [Fs, nZ, go_sem, nZ, hF]⟩
 clear hF ho g0 e s1 hR
 rintro ⟨e, ds, s1⟩ ⟨rfl, rfl, hF⟩
 simp only [Fs] at hF
 refine gS fun K F => ?_; simp only [go_sem, nZ, hF]; apply F; clear F K
 exact Wc.ret (Pf.ret [.tmp 2] [.c (.p (pI 0))] rfl rfl (by simp only [resultsD, go_sem, nZ, hF]) rfl)
end Go.Proofs.YtedcnhbblgmdnaaGreat.Ab
