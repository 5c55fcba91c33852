/- A part of the proof. -/
import Derived.Test.YtedcnhbblgmdnaaGreatT23
import Derived.Test.YtedcnhbblgmdnaaGreatT22
namespace Go.Proofs.YtedcnhbblgmdnaaGreat.Ab
set_option maxHeartbeats 4000000
set_option linter.unusedSimpArgs false
set_option linter.unusedVariables false
/-! ### rollups, encoded and read again -/
structure ZG where
 c : Int
 t1 : Int
 t2 : Int
 v1 : Int
 v2 : Int
 b0 : Int
 b1 : Int
 b2 : Int
 b3 : Int
 b4 : Int
 b5 : Int
 b6 : Int
 b7 : Int
 deriving DecidableEq
abbrev pU (n : Int) : Pd := .int .u32 n
abbrev ZG.pd (z : ZG) : List Pd := [pI z.c, pI z.t1, pI z.t2, pI z.v1, pI z.v2, pU z.b0, pU z.b1, pU z.b2, pU z.b3, pU z.b4, pU z.b5, pU z.b6, pU z.b7]
abbrev Zo.g (z : Zo) : ZG := ⟨z.c, z.t1, z.t2, z.v1, z.v2, 0, 0, 0, 0, 0, 0, 0, 0⟩
def zB : Bkt := ⟨0, 0, 0, 0, 0, 0, 0, 0, 0, 0⟩
def bktR : List (ColR Bkt) := [(0, fun b n => { b with st := IntKind.i64.wrap (n - 1) }), (1, fun b n => { b with c := n }), (1, fun b n => { b with s := n }), (1, fun b n => { b with mn := n }), (1, fun b n => { b with mx := n }), (1, fun b n => { b with f := n }), (1, fun b n => { b with l := n }), (1, fun b n => { b with ft := n }), (1, fun b n => { b with lt := n }), (1, fun b n => { b with inc := n })]
def parseL (lb : List Lb) (d : List UInt8) : Option Rlp :=
 if (rdV d).2.2 ≠ 0 ∨ 262144 < d.length then none else
 if (rdV (d.drop (rdV d).2.1)).2.2 ≠ 0 then none else
 match splitN 10 (d.drop ((rdV d).2.1 + (rdV (d.drop (rdV d).2.1)).2.1)) with
 | none => none
 | some ss => (unpk zB bktR ss).map fun l => ⟨lb, (rdV d).1, (rdV (d.drop (rdV d).2.1)).1, l⟩
def encLo (x : Rlp) : Option (List UInt8) := if rlpOK x = false then none else match packE x.bs bktCols with
 | none => none
 | some ss => jn (appV (appV [] x.k).1 x.w).1 ss
theorem encR_some {x : Rlp} {d : List UInt8} (h : encLo x = some d) : encR x = .tup [chV 6 (.lst x.lb.length (x.lb.flatMap lbP)) (rlpZ x.bs).pd d, .c (.p (pI 0))] := by
 unfold encLo at h
 unfold encR
 split at h
 ·cases h
 ·rename_i hs
  rw [if_neg hs]
  split at h
  ·cases h
  ·rename_i ss hss
   rw [hss]
   simp only [h, finE]
theorem encR_none {x : Rlp} (h : encLo x = none) : encR x = .tup [noCh, .c (.p (pI (if rlpOK x then 4 else 1)))] := by
 unfold encLo at h
 unfold encR
 split at h
 ·rename_i hs; rw [if_pos hs, hs]; rfl
 ·rename_i hs
  have hs' : rlpOK x = true := by simpa using hs
  rw [if_neg hs, hs', if_pos rfl]
  split at h
  ·rename_i hss; rw [hss]
  ·rename_i ss hss
   rw [hss]
   simp only [h, finE]
def decL (lb : List Lb) (z : ZG) (d : List UInt8) : Option Rlp := match parseL lb d with
 | none => none
 | some x => if encLo x = some d ∧ (rlpZ x.bs).g = z then some x else none
theorem bksOK_st {k w : Int} : ∀ {l : List Bkt} {p : Int}, bksOK k w p l = true → -1 ≤ p → ∀ b ∈ l, 0 ≤ b.st ∧ b.st < 1099511627776
 | [], p, _, _ => fun b hb => by cases hb
 | a :: r, p, h, hp => by
  simp only [bksOK, Bool.and_eq_true, Bool.not_eq_true', Bool.or_eq_false_iff, decide_eq_false_iff_not] at h
  obtain ⟨⟨⟨h1, h2⟩, _⟩, _, h3⟩ := h
  intro b hb
  rcases List.mem_cons.1 hb with rfl | hb
  ·omega
  ·exact bksOK_st h3 (by omega) b hb
def bktCs (l : List Bkt) : List (List UInt8 × Int) := bktCols.map fun c => encF c.f (l.map c.get)
theorem unpk_bkt {l : List Bkt} {ss : List (List UInt8)} (h : colsOK (bktCs l) = some ss) (hb : ∀ b ∈ l, 0 ≤ b.st ∧ b.st < 1099511627776) : unpk zB bktR ss = some l := by
 obtain ⟨rfl, hz⟩ := colsOK_some h
 simp only [bktCs, bktCols, List.map_cons, List.map_nil, List.forall_mem_cons] at hz
 obtain ⟨z0, z1, z2, z3, z4, z5, z6, z7, z8, z9, _⟩ := hz
 have := unpk_enc zB l ((0, fun b n => { b with st := IntKind.i64.wrap (n - 1) }), (fun b => IntKind.i64.wrap (b.st + 1))) [((1, fun b n => { b with c := n }), (·.c)), ((1, fun b n => { b with s := n }), (·.s)), ((1, fun b n => { b with mn := n }), (·.mn)), ((1, fun b n => { b with mx := n }), (·.mx)), ((1, fun b n => { b with f := n }), (·.f)), ((1, fun b n => { b with l := n }), (·.l)), ((1, fun b n => { b with ft := n }), (·.ft)), ((1, fun b n => { b with lt := n }), (·.lt)), ((1, fun b n => { b with inc := n }), (·.inc))] (by
  intro c hc
  simp only [List.mem_cons, List.not_mem_nil, or_false] at hc
  rcases hc with rfl | rfl | rfl | rfl | rfl | rfl | rfl | rfl | rfl | rfl <;> assumption)
 simp only [List.map_cons, List.map_nil, List.foldl_cons, List.foldl_nil] at this
 simp only [bktCs, bktCols, bktR, List.map_cons, List.map_nil]
 rw [this]
 congr 1
 rw [List.map_congr_left (g := id), List.map_id]
 intro b hbm
 obtain ⟨h1, h2⟩ := hb b hbm
 have e : IntKind.i64.wrap (IntKind.i64.wrap (b.st + 1) - 1) = b.st := by rw [wi64, wi64]; omega
 simp only [e, id]
theorem encLo_some {x : Rlp} {d : List UInt8} (h : encLo x = some d) : rlpOK x = true ∧ ∃ ss, colsOK (bktCs x.bs) = some ss ∧ d = vb x.k.toNat ++ (vb x.w.toNat ++ flatP ss) ∧ d.length ≤ 262144 := by
 unfold encLo at h
 split at h
 ·cases h
 ·rename_i hs
  have hs' : rlpOK x = true := by simpa using hs
  obtain ⟨hk, hw, _, _⟩ := rlpOK_some hs'
  refine ⟨hs', ?_⟩
  rw [packE_cols] at h
  split at h
  ·cases h
  ·rename_i ss hss
   have e : (appV (appV [] x.k).1 x.w).1 = vb x.k.toNat ++ vb x.w.toNat := by
    have e1 : appV [] x.k = (vb x.k.toNat, 0) := by unfold appV; rw [if_neg (by omega)]; rfl
    rw [e1]; unfold appV; rw [if_neg (by omega)]
   have hv := vb_len10 (n := x.k.toNat) (by omega)
   have hv2 := vb_len10 (n := x.w.toNat) (by omega)
   rw [e, jn_eq _ _ (by rw [List.length_append]; omega)] at h
   split at h
   ·cases h
   ·rename_i hl
    cases h
    exact ⟨ss, hss, by rw [List.append_assoc], by omega⟩
theorem bktCs_n (l : List Bkt) {ss : List (List UInt8)} (h : colsOK (bktCs l) = some ss) : ss.length = 10 := by
 obtain ⟨rfl, _⟩ := colsOK_some h
 simp [bktCs, bktCols]
theorem flatP_parts {p d : List UInt8} {ss : List (List UInt8)} (hd : d = p ++ flatP ss) (hl : d.length ≤ 262144) : ∀ s ∈ ss, s.length ≤ 1152921504606846976 := by
 intro s hs
 have : s.length ≤ (flatP ss).length := by
  obtain ⟨a, b, rfl⟩ := List.append_of_mem hs
  simp only [flatP, List.flatMap_append, List.flatMap_cons, List.length_append]
  omega
 rw [hd, List.length_append] at hl
 omega
theorem parseL_enc {x : Rlp} {d : List UInt8} (h : encLo x = some d) : parseL x.lb d = some x := by
 obtain ⟨hs, ss, hss, hd, hl⟩ := encLo_some h
 obtain ⟨hk, hw, _, _⟩ := rlpOK_some hs
 have hp := flatP_parts (p := vb x.k.toNat ++ vb x.w.toNat) (by rw [hd, List.append_assoc]) hl
 have hn := bktCs_n x.bs hss
 have hv := rdV_vb (n := x.k.toNat) (by omega) (vb x.w.toNat ++ flatP ss)
 rw [← hd] at hv
 have hdr : d.drop (vb x.k.toNat).length = vb x.w.toNat ++ flatP ss := by rw [hd]; simp
 have hv2 := rdV_vb (n := x.w.toNat) (by omega) (flatP ss)
 have hdr2 : d.drop ((vb x.k.toNat).length + (vb x.w.toNat).length) = flatP ss := by rw [← List.drop_drop, hdr]; simp
 have hkk : ((x.k.toNat : Nat) : Int) = x.k := by omega
 have hww : ((x.w.toNat : Nat) : Int) = x.w := by omega
 have hst : ∀ b ∈ x.bs, 0 ≤ b.st ∧ b.st < 1099511627776 := by
  unfold rlpOK at hs
  simp only [Bool.and_eq_true] at hs
  exact bksOK_st hs.2.2 (Int.le_refl _)
 have hsp := splitN_flat ss hp
 rw [hn] at hsp
 unfold parseL
 rw [hv]
 simp only [hdr, hv2, hdr2, hkk, hww]
 rw [if_neg (by simp; omega), if_neg (by simp), hsp]
 simp only [unpk_bkt hss hst, Option.map_some]
theorem decL_enc {x : Rlp} {d : List UInt8} (h : encLo x = some d) : decL x.lb (rlpZ x.bs).g d = some x := by
 unfold decL
 rw [parseL_enc h]
 simp only [h]
 rw [if_pos ⟨trivial, trivial⟩]
theorem decL_some {lb : List Lb} {z : ZG} {d : List UInt8} {x : Rlp} (h : decL lb z d = some x) : encLo x = some d ∧ (rlpZ x.bs).g = z ∧ x.lb = lb := by
 unfold decL at h
 split at h
 ·cases h
 ·rename_i y hy
  split at h
  ·rename_i hx
   cases h
   refine ⟨hx.1, hx.2, ?_⟩
   unfold parseL at hy
   split at hy
   ·cases hy
   ·split at hy
    ·cases hy
    ·split at hy
     ·cases hy
     ·rename_i ss _
      cases hu : unpk zB bktR ss with
      | none => rw [hu] at hy; cases hy
      | some l => rw [hu] at hy; cases hy; rfl
  ·cases h
set_option maxHeartbeats 8000000
set_option maxRecDepth 10000
structure Chk where
 sig : Int
 lb : List Lb
 z : ZG
 d : List UInt8
abbrev Chk.pd (c : Chk) : List Pd := [pI c.sig, .lst c.lb.length (c.lb.flatMap lbP), pI c.z.c, pI c.z.t1, pI c.z.t2, pI c.z.v1, pI c.z.v2, pU c.z.b0, pU c.z.b1, pU c.z.b2, pU c.z.b3, pU c.z.b4, pU c.z.b5, pU c.z.b6, pU c.z.b7, .str c.d]
structure Blk where
 id : Int
 w : Int
 fr : Int
 cs : List Chk
abbrev Blk.pd (b : Blk) : List Pd := [pI b.id, pI b.w, pI b.fr, .lst b.cs.length (b.cs.flatMap Chk.pd)]
structure Cz (c : Chk) : Prop where
 lb : c.lb.length < 2^40
 ls : ∀ y ∈ c.lb, y.1.length < 2^50 ∧ y.2.length < 2^50
 d : c.d.length < 2^40
def cmpI (a b : Int) : Int := if a < b then -1 else if b < a then 1 else 0
def zG1 (z : ZG) : Bool := (z.t1 == 0) && ((z.t2 == 0) && ((z.v1 == 0) && ((z.v2 == 0) && ((z.b0 == 0) && ((z.b1 == 0) && ((z.b2 == 0) && ((z.b3 == 0) && ((z.b4 == 0) && ((z.b5 == 0) && ((z.b6 == 0) && (z.b7 == 0)))))))))))
def zkG (z : ZG) : Int := bif decide (z.c < 0) || decide (1152921504606846976 < z.c) then 2 else bif z.c == 0 then (bif zG1 z then 0 else 10) else bif !isT z.t1 || !isT z.t2 then 2 else bif decide (z.t2 < z.t1) then 9 else bif !isVl z.v1 || !isVl z.v2 then 2 else bif decide (z.v2 < z.v1) then 9 else 0
def ckC (c : Chk) (w : Int) : Int := bif decide (c.sig < 1) || decide (6 < c.sig) then 8 else bif !((c.sig == 6) == (w != 0)) then 8 else bif lckA c.lb != 0 then lckA c.lb else bif ((c.sig == 3) || (c.sig == 5)) && decide (0 < (c.lb.length : Int)) then 1 else bif zkG c.z != 0 then zkG c.z else bif decide (262144 < (c.d.length : Int)) then 4 else 0
def cmpC (a b : Chk) : Int := if cmpI a.sig b.sig ≠ 0 then cmpI a.sig b.sig else cmpL a.lb b.lb
def cksC (w : Int) : Option Chk → List Chk → Int
 | _, [] => 0
 | none, c :: r => bif ckC c w != 0 then ckC c w else cksC w (some c) r
 | some q, c :: r => bif ckC c w != 0 then ckC c w else bif decide (0 ≤ cmpC q c) then 9 else cksC w (some c) r
def blkC (b : Blk) : Int := bif decide (b.id < 1) || decide (1152921504606846976 < b.id) then 2 else bif decide (b.w < 0) || decide (1099511627776 < b.w) then 2 else bif (decide (b.fr < 0) || decide (1099511627776 < b.fr)) || ((b.w == 0) && (b.fr != 0)) then 2 else bif decide (4000 < (b.cs.length : Int)) then 4 else cksC b.w none b.cs
def prevC (l : List Chk) (i : Nat) : Option Chk := if i = 0 then none else l[i - 1]?
theorem pf214 (a : Int) : Pf E0 214 [.c (.p (pI a))] (P' (.bool false)) := by
 refine Pf.body (fn := Tryz.f214) (by kernel_rfl) rfl ?_; simp only [List.map_cons, List.map_nil, List.cons_append, List.nil_append, List.length_cons, List.length_nil, Tryz.ntmps214, List.replicate, Nat.reduceSub, Nat.reduceAdd]
 refine gS fun K F => ?_; simp only [go_sem, nZ]; apply F; clear F K
 refine gS fun K F => ?_; simp only [go_sem, nZ, bne_self_eq_false]; apply F; clear F K
 exact Wc.ret (Pf.ret [.tmp 2] [.c (.p (.bool false))] rfl rfl (by simp only [resultsD, go_sem, nZ]) rfl)
theorem pf138 (a b : Int) : Pf E0 138 [.c (.p (pI a)), .c (.p (pI b))] (P' (pI (cmpI a b))) := by
 refine Pf.body (fn := Tryz.f138) (by kernel_rfl) rfl ?_; simp only [List.map_cons, List.map_nil, List.cons_append, List.nil_append, List.length_cons, List.length_nil, Tryz.ntmps138, List.replicate, Nat.reduceSub, Nat.reduceAdd]
 refine gS fun K F => ?_; simp only [go_sem, nZ]; apply F; clear F K
 refine gS fun K F => ?_; simp only [go_sem, nZ]
 refine gP (pf214 a) (by kernel_rfl) (by kernel_rfl) rfl rfl ?_
 simp only [go_sem, nZ]; apply F; clear F K
 refine gS fun K F => ?_; simp only [go_sem, nZ]
 refine gP (pf214 b) (by kernel_rfl) (by kernel_rfl) rfl rfl ?_
 simp only [go_sem, nZ]; apply F; clear F K
 refine Wc.seq (Wc.seq ?_)
 refine gR fun K F => ?_; simp only [go_sem, nZ]; apply F; clear F K
 refine gF (by simp only [go_sem, nZ]) ?_
 refine Wc.seq (Wc.seq ?_)
 refine gR fun K F => ?_; simp only [go_sem, nZ]; apply F; clear F K
 refine gF (by simp only [go_sem, nZ]) ?_
 refine Wc.seq (Wc.seq ?_)
 by_cases h1 : a < b
 ·have e : cmpI a b = -1 := by unfold cmpI; rw [if_pos h1]
  rw [e]
  refine gR fun K F => ?_; simp only [go_sem, nZ, h1]; apply F; clear F K
  refine gT (by simp only [go_sem, nZ, h1]) ?_
  refine gS fun K F => ?_; simp only [go_sem, nZ]; apply F; clear F K
  exact Wc.ret (Pf.ret [.tmp 4] [.c (.p (pI (-1)))] rfl rfl (by simp only [resultsD, go_sem, nZ]) rfl)
 refine gR fun K F => ?_; simp only [go_sem, nZ, h1]; apply F; clear F K
 refine gF (by simp only [go_sem, nZ, h1]) ?_
 refine Wc.seq (Wc.seq ?_)
 by_cases h2 : b < a
 ·have e : cmpI a b = 1 := by unfold cmpI; rw [if_neg h1, if_pos h2]
  rw [e]
  refine gR fun K F => ?_; simp only [go_sem, nZ, h1, h2]; apply F; clear F K
  refine gT (by simp only [go_sem, nZ, h1, h2]) ?_
  refine gS fun K F => ?_; simp only [go_sem, nZ]; apply F; clear F K
  exact Wc.ret (Pf.ret [.tmp 4] [.c (.p (pI 1))] rfl rfl (by simp only [resultsD, go_sem, nZ]) rfl)
 ·have e : cmpI a b = 0 := by unfold cmpI; rw [if_neg h1, if_neg h2]
  rw [e]
  refine gR fun K F => ?_; simp only [go_sem, nZ, h1, h2]; apply F; clear F K
  refine gF (by simp only [go_sem, nZ, h1, h2]) ?_
  refine gS fun K F => ?_; simp only [go_sem, nZ]; apply F; clear F K
  exact Wc.ret (Pf.ret [.tmp 4] [.c (.p (pI 0))] rfl rfl (by simp only [resultsD, go_sem, nZ]) rfl)
theorem pf190 (a : Int) : Pf E0 190 [.c (.p (pI a))] (P' (.bool ((a == 3) || (a == 5)))) := by
 refine Pf.body (fn := Tryz.f190) (by kernel_rfl) rfl ?_; simp only [List.map_cons, List.map_nil, List.cons_append, List.nil_append, List.length_cons, List.length_nil, Tryz.ntmps190, List.replicate, Nat.reduceSub, Nat.reduceAdd]
 refine gS fun K F => ?_; simp only [go_sem, nZ]; apply F; clear F K
 refine Wc.seq ?_
 cases h : (a == 3) with
 | true =>
  refine gR fun K F => ?_; simp only [go_sem, nZ, h]; apply F; clear F K
  exact Wc.ret (Pf.ret [.tmp 2] [.c (.p (.bool true))] rfl rfl (by simp only [resultsD, go_sem, nZ]) rfl)
 | false =>
  refine gR fun K F => ?_; simp only [go_sem, nZ, h]; apply F; clear F K
  exact Wc.ret (Pf.ret [.tmp 2] [.c (.p (.bool (a == 5)))] rfl rfl (by simp only [resultsD, go_sem, nZ]) rfl)
theorem pf191 (z : ZG) : Pf E0 191 [.agg (z.pd.map .p)] (P' (pI (zkG z))) := by
 generalize hR : zkG z = R
 unfold zkG at hR
 refine Pf.body (fn := Tryz.f191) (by kernel_rfl) rfl ?_; simp only [List.map_cons, List.map_nil, List.cons_append, List.nil_append, List.length_cons, List.length_nil, Tryz.ntmps191, List.replicate, Nat.reduceSub, Nat.reduceAdd]
 refine gS fun K F => ?_; simp only [go_sem, nZ]; apply F; clear F K
 refine Wc.seq (Wc.seq ?_)
 rcases Bool.eq_false_or_eq_true (decide (z.c < 0)) with a1 | a1
 ·refine gR fun K F => ?_; simp only [go_sem, nZ, a1]; apply F; clear F K
  refine gT (by simp only [go_sem, nZ, a1]) ?_
  refine gS fun K F => ?_; simp only [go_sem, nZ]; apply F; clear F K
  obtain rfl : R = 2 := by rw [← hR]; simp only [a1, gB, cond_true, cond_false]
  exact Wc.ret (Pf.ret [.tmp 2] [.c (.p (pI 2))] rfl rfl (by simp only [resultsD, go_sem, nZ]) rfl)
 rcases Bool.eq_false_or_eq_true (decide (1152921504606846976 < z.c)) with a2 | a2
 ·refine gR fun K F => ?_; simp only [go_sem, nZ, a1, a2]; apply F; clear F K
  refine gT (by simp only [go_sem, nZ, a1, a2]) ?_
  refine gS fun K F => ?_; simp only [go_sem, nZ]; apply F; clear F K
  obtain rfl : R = 2 := by rw [← hR]; simp only [a1, a2, gB, cond_true, cond_false]
  exact Wc.ret (Pf.ret [.tmp 2] [.c (.p (pI 2))] rfl rfl (by simp only [resultsD, go_sem, nZ]) rfl)
 refine gR fun K F => ?_; simp only [go_sem, nZ, a1, a2]; apply F; clear F K
 refine gF (by simp only [go_sem, nZ, a1, a2]) ?_
 simp only [a1, a2, gB, cond_true, cond_false] at hR
 refine Wc.seq (Wc.seq ?_)
 rcases Bool.eq_false_or_eq_true (z.c == 0) with k0 | k0
 ·simp only [k0, gB, cond_true, cond_false] at hR
  refine gR fun K F => ?_; simp only [go_sem, nZ, k0]; apply F; clear F K
  refine gT (by simp only [go_sem, nZ, k0]) ?_
  refine Wc.seq (Wc.seq ?_)
  unfold zG1 at hR
  have kz := eq_of_beq k0
  rcases Bool.eq_false_or_eq_true ((z.t1 == 0) && ((z.t2 == 0) && ((z.v1 == 0) && ((z.v2 == 0) && ((z.b0 == 0) && ((z.b1 == 0) && ((z.b2 == 0) && ((z.b3 == 0) && ((z.b4 == 0) && ((z.b5 == 0) && ((z.b6 == 0) && (z.b7 == 0)))))))))))) with k1 | k1
  ·simp only [k1, cond_true] at hR
   subst hR
   refine gR fun K F => ?_; simp only [go_sem, nZ, k0, k1, eqL, eqS]; apply F; clear F K
   refine gF (by simp only [go_sem, nZ, k1]) ?_
   refine gS fun K F => ?_; simp only [go_sem, nZ]; apply F; clear F K
   exact Wc.ret (Pf.ret [.tmp 2] [.c (.p (pI 0))] rfl rfl (by simp only [resultsD, go_sem, nZ]) rfl)
  ·simp only [k1, cond_false] at hR
   subst hR
   refine gR fun K F => ?_; simp only [go_sem, nZ, k0, k1, eqL, eqS]; apply F; clear F K
   refine gT (by simp only [go_sem, nZ, k1]) ?_
   refine gS fun K F => ?_; simp only [go_sem, nZ]; apply F; clear F K
   exact Wc.ret (Pf.ret [.tmp 2] [.c (.p (pI 10))] rfl rfl (by simp only [resultsD, go_sem, nZ]) rfl)
 simp only [k0, gB, cond_true, cond_false] at hR
 refine gR fun K F => ?_; simp only [go_sem, nZ, k0]; apply F; clear F K
 refine gF (by simp only [go_sem, nZ, k0]) ?_
 refine Wc.seq (Wc.seq ?_)
 cases h1 : isT z.t1 with
 | false =>
  refine gR fun K F => ?_; simp only [go_sem, nZ]
  refine gP (pf235 z.t1) (by kernel_rfl) (by kernel_rfl) rfl rfl ?_
  simp only [go_sem, nZ, h1]; apply F; clear F K
  refine gT (by simp only [go_sem, nZ]) ?_
  refine gS fun K F => ?_; simp only [go_sem, nZ]; apply F; clear F K
  obtain rfl : R = 2 := by rw [← hR]; simp only [h1, gB, cond_true, cond_false]
  exact Wc.ret (Pf.ret [.tmp 2] [.c (.p (pI 2))] rfl rfl (by simp only [resultsD, go_sem, nZ]) rfl)
 | true =>
 cases h2 : isT z.t2 with
 | false =>
  refine gR fun K F => ?_; simp only [go_sem, nZ]
  refine gP (pf235 z.t1) (by kernel_rfl) (by kernel_rfl) rfl rfl ?_
  simp only [go_sem, nZ, h1]
  refine gP (pf235 z.t2) (by kernel_rfl) (by kernel_rfl) rfl rfl ?_
  simp only [go_sem, nZ, h2]; apply F; clear F K
  refine gT (by simp only [go_sem, nZ]) ?_
  refine gS fun K F => ?_; simp only [go_sem, nZ]; apply F; clear F K
  obtain rfl : R = 2 := by rw [← hR]; simp only [h1, h2, gB, cond_true, cond_false]
  exact Wc.ret (Pf.ret [.tmp 2] [.c (.p (pI 2))] rfl rfl (by simp only [resultsD, go_sem, nZ]) rfl)
 | true =>
 simp only [h1, h2, gB, cond_true, cond_false] at hR
 refine gR fun K F => ?_; simp only [go_sem, nZ]
 refine gP (pf235 z.t1) (by kernel_rfl) (by kernel_rfl) rfl rfl ?_
 simp only [go_sem, nZ, h1]
 refine gP (pf235 z.t2) (by kernel_rfl) (by kernel_rfl) rfl rfl ?_
 simp only [go_sem, nZ, h2]; apply F; clear F K
 refine gF (by simp only [go_sem, nZ]) ?_
 refine Wc.seq (Wc.seq ?_)
 refine gR fun K F => ?_; simp only [go_sem, nZ]; apply F; clear F K
 refine Wc.cond (t := decide (z.t2 < z.t1)) (by simp only [go_sem, nZ]) (fun hc => ?_) (fun hc => ?_)
 ·simp only [hc, gB, cond_true, cond_false] at hR
  subst hR
  refine gS fun K F => ?_; simp only [go_sem, nZ]; apply F; clear F K
  exact Wc.ret (Pf.ret [.tmp 2] [.c (.p (pI 9))] rfl rfl (by simp only [resultsD, go_sem, nZ]) rfl)
 simp only [hc, gB, cond_true, cond_false] at hR
 refine Wc.skip (Wc.seq (Wc.seq ?_))
 cases h3 : isVl z.v1 with
 | false =>
  refine gR fun K F => ?_; simp only [go_sem, nZ]
  refine gP (pf236 z.v1) (by kernel_rfl) (by kernel_rfl) rfl rfl ?_
  simp only [go_sem, nZ, h3]; apply F; clear F K
  refine gT (by simp only [go_sem, nZ]) ?_
  refine gS fun K F => ?_; simp only [go_sem, nZ]; apply F; clear F K
  obtain rfl : R = 2 := by rw [← hR]; simp only [h3, gB, cond_true, cond_false]
  exact Wc.ret (Pf.ret [.tmp 2] [.c (.p (pI 2))] rfl rfl (by simp only [resultsD, go_sem, nZ]) rfl)
 | true =>
 cases h4 : isVl z.v2 with
 | false =>
  refine gR fun K F => ?_; simp only [go_sem, nZ]
  refine gP (pf236 z.v1) (by kernel_rfl) (by kernel_rfl) rfl rfl ?_
  simp only [go_sem, nZ, h3]
  refine gP (pf236 z.v2) (by kernel_rfl) (by kernel_rfl) rfl rfl ?_
  simp only [go_sem, nZ, h4]; apply F; clear F K
  refine gT (by simp only [go_sem, nZ]) ?_
  refine gS fun K F => ?_; simp only [go_sem, nZ]; apply F; clear F K
  obtain rfl : R = 2 := by rw [← hR]; simp only [h3, h4, gB, cond_true, cond_false]
  exact Wc.ret (Pf.ret [.tmp 2] [.c (.p (pI 2))] rfl rfl (by simp only [resultsD, go_sem, nZ]) rfl)
 | true =>
 simp only [h3, h4, gB, cond_true, cond_false] at hR
 refine gR fun K F => ?_; simp only [go_sem, nZ]
 refine gP (pf236 z.v1) (by kernel_rfl) (by kernel_rfl) rfl rfl ?_
 simp only [go_sem, nZ, h3]
 refine gP (pf236 z.v2) (by kernel_rfl) (by kernel_rfl) rfl rfl ?_
 simp only [go_sem, nZ, h4]; apply F; clear F K
 refine gF (by simp only [go_sem, nZ]) ?_
 refine Wc.seq (Wc.seq ?_)
 refine gR fun K F => ?_; simp only [go_sem, nZ]; apply F; clear F K
 refine Wc.cond (t := decide (z.v2 < z.v1)) (by simp only [go_sem, nZ]) (fun hc => ?_) (fun hc => ?_)
 ·simp only [hc, gB, cond_true, cond_false] at hR
  subst hR
  refine gS fun K F => ?_; simp only [go_sem, nZ]; apply F; clear F K
  exact Wc.ret (Pf.ret [.tmp 2] [.c (.p (pI 9))] rfl rfl (by simp only [resultsD, go_sem, nZ]) rfl)
 simp only [hc, gB, cond_true, cond_false] at hR
 subst hR
 refine Wc.skip (Wc.seq ?_)
 refine gR fun K F => ?_; simp only [go_sem, nZ]; apply F; clear F K
 exact Wc.ret (Pf.ret [.tmp 2] [.c (.p (pI 0))] rfl rfl (by simp only [resultsD, go_sem, nZ]) rfl)
set_option linter.unusedSimpArgs false
set_option linter.unusedVariables false
theorem pf118 (c : Chk) (w : Int) (z : Cz c) : Pf E0 118 [.agg (c.pd.map .p), .c (.p (pI w))] (P' (pI (ckC c w))) := by
 generalize hR : ckC c w = R
 unfold ckC at hR
 have p134 := pf134 c.lb z.lb z.ls
 have p191 := pf191 c.z
 refine Pf.body (fn := Tryz.f118) (by kernel_rfl) rfl ?_; simp only [List.map_cons, List.map_nil, List.cons_append, List.nil_append, List.length_cons, List.length_nil, Tryz.ntmps118, List.replicate, Nat.reduceSub, Nat.reduceAdd]
 refine gS fun K F => ?_; simp only [go_sem, nZ]; apply F; clear F K
 refine Wc.seq (Wc.seq ?_)
 rcases Bool.eq_false_or_eq_true (decide (c.sig < 1)) with a1 | a1
 ·refine gR fun K F => ?_; simp only [go_sem, nZ, a1]; apply F; clear F K
  refine gT (by simp only [go_sem, nZ, a1]) ?_
  refine gS fun K F => ?_; simp only [go_sem, nZ]; apply F; clear F K
  obtain rfl : R = 8 := by rw [← hR]; simp only [a1, gB, cond_true, cond_false]
  exact Wc.ret (Pf.ret [.tmp 4] [.c (.p (pI 8))] rfl rfl (by simp only [resultsD, go_sem, nZ]) rfl)
 rcases Bool.eq_false_or_eq_true (decide (6 < c.sig)) with a2 | a2
 ·refine gR fun K F => ?_; simp only [go_sem, nZ, a1, a2]; apply F; clear F K
  refine gT (by simp only [go_sem, nZ, a1, a2]) ?_
  refine gS fun K F => ?_; simp only [go_sem, nZ]; apply F; clear F K
  obtain rfl : R = 8 := by rw [← hR]; simp only [a1, a2, gB, cond_true, cond_false]
  exact Wc.ret (Pf.ret [.tmp 4] [.c (.p (pI 8))] rfl rfl (by simp only [resultsD, go_sem, nZ]) rfl)
 refine gR fun K F => ?_; simp only [go_sem, nZ, a1, a2]; apply F; clear F K
 refine gF (by simp only [go_sem, nZ, a1, a2]) ?_
 simp only [a1, a2, gB, cond_true, cond_false] at hR
 refine Wc.seq (Wc.seq ?_)
 rcases Bool.eq_false_or_eq_true ((c.sig == 6) == (w != 0)) with k0 | k0
 ·simp only [k0, gB, cond_true, cond_false] at hR
  refine gR fun K F => ?_; simp only [go_sem, nZ, k0]; apply F; clear F K
  refine gF (by simp only [go_sem, nZ, k0]) ?_
  refine Wc.seq (Wc.seq ?_)
  refine gR fun K F => ?_; simp only [go_sem, nZ]
  refine gP (p134) (by kernel_rfl) (by kernel_rfl) rfl rfl ?_
  simp only [go_sem, nZ]; apply F; clear F K
  refine gS fun K F => ?_; simp only [go_sem, nZ]; apply F; clear F K
  generalize lckA c.lb = L at *
  refine Wc.cond (t := L != 0) (by simp only [go_sem, nZ]) (fun hc => ?_) (fun hc => ?_)
  ·simp only [hc, gB, cond_true, cond_false] at hR
   subst hR
   refine gS fun K F => ?_; simp only [go_sem, nZ]; apply F; clear F K
   exact Wc.ret (Pf.ret [.tmp 4] [.c (.p (pI L))] rfl rfl (by simp only [resultsD, go_sem, nZ]) rfl)
  simp only [hc, gB, cond_true, cond_false] at hR
  refine Wc.skip (Wc.seq ?_)
  rcases Bool.eq_false_or_eq_true (((c.sig == 3) || (c.sig == 5)) && decide (0 < (c.lb.length : Int))) with k1 | k1
  ·simp only [k1, gB, cond_true, cond_false] at hR
   subst hR
   have k2 := k1
   rw [Bool.and_eq_true] at k2
   refine gS fun K F => ?_; simp only [go_sem, nZ]
   refine gP (pf190 c.sig) (by kernel_rfl) (by kernel_rfl) rfl rfl ?_
   simp only [go_sem, nZ, k2.1, k2.2]; apply F; clear F K
   refine gT (by simp only [go_sem, nZ, k2.2]) ?_
   refine gS fun K F => ?_; simp only [go_sem, nZ]; apply F; clear F K
   exact Wc.ret (Pf.ret [.tmp 4] [.c (.p (pI 1))] rfl rfl (by simp only [resultsD, go_sem, nZ]) rfl)
  simp only [k1, gB, cond_true, cond_false] at hR
  have p190 := pf190 c.sig
  refine Wc.seqR (fun y => y.ds = [] ∧ Fs y.e 46 [(2, .v (.c (.ref 0 0))), (35, P' (.bool false))] ∧ OA y.s.nx y.s [] [(0, .cells (c.pd.map .p) false)]) ?_ ?_
  ·cases hu : ((c.sig == 3) || (c.sig == 5)) with
   | false =>
    rw [hu] at p190
    refine gR fun K F => ?_; simp only [go_sem, nZ]
    refine gP (p190) (by kernel_rfl) (by kernel_rfl) rfl rfl ?_
    simp only [go_sem, nZ]; apply F; clear F K
    exact ⟨rfl, by simp only [Fs, nZ, go_sem, nZ], by (try simp only [St.nx_put, St.nx_adv]); repeat (first | exact OA.mono s00_oa (by omega) | refine OA.newB ?_ (by omega) rfl | refine OA.advB ?_)⟩
   | true =>
    rw [hu, Bool.true_and] at k1
    rw [hu] at p190
    refine gR fun K F => ?_; simp only [go_sem, nZ]
    refine gP (p190) (by kernel_rfl) (by kernel_rfl) rfl rfl ?_
    simp only [go_sem, nZ, k1]; apply F; clear F K
    exact ⟨rfl, by simp only [Fs, nZ, go_sem, nZ], by (try simp only [St.nx_put, St.nx_adv]); repeat (first | exact OA.mono s00_oa (by omega) | refine OA.newB ?_ (by omega) rfl | refine OA.advB ?_)⟩
  rintro ⟨e, ds, s1⟩ ⟨rfl, hF, ho⟩
  simp only [Fs] at hF ho
  have g0 := ho.at_ (0, .cells (c.pd.map .p) false) (by simp)
  simp only [List.map_cons, List.map_nil] at g0
  refine gF (by simp only [go_sem, nZ, hF]) ?_
  refine Wc.seq (Wc.seq ?_)
  refine gR fun K F => ?_; simp only [go_sem, nZ, hF, g0]
  refine gP (p191) (by kernel_rfl) (by kernel_rfl) rfl rfl ?_
  simp only [go_sem, nZ, hF]; apply F; clear F K
  refine gS fun K F => ?_; simp only [go_sem, nZ, hF]; apply F; clear F K
  generalize zkG c.z = Z at *
  refine Wc.cond (t := Z != 0) (by simp only [go_sem, nZ, hF]) (fun hc => ?_) (fun hc => ?_)
  ·simp only [hc, gB, cond_true, cond_false] at hR
   subst hR
   refine gS fun K F => ?_; simp only [go_sem, nZ, hF]; apply F; clear F K
   exact Wc.ret (Pf.ret [.tmp 4] [.c (.p (pI Z))] rfl rfl (by simp only [resultsD, go_sem, nZ, hF]) rfl)
  simp only [hc, gB, cond_true, cond_false] at hR
  refine Wc.skip (Wc.seq (Wc.seq ?_))
  refine gR fun K F => ?_; simp only [go_sem, nZ, hF, g0]; apply F; clear F K
  refine Wc.cond (t := decide (262144 < (c.d.length : Int))) (by simp only [go_sem, nZ, hF]) (fun hc => ?_) (fun hc => ?_)
  ·simp only [hc, gB, cond_true, cond_false] at hR
   subst hR
   refine gS fun K F => ?_; simp only [go_sem, nZ, hF]; apply F; clear F K
   exact Wc.ret (Pf.ret [.tmp 4] [.c (.p (pI 4))] rfl rfl (by simp only [resultsD, go_sem, nZ, hF]) rfl)
  simp only [hc, gB, cond_true, cond_false] at hR
  subst hR
  refine Wc.skip (Wc.seq ?_)
  refine gR fun K F => ?_; simp only [go_sem, nZ, hF]; apply F; clear F K
  exact Wc.ret (Pf.ret [.tmp 4] [.c (.p (pI 0))] rfl rfl (by simp only [resultsD, go_sem, nZ, hF]) rfl)
 ·simp only [k0, gB, cond_true, cond_false] at hR
  subst hR
  refine gR fun K F => ?_; simp only [go_sem, nZ, k0]; apply F; clear F K
  refine gT (by simp only [go_sem, nZ, k0]) ?_
  refine gS fun K F => ?_; simp only [go_sem, nZ]; apply F; clear F K
  exact Wc.ret (Pf.ret [.tmp 4] [.c (.p (pI 8))] rfl rfl (by simp only [resultsD, go_sem, nZ]) rfl)
theorem o138 : E0.opn 138 = false := by kernel_rfl
theorem x138 : E0.xt 138 = none := by kernel_rfl
theorem o52 : E0.opn 52 = false := by kernel_rfl
theorem x52 : E0.xt 52 = none := by kernel_rfl
theorem pf119 (a b : Chk) (ha : Cz a) (hb : Cz b) : Pf E0 119 [.agg (a.pd.map .p), .agg (b.pd.map .p)] (P' (pI (cmpC a b))) := by
 have p52 := pf52 a.lb b.lb (by have := ha.lb; omega) (by have := hb.lb; omega)
 have p138 := pf138 a.sig b.sig
 have p104 := pf104 (cmpI a.sig b.sig) (cmpL a.lb b.lb)
 unfold cmpC
 generalize cmpI a.sig b.sig = C at *
 generalize cmpL a.lb b.lb = D at *
 generalize (if C ≠ 0 then C else D) = R at *
 refine Pf.body (fn := Tryz.f119) (by kernel_rfl) rfl ?_; simp only [List.map_cons, List.map_nil, List.cons_append, List.nil_append, List.length_cons, List.length_nil, Tryz.ntmps119, List.replicate, Nat.reduceSub, Nat.reduceAdd]
 refine gS fun K F => ?_; simp only [go_sem, nZ]; apply F; clear F K
 refine Wc.seq ?_
 refine Wc.regT fun K F => ?_
 simp only [go_sem, nZ]
 refine gP (p138) (by kernel_rfl) (by kernel_rfl) rfl rfl ?_
 simp only [go_sem, nZ]
 refine gP (p52) (by kernel_rfl) (by kernel_rfl) rfl rfl ?_
 simp only [go_sem, nZ]
 refine gP (p104) (by kernel_rfl) (by kernel_rfl) rfl rfl ?_
 simp only [go_sem, nZ, o104, x104, o138, x138, o52, x52]
 refine ⟨by rw [trOK_eq3]; rfl, F _ _ ?_⟩
 clear F K
 exact Wc.ret (Pf.ret [.tmp 4] [.c (.p (pI R))] rfl rfl (by simp only [resultsD, go_sem, nZ]) rfl)
set_option maxHeartbeats 8000000
set_option maxRecDepth 10000
theorem Wc.cutR {E : Env} {ro : Option Nat} {c : Code} {x : Fr} {Q : Ex → Fr → Prop} (A : Fr → Prop) (h1 : Wc E ro c x (thenD A Q)) (h2 : ∀ y, A y → Q .normal y) : Wc E ro c x Q :=
 h1.mono fun ex y h => by
  cases ex with
  | normal => exact h2 y h
  | exit i => exact h
  | ret => exact h
theorem fK (l : List Chk) : (l.flatMap Chk.pd).length = l.length * 16 := flat_len (k := 16) (fun _ => rfl) _
theorem rpK {l : List Chk} {i : Nat} {c : Chk} (h : l[i]? = some c) (s : St) : cellsAt s (.v (.c (.rp (l.flatMap Chk.pd) (i * 16)))) = some ((c.pd ++ (l.drop (i + 1)).flatMap Chk.pd).map .p) := by
 have hf := fK l
 have hi := (List.getElem?_eq_some_iff.1 h).1
 exact rpA (off := i * 16) (drop_flat (f := Chk.pd) (k := 16) (fun _ => rfl) h) (by omega) s
def cmpP (q : Option Chk) (c : Chk) : Int := (q.map fun q => cmpC q c).getD (-1)
theorem cksC_step {w : Int} {l : List Chk} {i : Nat} {c : Chk} (h : l[i]? = some c) : cksC w (prevC l i) (l.drop i) = bif ckC c w != 0 then ckC c w else bif decide (0 < i) && decide (0 ≤ cmpP (l[i - 1]?) c) then 9 else cksC w (prevC l (i + 1)) (l.drop (i + 1)) := by
 obtain ⟨h1, h2⟩ := List.getElem?_eq_some_iff.1 h
 have hp : prevC l (i + 1) = some c := by simp [prevC, h]
 rw [List.drop_eq_getElem_cons h1, h2, hp]
 by_cases h0 : i = 0
 ·subst h0
  simp [prevC, cksC]
 ·have hq : prevC l i = some l[i - 1] := by simp [prevC, h0]
  have hq2 : l[i - 1]? = some l[i - 1] := by simp
  rw [hq, hq2, cksC, decide_eq_true (show 0 < i by omega), Bool.true_and]
  rfl
theorem o119 : E0.opn 119 = false := by kernel_rfl
theorem x119 : E0.xt 119 = none := by kernel_rfl
theorem pf63 (b : Blk) (hl : b.cs.length < 2^40) (hz : ∀ c ∈ b.cs, Cz c) : Pf E0 63 [.agg (b.pd.map .p)] (P' (pI (blkC b))) := by
 have hfl := fK b.cs
 generalize hR : blkC b = R
 unfold blkC at hR
 refine Pf.body (fn := Tryz.f63) (by kernel_rfl) rfl ?_; simp only [List.map_cons, List.map_nil, List.cons_append, List.nil_append, List.length_cons, List.length_nil, Tryz.ntmps63, List.replicate, Nat.reduceSub, Nat.reduceAdd]
 refine gS fun K F => ?_; simp only [go_sem, nZ]; apply F; clear F K
 refine Wc.seq (Wc.seq ?_)
 rcases Bool.eq_false_or_eq_true (decide (b.id < 1)) with a1 | a1
 ·refine gR fun K F => ?_; simp only [go_sem, nZ, a1]; apply F; clear F K
  refine gT (by simp only [go_sem, nZ, a1]) ?_
  refine gS fun K F => ?_; simp only [go_sem, nZ]; apply F; clear F K
  obtain rfl : R = 2 := by rw [← hR]; simp only [a1, gB, cond_true, cond_false]
  exact Wc.ret (Pf.ret [.tmp 2] [.c (.p (pI 2))] rfl rfl (by simp only [resultsD, go_sem, nZ]) rfl)
 rcases Bool.eq_false_or_eq_true (decide (1152921504606846976 < b.id)) with a2 | a2
 ·refine gR fun K F => ?_; simp only [go_sem, nZ, a1, a2]; apply F; clear F K
  refine gT (by simp only [go_sem, nZ, a1, a2]) ?_
  refine gS fun K F => ?_; simp only [go_sem, nZ]; apply F; clear F K
  obtain rfl : R = 2 := by rw [← hR]; simp only [a1, a2, gB, cond_true, cond_false]
  exact Wc.ret (Pf.ret [.tmp 2] [.c (.p (pI 2))] rfl rfl (by simp only [resultsD, go_sem, nZ]) rfl)
 refine gR fun K F => ?_; simp only [go_sem, nZ, a1, a2]; apply F; clear F K
 refine gF (by simp only [go_sem, nZ, a1, a2]) ?_
 simp only [a1, a2, gB, cond_true, cond_false] at hR
 refine Wc.seq (Wc.seq ?_)
 rcases Bool.eq_false_or_eq_true (decide (b.w < 0)) with c1 | c1
 ·refine gR fun K F => ?_; simp only [go_sem, nZ, c1]; apply F; clear F K
  refine gT (by simp only [go_sem, nZ, c1]) ?_
  refine gS fun K F => ?_; simp only [go_sem, nZ]; apply F; clear F K
  obtain rfl : R = 2 := by rw [← hR]; simp only [c1, gB, cond_true, cond_false]
  exact Wc.ret (Pf.ret [.tmp 2] [.c (.p (pI 2))] rfl rfl (by simp only [resultsD, go_sem, nZ]) rfl)
 rcases Bool.eq_false_or_eq_true (decide (1099511627776 < b.w)) with c2 | c2
 ·refine gR fun K F => ?_; simp only [go_sem, nZ, c1, c2]; apply F; clear F K
  refine gT (by simp only [go_sem, nZ, c1, c2]) ?_
  refine gS fun K F => ?_; simp only [go_sem, nZ]; apply F; clear F K
  obtain rfl : R = 2 := by rw [← hR]; simp only [c1, c2, gB, cond_true, cond_false]
  exact Wc.ret (Pf.ret [.tmp 2] [.c (.p (pI 2))] rfl rfl (by simp only [resultsD, go_sem, nZ]) rfl)
 refine gR fun K F => ?_; simp only [go_sem, nZ, c1, c2]; apply F; clear F K
 refine gF (by simp only [go_sem, nZ, c1, c2]) ?_
 simp only [c1, c2, gB, cond_true, cond_false] at hR
 refine Wc.seqR (fun y => ((decide (b.fr < 0) || decide (1099511627776 < b.fr)) || ((b.w == 0) && (b.fr != 0))) = false ∧ y.ds = [] ∧ Fs y.e 73 [(1, .v (.c (.ref 0 0)))] ∧ OA y.s.nx y.s [] [(0, .cells (b.pd.map .p) false)]) ?_ ?_
 ·refine Wc.seq ?_
  rcases Bool.eq_false_or_eq_true ((decide (b.fr < 0) || decide (1099511627776 < b.fr)) || ((b.w == 0) && (b.fr != 0))) with k1 | k1
  ·simp only [k1, gB, cond_true, cond_false] at hR
   subst hR
   cases u1 : decide (b.fr < 0) with
   | true =>
    refine gR fun K F => ?_; simp only [go_sem, nZ, u1]; apply F; clear F K
    refine gT (by simp only [go_sem, nZ, u1]) ?_
    refine gS fun K F => ?_; simp only [go_sem, nZ]; apply F; clear F K
    exact Wc.ret (Pf.ret [.tmp 2] [.c (.p (pI 2))] rfl rfl (by simp only [resultsD, go_sem, nZ]) rfl)
   | false =>
   cases u2 : decide (1099511627776 < b.fr) with
   | true =>
    refine gR fun K F => ?_; simp only [go_sem, nZ, u1, u2]; apply F; clear F K
    refine gT (by simp only [go_sem, nZ, u1, u2]) ?_
    refine gS fun K F => ?_; simp only [go_sem, nZ]; apply F; clear F K
    exact Wc.ret (Pf.ret [.tmp 2] [.c (.p (pI 2))] rfl rfl (by simp only [resultsD, go_sem, nZ]) rfl)
   | false =>
   rw [u1, u2, Bool.false_or, Bool.false_or, Bool.and_eq_true] at k1
   refine gR fun K F => ?_; simp only [go_sem, nZ, u1, u2, k1.1, k1.2]; apply F; clear F K
   refine gT (by simp only [go_sem, nZ, u1, u2, k1.1, k1.2]) ?_
   refine gS fun K F => ?_; simp only [go_sem, nZ]; apply F; clear F K
   exact Wc.ret (Pf.ret [.tmp 2] [.c (.p (pI 2))] rfl rfl (by simp only [resultsD, go_sem, nZ]) rfl)
  ·have k2 := k1
   rw [Bool.or_eq_false_iff, Bool.or_eq_false_iff] at k2
   obtain ⟨⟨u1, u2⟩, u3⟩ := k2
   cases u4 : (b.w == 0) with
   | true =>
    rw [u4, Bool.true_and] at u3
    refine gR fun K F => ?_; simp only [go_sem, nZ, u1, u2, u4, u3]; apply F; clear F K
    refine gF (by simp only [go_sem, nZ, u1, u2, u4, u3]) ?_
    exact ⟨by rw [u4] at k1; exact k1, rfl, by simp only [Fs, nZ, go_sem, nZ], by (try simp only [St.nx_put, St.nx_adv]); repeat (first | exact OA.mono s00_oa (by omega) | refine OA.newB ?_ (by omega) rfl | refine OA.advB ?_)⟩
   | false =>
    refine gR fun K F => ?_; simp only [go_sem, nZ, u1, u2, u4]; apply F; clear F K
    refine gF (by simp only [go_sem, nZ, u1, u2, u4]) ?_
    exact ⟨by rw [u4] at k1; exact k1, rfl, by simp only [Fs, nZ, go_sem, nZ], by (try simp only [St.nx_put, St.nx_adv]); repeat (first | exact OA.mono s00_oa (by omega) | refine OA.newB ?_ (by omega) rfl | refine OA.advB ?_)⟩
 rintro ⟨e, ds, s1⟩ ⟨k1, rfl, hF, ho⟩
 simp only [Fs] at hF ho
 simp only [k1, cond_false] at hR
 have g0 := ho.at_ (0, .cells (b.pd.map .p) false) (by simp)
 simp only [List.map_cons, List.map_nil] at g0
 refine Wc.seq (Wc.seq ?_)
 refine gR fun K F => ?_; simp only [go_sem, nZ, hF, g0]; apply F; clear F K
 refine Wc.cond (t := decide (4000 < (b.cs.length : Int))) (by simp only [go_sem, nZ, hF]) (fun hc => ?_) (fun hc => ?_)
 ·simp only [hc, gB, cond_true, cond_false] at hR
  subst hR
  refine gS fun K F => ?_; simp only [go_sem, nZ, hF]; apply F; clear F K
  exact Wc.ret (Pf.ret [.tmp 2] [.c (.p (pI 4))] rfl rfl (by simp only [resultsD, go_sem, nZ, hF]) rfl)
 simp only [hc, gB, cond_true, cond_false] at hR
 have hR0 : cksC b.w (prevC b.cs 0) (b.cs.drop 0) = R := hR
 refine Wc.skip (Wc.seqR (fun y => R = 0 ∧ y.ds = [] ∧ Fs y.e 73 []) ?_ ?_)
 ·refine gS fun K F => ?_; simp only [go_sem, nZ, hF, g0]; apply F; clear F K
  refine Wc.block (Wc.loop (fun k y => ∃ i : Nat, k = b.cs.length - i ∧ (i ≤ b.cs.length ∧ cksC b.w (prevC b.cs i) (b.cs.drop i) = R) ∧ y.ds = [] ∧ Fs y.e 73 [(1, .v (.c (.ref 0 0))), (45, P' (.lst b.cs.length (b.cs.flatMap Chk.pd))), (46, P' (pI b.cs.length)), (47, P' (pI i))] ∧ OA y.s.nx y.s [] [(0, .cells (b.pd.map .p) false)]) ?_ (k := b.cs.length) ⟨0, rfl, ⟨by omega, hR0⟩, rfl, by simp only [Fs, nZ, go_sem, nZ, hF], by (try simp only [St.nx_put, St.nx_adv]); repeat (first | exact OA.mono ho (by omega) | refine OA.newB ?_ (by omega) rfl | refine OA.advB ?_)⟩)
  clear hF ho g0 e s1 hR hR0
  rintro k ⟨e, ds, s1⟩ ⟨i, rfl, ⟨hi, hR⟩, rfl, hF, ho⟩
  simp only [Fs] at hF ho
  refine gS fun K F => ?_; simp only [go_sem, nZ, hF]; apply F; clear F K
  refine Wc.seq ?_
  refine Wc.cond (t := decide ((i : Int) < b.cs.length)) (by simp only [go_sem, nZ, hF]) (fun hc => ?_) (fun hc => ?_)
  ·have hil : i < b.cs.length := by have := of_decide_eq_true hc; omega
   obtain ⟨c, hcc⟩ : ∃ c, b.cs[i]? = some c := ⟨b.cs[i], List.getElem?_eq_getElem hil⟩
   have zc := hz c (List.mem_of_getElem? hcc)
   rw [cksC_step hcc] at hR
   have hix := ixA ti65 rfl ti96 (j := i) (m := b.cs.length) (cs := b.cs.flatMap Chk.pd) hil hfl (by decide)
   have hca := rpK hcc
   have p118 := pf118 c b.w zc
   refine Wc.skip (Wc.seq (Wc.block (Wc.seqA (fun y => ∃ k4, y.ds = [] ∧ Fs y.e 73 [(1, .v (.c (.ref 0 0))), (45, P' (.lst b.cs.length (b.cs.flatMap Chk.pd))), (46, P' (pI b.cs.length)), (47, P' (pI i)), (3, P' (pI i)), (4, .v (.c (.ref k4 0)))] ∧ OA y.s.nx y.s [] [(k4, .cells (c.pd.map .p) false), (0, .cells (b.pd.map .p) false)]) ?_ ?_)))
   ·refine gR fun K F => ?_; simp only [go_sem, nZ, hF, hix, hca]; apply F; clear F K
    exact ⟨rfl, s1.nx + 4, rfl, by simp only [Fs, nZ, go_sem, nZ, hF], by (try simp only [St.put_adv, St.adv_adv, St.put_put, St.nx_put, St.nx_adv]); repeat (first | exact OA.mono ho (by omega) | refine OA.newB ?_ (by omega) rfl | refine OA.putB ?_ (by omega) | refine OA.advB ?_)⟩
   clear hF ho e s1
   rintro ⟨e, ds, s1⟩ ⟨k4, rfl, hF, ho⟩
   simp only [Fs] at hF ho
   have g0 := ho.at_ (0, .cells (b.pd.map .p) false) (by simp)
   have g4 := ho.at_ (k4, .cells (c.pd.map .p) false) (by simp)
   simp only [List.map_cons, List.map_nil] at g0 g4
   refine Wc.seq (Wc.seq ?_)
   refine gR fun K F => ?_; simp only [go_sem, nZ, hF, g0, g4]
   refine gP (p118) (by kernel_rfl) (by kernel_rfl) rfl rfl ?_
   simp only [go_sem, nZ, hF]; apply F; clear F K
   refine gS fun K F => ?_; simp only [go_sem, nZ, hF]; apply F; clear F K
   generalize ckC c b.w = V at *
   refine Wc.cond (t := V != 0) (by simp only [go_sem, nZ, hF]) (fun hc => ?_) (fun hc => ?_)
   ·simp only [hc, gB, cond_true, cond_false] at hR
    subst hR
    refine gS fun K F => ?_; simp only [go_sem, nZ, hF]; apply F; clear F K
    exact Wc.ret (Pf.ret [.tmp 2] [.c (.p (pI V))] rfl rfl (by simp only [resultsD, go_sem, nZ, hF]) rfl)
   simp only [hc, gB, cond_true, cond_false] at hR
   refine Wc.skip ?_
   refine Wc.cutR (fun y => cksC b.w (prevC b.cs (i + 1)) (b.cs.drop (i + 1)) = R ∧ y.ds = [] ∧ Fs y.e 73 [(1, .v (.c (.ref 0 0))), (45, P' (.lst b.cs.length (b.cs.flatMap Chk.pd))), (46, P' (pI b.cs.length)), (47, P' (pI i))] ∧ OA y.s.nx y.s [] [(0, .cells (b.pd.map .p) false)]) ?_ ?_
   ·by_cases h0 : i = 0
    ·have hh : ((0 : Int) < (i : Int)) = False := by simp; omega
     have hd : decide (0 < i) = false := by simp; omega
     simp only [hd, gB, cond_true, cond_false] at hR
     refine Wc.seq ?_
     refine Wc.regT fun K F => ?_
     simp only [go_sem, nZ, hF, hh]
     refine ⟨by rw [trOK_eq3]; rfl, F _ _ ?_⟩
     clear F K
     refine gF (by simp only [go_sem, nZ, hF]) ?_
     exact ⟨hR, rfl, by simp only [Fs, nZ, go_sem, nZ, hF], by (try simp only [St.nx_put, St.nx_adv]); repeat (first | exact OA.mono (ho.sub (List.Sublist.refl _) (List.sublist_cons_self _ _)) (by omega) | refine OA.newB ?_ (by omega) rfl | refine OA.advB ?_)⟩
    ·have hh : ((0 : Int) < (i : Int)) = True := by simp; omega
     have hd : decide (0 < i) = true := by simp; omega
     obtain ⟨q, hq⟩ : ∃ q, b.cs[i - 1]? = some q := ⟨b.cs[i - 1], List.getElem?_eq_getElem (by omega)⟩
     have zq := hz q (List.mem_of_getElem? hq)
     have w1 : IntKind.i64.wrap ((i : Int) - 1) = ((i - 1 : Nat) : Int) := by rw [wi64]; omega
     have hiq := ixA ti65 rfl ti96 (j := i - 1) (m := b.cs.length) (cs := b.cs.flatMap Chk.pd) (by omega) hfl (by decide)
     have hcq := rpK hq
     have p119 := pf119 q c zq zc
     have hcp : cmpP (b.cs[i - 1]?) c = cmpC q c := by rw [hq]; rfl
     rw [hcp] at hR
     generalize cmpC q c = V2 at hR p119
     simp only [hd, gB, cond_true, cond_false] at hR
     refine Wc.seq ?_
     refine Wc.regT fun K F => ?_
     simp only [go_sem, nZ, hF, hh, g0, g4, w1, hiq, hcq]
     refine gP (p119) (by kernel_rfl) (by kernel_rfl) rfl rfl ?_
     simp only [go_sem, nZ, hF, o119, x119]
     refine ⟨by rw [trOK_eq3]; rfl, F _ _ ?_⟩
     clear F K
     refine Wc.cond (t := decide (0 ≤ V2)) (by simp only [go_sem, nZ, hF]) (fun hc => ?_) (fun hc => ?_)
     ·simp only [hc, gB, cond_true, cond_false] at hR
      subst hR
      refine gS fun K F => ?_; simp only [go_sem, nZ, hF]; apply F; clear F K
      exact Wc.ret (Pf.ret [.tmp 2] [.c (.p (pI 9))] rfl rfl (by simp only [resultsD, go_sem, nZ, hF]) rfl)
     simp only [hc, gB, cond_true, cond_false] at hR
     exact Wc.skip ⟨hR, rfl, by simp only [Fs, nZ, go_sem, nZ, hF], by (try simp only [St.nx_put, St.nx_adv]); repeat (first | exact OA.mono (ho.sub (List.Sublist.refl _) (List.sublist_cons_self _ _)) (by omega) | refine OA.newB ?_ (by omega) rfl | refine OA.advB ?_)⟩
   clear hF ho g0 g4 e s1 hR
   rintro ⟨e, ds, s1⟩ ⟨hR, rfl, hF, ho⟩
   simp only [Fs] at hF ho
   refine gR fun K F => ?_; simp only [go_sem, nZ, hF, i64n i (by omega)]; apply F; clear F K
   exact ⟨b.cs.length - (i + 1), by omega, i + 1, rfl, ⟨by omega, hR⟩, rfl, by simp only [Fs, nZ, go_sem, nZ, hF], by (try simp only [St.nx_put, St.nx_adv]); repeat (first | exact OA.mono ho (by omega) | refine OA.newB ?_ (by omega) rfl | refine OA.advB ?_)⟩
  ·have hil : i = b.cs.length := by have := of_decide_eq_false hc; omega
   rw [hil, List.drop_length, cksC] at hR
   exact Wc.exit ⟨hR.symm, rfl, by simp only [Fs, nZ, go_sem, nZ, hF]⟩
 clear hF ho g0 e s1 hR
 rintro ⟨e, ds, s1⟩ ⟨rfl, rfl, hF⟩
 simp only [Fs] at hF
 refine gS fun K F => ?_; simp only [go_sem, nZ, hF]; apply F; clear F K
 exact Wc.ret (Pf.ret [.tmp 2] [.c (.p (pI 0))] rfl rfl (by simp only [resultsD, go_sem, nZ, hF]) rfl)
set_option linter.unusedSimpArgs false
set_option linter.unusedVariables false
structure RSet where
 w : Int
 fr : Int
 rs : List Rlp
abbrev RSet.pd (x : RSet) : List Pd := [pI x.w, pI x.fr, .lst x.rs.length (x.rs.flatMap Rlp.pd)]
theorem fRl (l : List Rlp) : (l.flatMap Rlp.pd).length = l.length * 4 := flat_len (k := 4) (fun _ => rfl) _
theorem rpRl {l : List Rlp} {i : Nat} {c : Rlp} (h : l[i]? = some c) (s : St) : cellsAt s (.v (.c (.rp (l.flatMap Rlp.pd) (i * 4)))) = some ((c.pd ++ (l.drop (i + 1)).flatMap Rlp.pd).map .p) := by
 have hf := fRl l
 have hi := (List.getElem?_eq_some_iff.1 h).1
 exact rpA (off := i * 4) (drop_flat (f := Rlp.pd) (k := 4) (fun _ => rfl) h) (by omega) s
def ixGr : Nat → List Rlp → Int
 | _, [] => -1
 | i, r :: t => if grR r then (i : Int) else ixGr (i + 1) t
theorem ixGr_any : ∀ (l : List Rlp) (i : Nat), decide (0 ≤ ixGr i l) = l.any grR
 | [], i => rfl
 | r :: t, i => by
  rw [ixGr, List.any_cons]
  cases h : grR r with
  | true => simp
  | false => rw [if_neg (by decide), ixGr_any t, Bool.false_or]
theorem ixGr_step {l : List Rlp} {i : Nat} {r : Rlp} (h : l[i]? = some r) : ixGr i (l.drop i) = if grR r then (i : Int) else ixGr (i + 1) (l.drop (i + 1)) := by
 obtain ⟨h1, h2⟩ := List.getElem?_eq_some_iff.1 h
 rw [List.drop_eq_getElem_cons h1, h2, ixGr]
theorem pf127 (l : List Rlp) (hl : l.length < 2^60) (hb : ∀ r ∈ l, r.lb.length < 2^60) : Pf E0 127 [.c (.p (.lst l.length (l.flatMap Rlp.pd))), .c (.p (.fnc 20))] (P' (pI (ixGr 0 l))) := by
 have hfl := fRl l
 have hR0 : ixGr 0 (l.drop 0) = ixGr 0 l := rfl
 generalize ixGr 0 l = R at hR0 ⊢
 refine Pf.body (fn := Tryz.f127) (by kernel_rfl) rfl ?_; simp only [List.map_cons, List.map_nil, List.cons_append, List.nil_append, List.length_cons, List.length_nil, Tryz.ntmps127, List.replicate, Nat.reduceSub, Nat.reduceAdd]
 refine gS fun K F => ?_; simp only [go_sem, nZ]; apply F; clear F K
 refine Wc.seqR (fun y => R = -1 ∧ y.ds = [] ∧ Fs y.e 19 []) ?_ ?_
 ·refine gS fun K F => ?_; simp only [go_sem, nZ]; apply F; clear F K
  refine Wc.block (Wc.loop (fun k y => ∃ i : Nat, k = l.length - i ∧ (i ≤ l.length ∧ ixGr i (l.drop i) = R) ∧ y.ds = [] ∧ Fs y.e 19 [(0, P' (.lst l.length (l.flatMap Rlp.pd))), (1, P' (.fnc 20)), (7, P' (pI l.length)), (8, P' (pI i))] ∧ OA y.s.nx y.s [] []) ?_ (k := l.length) ⟨0, rfl, ⟨by omega, hR0⟩, rfl, by simp only [Fs, nZ, go_sem, nZ], by (try simp only [St.nx_put, St.nx_adv]); repeat (first | exact OA.mono s00_oa (by omega) | refine OA.newB ?_ (by omega) rfl | refine OA.advB ?_)⟩)
  rintro k ⟨e, ds, s1⟩ ⟨i, rfl, ⟨hi, hR⟩, rfl, hF, ho⟩
  simp only [Fs] at hF ho
  refine gS fun K F => ?_; simp only [go_sem, nZ, hF]; apply F; clear F K
  refine Wc.seq ?_
  refine Wc.cond (t := decide ((i : Int) < l.length)) (by simp only [go_sem, nZ, hF]) (fun hc => ?_) (fun hc => ?_)
  ·have hil : i < l.length := by have := of_decide_eq_true hc; omega
   obtain ⟨c, hcc⟩ : ∃ c, l[i]? = some c := ⟨l[i], List.getElem?_eq_getElem hil⟩
   rw [ixGr_step hcc] at hR
   have hix := ixA ti60 rfl ti31 (j := i) (m := l.length) (cs := l.flatMap Rlp.pd) hil hfl (by decide)
   have hca := rpRl hcc
   have p20 := pf20 c (hb c (List.mem_of_getElem? hcc))
   refine Wc.skip (Wc.seq (Wc.block (Wc.seq ?_)))
   refine gR fun K F => ?_; simp only [go_sem, nZ, hF]; apply F; clear F K
   refine gS fun K F => ?_; simp only [go_sem, nZ, hF, hix, hca]
   refine gP (p20) (by kernel_rfl) (by kernel_rfl) rfl rfl ?_
   simp only [go_sem, nZ, hF]; apply F; clear F K
   refine Wc.cond (t := grR c) (by simp only [go_sem, nZ, hF]) (fun hc => ?_) (fun hc => ?_)
   ·rw [if_pos hc] at hR
    subst hR
    refine gS fun K F => ?_; simp only [go_sem, nZ, hF]; apply F; clear F K
    exact Wc.ret (Pf.ret [.tmp 4] [.c (.p (pI i))] rfl rfl (by simp only [resultsD, go_sem, nZ, hF]) rfl)
   rw [if_neg (by simp [hc])] at hR
   refine Wc.skip ?_
   refine gR fun K F => ?_; simp only [go_sem, nZ, hF, i64n i (by omega)]; apply F; clear F K
   exact ⟨l.length - (i + 1), by omega, i + 1, rfl, ⟨by omega, hR⟩, rfl, by simp only [Fs, nZ, go_sem, nZ, hF], by (try simp only [St.nx_put, St.nx_adv]); repeat (first | exact OA.mono ho (by omega) | refine OA.newB ?_ (by omega) rfl | refine OA.advB ?_)⟩
  ·have hil : i = l.length := by have := of_decide_eq_false hc; omega
   rw [hil, List.drop_length, ixGr] at hR
   exact Wc.exit ⟨hR.symm, rfl, by simp only [Fs, nZ, go_sem, nZ, hF]⟩
 rintro ⟨e, ds, s1⟩ ⟨rfl, rfl, hF⟩
 simp only [Fs] at hF
 refine gS fun K F => ?_; simp only [go_sem, nZ, hF]; apply F; clear F K
 exact Wc.ret (Pf.ret [.tmp 4] [.c (.p (pI (-1)))] rfl rfl (by simp only [resultsD, go_sem, nZ, hF]) rfl)
theorem pf68 (l : List Rlp) (hl : l.length < 2^60) (hb : ∀ r ∈ l, r.lb.length < 2^60) : Pf E0 68 [.c (.p (.lst l.length (l.flatMap Rlp.pd))), .c (.p (.fnc 20))] (P' (.bool (l.any grR))) := by
 have h := ixGr_any l 0
 have p127 := pf127 l hl hb
 generalize ixGr 0 l = R at *
 generalize l.any grR = B at *
 subst h
 refine Pf.body (fn := Tryz.f68) (by kernel_rfl) rfl ?_; simp only [List.map_cons, List.map_nil, List.cons_append, List.nil_append, List.length_cons, List.length_nil, Tryz.ntmps68, List.replicate, Nat.reduceSub, Nat.reduceAdd]
 refine gS fun K F => ?_; simp only [go_sem, nZ]; apply F; clear F K
 refine gS fun K F => ?_; simp only [go_sem, nZ]
 refine gP (p127) (by kernel_rfl) (by kernel_rfl) rfl rfl ?_
 simp only [go_sem, nZ]; apply F; clear F K
 exact Wc.ret (Pf.ret [.tmp 4] [.c (.p (.bool (decide (0 ≤ R))))] rfl rfl (by simp only [resultsD, go_sem, nZ]) rfl)
def grT (x : RSet) : Bool := decide (8 < (x.rs.length : Int)) || x.rs.any grR
theorem pf35 (x : RSet) (hl : x.rs.length < 2^60) (hb : ∀ r ∈ x.rs, r.lb.length < 2^60) : Pf E0 35 [.agg (x.pd.map .p)] (P' (.bool (grT x))) := by
 have p68 := pf68 x.rs hl hb
 unfold grT
 generalize x.rs.any grR = B at *
 refine Pf.body (fn := Tryz.f35) (by kernel_rfl) rfl ?_; simp only [List.map_cons, List.map_nil, List.cons_append, List.nil_append, List.length_cons, List.length_nil, Tryz.ntmps35, List.replicate, Nat.reduceSub, Nat.reduceAdd]
 refine gS fun K F => ?_; simp only [go_sem, nZ]; apply F; clear F K
 refine Wc.seq ?_
 cases h : decide (8 < (x.rs.length : Int)) with
 | true =>
  refine gR fun K F => ?_; simp only [go_sem, nZ, h]; apply F; clear F K
  exact Wc.ret (Pf.ret [.tmp 2] [.c (.p (.bool true))] rfl rfl (by simp only [resultsD, go_sem, nZ]) rfl)
 | false =>
  refine gR fun K F => ?_; simp only [go_sem, nZ, h]
  refine gP (p68) (by kernel_rfl) (by kernel_rfl) rfl rfl ?_
  simp only [go_sem, nZ]; apply F; clear F K
  rw [Bool.false_or]
  exact Wc.ret (Pf.ret [.tmp 2] [.c (.p (.bool B))] rfl rfl (by simp only [resultsD, go_sem, nZ]) rfl)
theorem grT_z {x : RSet} (h : grT x = false) : x.rs.length ≤ 8 ∧ ∀ r ∈ x.rs, Rz r := by
 unfold grT at h
 rw [Bool.or_eq_false_iff, List.any_eq_false, decide_eq_false_iff_not] at h
 exact ⟨by omega, fun r hr => grR_z (by have := h.2 r hr; simpa using this)⟩
theorem pf33 (x : RSet) (hl : x.rs.length < 2^40) (hz : ∀ r ∈ x.rs, Rz r) : Pf E0 33 [.agg (x.pd.map .p), .agg (x.pd.map .p)] (P' (.bool true)) := by
 have hfl := fRl x.rs
 refine Pf.body (fn := Tryz.f33) (by kernel_rfl) rfl ?_; simp only [List.map_cons, List.map_nil, List.cons_append, List.nil_append, List.length_cons, List.length_nil, Tryz.ntmps33, List.replicate, Nat.reduceSub, Nat.reduceAdd]
 refine gS fun K F => ?_; simp only [go_sem, nZ]; apply F; clear F K
 refine Wc.seq (Wc.seq ?_)
 refine gR fun K F => ?_; simp only [go_sem, nZ, bne_self_eq_false]; apply F; clear F K
 refine gF (by simp only [go_sem, nZ]) ?_
 refine Wc.seqR (fun y => y.ds = [] ∧ Fs y.e 46 []) ?_ ?_
 ·refine gS fun K F => ?_; simp only [go_sem, nZ]; apply F; clear F K
  refine Wc.block (Wc.loop (fun c y => ∃ i : Nat, c = x.rs.length - i ∧ i ≤ x.rs.length ∧ y.ds = [] ∧ Fs y.e 46 [(2, .v (.c (.ref 0 0))), (3, .v (.c (.ref 1 0))), (5, P' (pI i))] ∧ OA y.s.nx y.s [] [(1, .cells (x.pd.map .p) false), (0, .cells (x.pd.map .p) false)]) ?_ (k := x.rs.length) ⟨0, rfl, by omega, rfl, by simp only [Fs, nZ, go_sem, nZ], by (try simp only [St.put_adv, St.adv_adv, St.put_put, St.nx_put, St.nx_adv]); repeat (first | exact OA.mono s00_oa (by omega) | refine OA.newB ?_ (by omega) rfl | refine OA.putB ?_ (by omega) | refine OA.advB ?_)⟩)
  rintro c ⟨e, ds, s1⟩ ⟨i, rfl, hi, rfl, hF, ho⟩
  simp only [Fs] at hF ho
  have g0 := ho.at_ (0, .cells (x.pd.map .p) false) (by simp)
  have g1 := ho.at_ (1, .cells (x.pd.map .p) false) (by simp)
  simp only [List.map_cons, List.map_nil] at g0 g1
  refine Wc.seq (Wc.seq ?_)
  refine gR fun K F => ?_; simp only [go_sem, nZ, hF, g0]; apply F; clear F K
  refine Wc.cond (t := decide ((i : Int) < x.rs.length)) (by simp only [go_sem, nZ, hF]) (fun hc => ?_) (fun hc => ?_)
  ·have hil : i < x.rs.length := by have := of_decide_eq_true hc; omega
   obtain ⟨b, hb⟩ : ∃ b, x.rs[i]? = some b := ⟨x.rs[i], List.getElem?_eq_getElem hil⟩
   have hix := ixA ti60 rfl ti31 (j := i) (m := x.rs.length) (cs := x.rs.flatMap Rlp.pd) hil hfl (by decide)
   have hca := rpRl hb
   have p17 := (hz b (List.mem_of_getElem? hb)).same
   refine Wc.skip (Wc.seq (Wc.block (Wc.seq ?_)))
   refine Wc.regT fun K F => ?_
   simp only [go_sem, nZ, hF, g0, g1, hix, hca]
   refine gP (p17) (by kernel_rfl) (by kernel_rfl) rfl rfl ?_
   simp only [go_sem, nZ, hF, o17, x17]
   refine ⟨by rw [trOK_eq3]; rfl, F _ _ ?_⟩
   clear F K
   refine gX (by simp only [go_sem, nZ, hF]) ?_
   refine Wc.skip ?_
   refine gR fun K F => ?_; simp only [go_sem, nZ, hF, i64n i (by omega)]; apply F; clear F K
   exact ⟨x.rs.length - (i + 1), by omega, i + 1, rfl, by omega, rfl, by simp only [Fs, nZ, go_sem, nZ, hF], by (try simp only [St.put_adv, St.adv_adv, St.put_put, St.nx_put, St.nx_adv]); repeat (first | exact OA.mono ho (by omega) | refine OA.newB ?_ (by omega) rfl | refine OA.putB ?_ (by omega) | refine OA.advB ?_)⟩
  ·exact Wc.exit ⟨rfl, by simp only [Fs, nZ, go_sem, nZ, hF]⟩
 rintro ⟨e, ds, s1⟩ ⟨rfl, hF⟩
 simp only [Fs] at hF
 refine gS fun K F => ?_; simp only [go_sem, nZ, hF]; apply F; clear F K
 exact Wc.ret (Pf.ret [.tmp 4] [.c (.p (.bool true))] rfl rfl (by simp only [resultsD, go_sem, nZ, hF]) rfl)
end Go.Proofs.YtedcnhbblgmdnaaGreat.Ab
