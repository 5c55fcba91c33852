/- A part of the proof. -/
import Derived.Test.YtedcnhbblgmdnaaGreatT31
namespace Go.Proofs.YtedcnhbblgmdnaaGreat.Ab
set_option maxHeartbeats 8000000
set_option maxRecDepth 10000
set_option linter.unusedSimpArgs false
set_option linter.unusedVariables false
def erR (B : Bool) (d : D) : Prop := ∃ er : Int, d = P' (pI er) ∧ (er = 0 ↔ B = true)
theorem o96 : E0.opn 96 = false := by kernel_rfl
theorem x96 : E0.xt 96 = none := by kernel_rfl
theorem pf64 (x : RSet) (hl : x.rs.length < 2^40) (hz : ∀ r ∈ x.rs, Rz r) : ∃ d, Pf E0 64 [.agg (x.pd.map .p)] d ∧ erR (setOK x) d := by
 refine Pf.bodyE (fn := Tryz.f64) (by kernel_rfl) rfl ?_; simp only [List.map_cons, List.map_nil, List.cons_append, List.nil_append, List.length_cons, List.length_nil, Tryz.ntmps64, List.replicate, Nat.reduceSub, Nat.reduceAdd]
 have hfl := fRl x.rs
 generalize hR : setOK x = R
 have hS : setOK x = (btw x.w 1 1099511627776 && (btw x.fr 0 1099511627776 && rsOK x.w none x.rs)) := by
  have e1 := wthn_or x.w 1 1099511627776
  have e2 := wthn_or x.fr 0 1099511627776
  unfold setOK
  rw [← Bool.or_assoc, e1, e2, Bool.not_or, Bool.not_not, Bool.not_not, Bool.and_assoc]
  rfl
 rw [hS] at hR
 have q1 := pf45 x.w 1 1099511627776
 have q2 := pf45 x.fr 0 1099511627776
 generalize btw x.w 1 1099511627776 = w1 at *
 generalize btw x.fr 0 1099511627776 = w2 at *
 clear hS
 refine gS fun K F => ?_; simp only [go_sem, nZ]; apply F; clear F K
 refine Wc.seq (Wc.seq ?_)
 cases w1 with
 | false =>
  rw [Bool.false_and] at hR
  subst hR
  refine gR fun K F => ?_; simp only [go_sem, nZ]
  refine gP (q1) (by kernel_rfl) (by kernel_rfl) rfl rfl ?_
  simp only [go_sem, nZ]; apply F; clear F K
  refine gT (by simp only [go_sem, nZ]) ?_
  refine gS fun K F => ?_; simp only [go_sem, nZ]; apply F; clear F K
  exact Wc.ret (Pf.retE [.tmp 2] [.c (.p (pI 2))] rfl rfl (by simp only [resultsD, go_sem, nZ]) rfl ⟨2, rfl, by simp⟩)
 | true =>
 cases w2 with
 | false =>
  rw [Bool.true_and, Bool.false_and] at hR
  subst hR
  refine gR fun K F => ?_; simp only [go_sem, nZ]
  refine gP (q1) (by kernel_rfl) (by kernel_rfl) rfl rfl ?_
  simp only [go_sem, nZ]
  refine gP (q2) (by kernel_rfl) (by kernel_rfl) rfl rfl ?_
  simp only [go_sem, nZ]; apply F; clear F K
  refine gT (by simp only [go_sem, nZ]) ?_
  refine gS fun K F => ?_; simp only [go_sem, nZ]; apply F; clear F K
  exact Wc.ret (Pf.retE [.tmp 2] [.c (.p (pI 2))] rfl rfl (by simp only [resultsD, go_sem, nZ]) rfl ⟨2, rfl, by simp⟩)
 | true =>
 rw [Bool.true_and, Bool.true_and] at hR
 refine gR fun K F => ?_; simp only [go_sem, nZ]
 refine gP (q1) (by kernel_rfl) (by kernel_rfl) rfl rfl ?_
 simp only [go_sem, nZ]
 refine gP (q2) (by kernel_rfl) (by kernel_rfl) rfl rfl ?_
 simp only [go_sem, nZ]; apply F; clear F K
 refine gF (by simp only [go_sem, nZ]) ?_
 have hR0 : rsOK x.w (prevR x.rs 0) (x.rs.drop 0) = R := hR
 refine Wc.seqR (fun y => R = true ∧ y.ds = [] ∧ Fs y.e 58 []) ?_ ?_
 ·refine gS fun K F => ?_; simp only [go_sem, nZ]; apply F; clear F K
  refine Wc.block (Wc.loop (fun k y => ∃ i : Nat, k = x.rs.length - i ∧ (i ≤ x.rs.length ∧ rsOK x.w (prevR x.rs i) (x.rs.drop i) = R) ∧ y.ds = [] ∧ Fs y.e 58 [(1, .v (.c (.ref 0 0))), (3, P' (pI i))] ∧ OA y.s.nx y.s [] [(0, .cells (x.pd.map .p) false)]) ?_ (k := x.rs.length) ⟨0, rfl, ⟨by omega, hR0⟩, rfl, by simp only [Fs, nZ, go_sem, nZ], by (try simp only [St.nx_put, St.nx_adv]); repeat (first | exact OA.mono s00_oa (by omega) | refine OA.newB ?_ (by omega) rfl | refine OA.advB ?_)⟩)
  clear hR hR0
  rintro k ⟨e, ds, s1⟩ ⟨i, rfl, ⟨hi, hR⟩, rfl, hF, ho⟩
  simp only [Fs] at hF ho
  have g0 := ho.at_ (0, .cells (x.pd.map .p) false) (by simp)
  simp only [List.map_cons, List.map_nil] at g0
  refine Wc.seq (Wc.seq ?_)
  refine gR fun K F => ?_; simp only [go_sem, nZ, hF, g0]; apply F; clear F K
  refine Wc.cond (t := decide ((i : Int) < x.rs.length)) (by simp only [go_sem, nZ, hF]) (fun hc => ?_) (fun hc => ?_)
  ·have hil : i < x.rs.length := by have := of_decide_eq_true hc; omega
   obtain ⟨c, hcc⟩ : ∃ c, x.rs[i]? = some c := ⟨x.rs[i], List.getElem?_eq_getElem hil⟩
   have zc := hz c (List.mem_of_getElem? hcc)
   rw [rsOK_step hcc] at hR
   have hix := ixA ti60 rfl ti31 (j := i) (m := x.rs.length) (cs := x.rs.flatMap Rlp.pd) hil hfl (by decide)
   have hca := rpRl hcc
   have hc2 : ∀ s, cellsAt s (.v (.c (.rp (x.rs.flatMap Rlp.pd) (i * 4 + 2)))) = _ := rpA (off := i * 4 + 2) (pre := [pI c.w, .lst c.bs.length (c.bs.flatMap Bkt.pd)]) (rest := (x.rs.drop (i + 1)).flatMap Rlp.pd) (by rw [← List.drop_drop, drop_flat (f := Rlp.pd) (k := 4) (fun _ => rfl) hcc]; rfl) (by rw [hfl]; omega)
   have p23 := pf23 c zc.lb zc.ls
   unfold chkR at p23
   refine Wc.skip (Wc.seq (Wc.block (Wc.seq (Wc.seq ?_))))
   cases hok : rlpOK c with
   | false =>
    rw [hok, Bool.and_false, Bool.false_and] at hR
    subst hR
    rw [hok, if_neg (by decide)] at p23
    refine Wc.regT fun K F => ?_; simp only [go_sem, nZ, hF, g0, hix, hca]
    refine gP (p23) (by kernel_rfl) (by kernel_rfl) rfl rfl ?_
    simp only [go_sem, nZ, hF, o23, x23, b10]; refine ⟨by rw [trOK_eq3]; rfl, F _ _ ?_⟩; clear F K
    refine gT (by simp only [go_sem, nZ, hF, b10]) ?_
    refine gS fun K F => ?_; simp only [go_sem, nZ, hF]; apply F; clear F K
    exact Wc.ret (Pf.retE [.tmp 2] [.c (.p (pI 1))] rfl rfl (by simp only [resultsD, go_sem, nZ, hF]) rfl ⟨1, rfl, by simp⟩)
   | true =>
   rw [hok, Bool.and_true] at hR
   rw [hok, if_pos rfl] at p23
   rcases Bool.eq_false_or_eq_true (c.w != x.w) with k1 | k1
   ·have k2 : (c.w == x.w) = false := by simpa using k1
    rw [k2, Bool.false_and] at hR
    subst hR
    refine Wc.regT fun K F => ?_; simp only [go_sem, nZ, hF, g0, hix, hca, hc2]
    refine gP (p23) (by kernel_rfl) (by kernel_rfl) rfl rfl ?_
    simp only [go_sem, nZ, hF, o23, x23, b00, g0, hix, hc2, k1]; refine ⟨by rw [trOK_eq3]; rfl, F _ _ ?_⟩; clear F K
    refine gT (by simp only [go_sem, nZ, hF, b00, k1]) ?_
    refine gS fun K F => ?_; simp only [go_sem, nZ, hF]; apply F; clear F K
    exact Wc.ret (Pf.retE [.tmp 2] [.c (.p (pI 1))] rfl rfl (by simp only [resultsD, go_sem, nZ, hF]) rfl ⟨1, rfl, by simp⟩)
   have k2 : (c.w == x.w) = true := by simpa using k1
   rw [k2, Bool.true_and] at hR
   refine Wc.regT fun K F => ?_; simp only [go_sem, nZ, hF, g0, hix, hca, hc2]
   refine gP (p23) (by kernel_rfl) (by kernel_rfl) rfl rfl ?_
   simp only [go_sem, nZ, hF, o23, x23, b00, g0, hix, hc2, k1]; refine ⟨by rw [trOK_eq3]; rfl, F _ _ ?_⟩; clear F K
   refine gF (by simp only [go_sem, nZ, hF, b00, k1]) ?_
   refine Wc.cutR (fun y => rsOK x.w (prevR x.rs (i + 1)) (x.rs.drop (i + 1)) = R ∧ y.ds = [] ∧ Fs y.e 58 [(1, .v (.c (.ref 0 0))), (3, P' (pI i))] ∧ OA y.s.nx y.s [] [(0, .cells (x.pd.map .p) false)]) ?_ ?_
   ·by_cases h0 : i = 0
    ·have hh : ((0 : Int) < (i : Int)) = False := by simp; omega
     have hd : decide (0 < i) = false := by simp; omega
     simp only [hd, gB, cond_true, cond_false] at hR
     refine Wc.seq ?_
     refine Wc.regT fun K F => ?_; simp only [go_sem, nZ, hF, hh]; refine ⟨by rw [trOK_eq3]; rfl, F _ _ ?_⟩; clear F K
     refine gF (by simp only [go_sem, nZ, hF]) ?_
     exact ⟨hR, rfl, by simp only [Fs, nZ, go_sem, nZ, hF], by (try simp only [St.nx_put, St.nx_adv]); repeat (first | exact OA.mono ho (by omega) | refine OA.newB ?_ (by omega) rfl | refine OA.advB ?_)⟩
    ·have hh : ((0 : Int) < (i : Int)) = True := by simp; omega
     have hd : decide (0 < i) = true := by simp; omega
     obtain ⟨q, hq⟩ : ∃ q, x.rs[i - 1]? = some q := ⟨x.rs[i - 1], List.getElem?_eq_getElem (by omega)⟩
     have zq := hz q (List.mem_of_getElem? hq)
     have w1 : IntKind.i64.wrap ((i : Int) - 1) = ((i - 1 : Nat) : Int) := by rw [wi64]; omega
     have hiq := ixA ti60 rfl ti31 (j := i - 1) (m := x.rs.length) (cs := x.rs.flatMap Rlp.pd) (by omega) hfl (by decide)
     have hcq := rpRl hq
     have p96 := pf96g q.lb c.lb (by have := zq.lb; omega) (by have := zc.lb; omega)
     have hcp : cmpQ (x.rs[i - 1]?) c = cmpL q.lb c.lb := by rw [hq]; rfl
     rw [hcp] at hR
     generalize cmpL q.lb c.lb = V2 at hR p96
     simp only [hd, gB, cond_true, cond_false] at hR
     refine Wc.seq ?_
     refine Wc.regT fun K F => ?_; simp only [go_sem, nZ, hF, hh, g0, w1, hiq, hcq, hix, hca]
     refine gP (p96) (by kernel_rfl) (by kernel_rfl) rfl rfl ?_
     simp only [go_sem, nZ, hF, o96, x96]; refine ⟨by rw [trOK_eq3]; rfl, F _ _ ?_⟩; clear F K
     refine Wc.cond (t := decide (0 ≤ V2)) (by simp only [go_sem, nZ, hF]) (fun hc => ?_) (fun hc => ?_)
     ·simp only [hc, gB, cond_true, cond_false] at hR
      subst hR
      refine gS fun K F => ?_; simp only [go_sem, nZ, hF]; apply F; clear F K
      exact Wc.ret (Pf.retE [.tmp 2] [.c (.p (pI 9))] rfl rfl (by simp only [resultsD, go_sem, nZ, hF]) rfl ⟨9, rfl, by simp⟩)
     simp only [hc, gB, cond_true, cond_false] at hR
     exact Wc.skip ⟨hR, rfl, by simp only [Fs, nZ, go_sem, nZ, hF], by (try simp only [St.nx_put, St.nx_adv]); repeat (first | exact OA.mono ho (by omega) | refine OA.newB ?_ (by omega) rfl | refine OA.advB ?_)⟩
   clear hF ho g0 e s1 hR
   rintro ⟨e, ds, s1⟩ ⟨hR, rfl, hF, ho⟩
   simp only [Fs] at hF ho
   refine gR fun K F => ?_; simp only [go_sem, nZ, hF, i64n i (by omega)]; apply F; clear F K
   exact ⟨x.rs.length - (i + 1), by omega, i + 1, rfl, ⟨by omega, hR⟩, rfl, by simp only [Fs, nZ, go_sem, nZ, hF], by (try simp only [St.nx_put, St.nx_adv]); repeat (first | exact OA.mono ho (by omega) | refine OA.newB ?_ (by omega) rfl | refine OA.advB ?_)⟩
  ·have hil : i = x.rs.length := by have := of_decide_eq_false hc; omega
   rw [hil, List.drop_length, rsOK] at hR
   exact Wc.exit ⟨hR.symm, rfl, by simp only [Fs, nZ, go_sem, nZ, hF]⟩
 rintro ⟨e, ds, s1⟩ ⟨rfl, rfl, hF⟩
 simp only [Fs] at hF
 refine gS fun K F => ?_; simp only [go_sem, nZ, hF]; apply F; clear F K
 exact Wc.ret (Pf.retE [.tmp 2] [.c (.p (pI 0))] rfl rfl (by simp only [resultsD, go_sem, nZ, hF]) rfl ⟨0, rfl, by simp⟩)
/-! ### which objects are apart may be told by names for them -/
def trM (f : Nat → Nat) (x : Tr) : Tr := { x with key := (x.key.1.map f, x.key.2.map f) }
theorem apartK_map (f : Nat → Nat) {x y : Option Nat} (h : apartK (x.map f) (y.map f) = true) : apartK x y = true := by
 cases x with
 | none => rfl
 | some a =>
  cases y with
  | none => rfl
  | some b =>
   simp only [Option.map_some, apartK, bne_iff_ne] at h ⊢
   exact fun e => h (congrArg f e)
theorem freeOK_map (f : Nat → Nat) {x y : Tr} (h : freeOK (trM f x) (trM f y) = true) : freeOK x y = true := by
 unfold freeOK at h ⊢
 simp only [Bool.or_eq_true, Bool.and_eq_true] at h ⊢
 rcases h with h | ⟨h, hk⟩
 ·exact .inl h
 ·refine .inr ⟨h, ?_⟩
  unfold keysOK at hk ⊢
  simp only [Bool.and_eq_true] at hk ⊢
  exact ⟨apartK_map f hk.1, apartK_map f hk.2.1, apartK_map f hk.2.2⟩
theorem trOK_map (f : Nat → Nat) {ops : Array Oper} : ∀ {t : List Tr}, trOK ops (t.map (trM f)) = true → trOK ops t = true
 | [], _ => rfl
 | x :: r, h => by
  rw [List.map_cons, trOK, Bool.and_eq_true] at h
  rw [trOK, Bool.and_eq_true]
  refine ⟨?_, trOK_map f h.2⟩
  have h1 := h.1
  rw [List.all_eq_true] at h1 ⊢
  intro y hy
  have := h1 (trM f y) (List.mem_map_of_mem hy)
  unfold pairOK at this ⊢
  rw [Bool.or_eq_true] at this ⊢
  exact this.imp (freeOK_map f) id
def en (xs : List C) (ws : List (List Int)) : List (Nat × D × Nat × List Pd) := List.zipWith (fun c w => (1, .v (.c c), w.length, w.map pI)) xs ws
theorem en_at {xs : List C} {ws : List (List Int)} {k : Nat} {c : C} {w : List Int} (hx : xs[k]? = some c) (hw : ws[k]? = some w) : en xs ws = en (xs.take k) (ws.take k) ++ (1, .v (.c c), w.length, w.map pI) :: en (xs.drop (k + 1)) (ws.drop (k + 1)) := by
 obtain ⟨h1, h2⟩ := List.getElem?_eq_some_iff.1 hx
 obtain ⟨h3, h4⟩ := List.getElem?_eq_some_iff.1 hw
 have e1 : xs = xs.take k ++ c :: xs.drop (k + 1) := by rw [← h2, ← List.drop_eq_getElem_cons h1, List.take_append_drop]
 have e2 : ws = ws.take k ++ w :: ws.drop (k + 1) := by rw [← h4, ← List.drop_eq_getElem_cons h3, List.take_append_drop]
 conv => lhs; rw [e1, e2]
 unfold en
 rw [List.zipWith_append (by simp; omega), List.zipWith_cons_cons]
theorem en_set {xs : List C} {ws : List (List Int)} {k : Nat} {c : C} {w : List Int} (hx : k < xs.length) (hw : k < ws.length) : en (xs.set k c) (ws.set k w) = en (xs.take k) (ws.take k) ++ (1, .v (.c c), w.length, w.map pI) :: en (xs.drop (k + 1)) (ws.drop (k + 1)) := by
 rw [en_at (k := k) (c := c) (w := w) (by simp [hx]) (by simp [hw]), List.take_set_of_le (Nat.le_refl _), List.take_set_of_le (Nat.le_refl _), List.drop_set_of_lt (by omega), List.drop_set_of_lt (by omega)]
theorem OA.appK {b key k : Nat} {s : St} {A : List (Nat × D × Nat × List Pd)} {M : List (Nat × Ob)} {xs : List C} {ws : List (List Int)} {c : C} {w : List Int} {v : Int} {y : D} {K : D → St → Prop} (h : OA b s (A ++ en xs ws) M) (hx : xs[k]? = some c) (hw : ws[k]? = some w) (hkey : b ≤ key) (hl : w.length < 2^40) (hy : srcD E0 175 s y = some (1, [pI v]))
  (hk : ∀ c' s', OA (key + 1) s' (A ++ en (xs.set k c') (ws.set k (w ++ [v]))) M → s'.nx = s.nx → K (.v (.c c')) s') : stepK (appendD E0 key [175, 175] (.v (.c c)) y s) K := by
 have h1 := (List.getElem?_eq_some_iff.1 hx).1
 have h2 := (List.getElem?_eq_some_iff.1 hw).1
 rw [en_at hx hw, ← List.append_assoc] at h
 refine OA.app1 (L1 := A ++ en (xs.take k) (ws.take k)) (L2 := en (xs.drop (k + 1)) (ws.drop (k + 1))) (W := w) (v := v) h hkey hl hy fun c' s' hs hnx => hk c' s' ?_ hnx
 rw [en_set h1 h2, ← List.append_assoc]
 exact hs
theorem OA.purK {b k : Nat} {s : St} {A : List (Nat × D × Nat × List Pd)} {M : List (Nat × Ob)} {xs : List C} {ws : List (List Int)} {c : C} {w : List Int} (h : OA b s (A ++ en xs ws) M) (hx : xs[k]? = some c) (hw : ws[k]? = some w) : purS c = some (.lst w.length (w.map pI)) := by
 rw [en_at hx hw] at h
 exact (h.own (1, .v (.c c), w.length, w.map pI) (by simp)).purS
def bktF (b : Bkt) : List Int := [b.c, b.s, b.mn, b.mx, b.f, b.l, b.ft, b.lt, b.inc]
def colF (l : List Bkt) (k : Nat) : List Int := l.map fun b => (bktF b).getD k 0
def colsK (l : List Bkt) (i k : Nat) : List (List Int) := (List.range 9).map fun j => colF (l.take (if j < k then i + 1 else i)) j
theorem colsK_len (l : List Bkt) (i k : Nat) : (colsK l i k).length = 9 := by simp [colsK]
theorem colsK_at {l : List Bkt} {i k j : Nat} (h : j < 9) : (colsK l i k)[j]? = some (colF (l.take (if j < k then i + 1 else i)) j) := by
 simp [colsK, h]
theorem colsK_step {l : List Bkt} {i k : Nat} {b : Bkt} (h : k < 9) (hb : l[i]? = some b) : (colsK l i k).set k (colF (l.take i) k ++ [(bktF b).getD k 0]) = colsK l i (k + 1) := by
 apply List.ext_getElem?
 intro j
 by_cases hj : j < 9
 ·rw [colsK_at hj]
  by_cases hjk : j = k
  ·subst hjk
   rw [List.getElem?_set_self (by simp [colsK, h]), if_pos (by omega), take_snoc hb]
   simp [colF]
  ·rw [List.getElem?_set_ne (by omega), colsK_at hj]
   by_cases h2 : j < k
   ·rw [if_pos h2, if_pos (by omega)]
   ·rw [if_neg h2, if_neg (by omega)]
 ·rw [List.getElem?_eq_none (by simp [colsK]; omega), List.getElem?_eq_none (by simp [colsK]; omega)]
theorem colsK_all (l : List Bkt) (i : Nat) : colsK l i 9 = colsK l (i + 1) 0 := by
 apply List.ext_getElem?
 intro j
 by_cases hj : j < 9
 ·rw [colsK_at hj, colsK_at hj, if_pos hj, if_neg (by omega)]
 ·rw [List.getElem?_eq_none (by simp [colsK]; omega), List.getElem?_eq_none (by simp [colsK]; omega)]
theorem Own.plain {s : St} {es n : Nat} {c : C} {cs : List Pd} (h : Own s es (.v (.c c)) n cs) : plainC c = true := by
 obtain ⟨_, ⟨h1, _⟩ | ⟨id, h1, _⟩⟩ := h
 ·simp only [D.v.injEq, V.c.injEq] at h1; subst h1; rfl
 ·simp only [D.v.injEq, V.c.injEq] at h1; subst h1; rfl
theorem plC (x : Pd) : plainC (.p x) = true := rfl
theorem purVs_wc {s : St} {a : List UInt8} {b : Int} {c : C} {y : Pd} (h : purS c = some y) : purVs s [wR a b, .c c] = some ([wR a b, .c (.p y)], s) := by
 simp only [purVs, purV, purCs, purC_p, purC_S h, List.map_cons, List.map_nil]
theorem ixOwn {n j id : Nat} {cs : List Pd} (hj : j < n) (hl : cs.length = n) : indexAddrD E0 175 (.v (.c (.own n cs id))) (.v (.c (.p (.int .i64 (j : Int))))) = some (.v (.c (.rp cs j))) := by
 unfold indexAddrD
 rw [ti175]
 simp only [D.int?, ti3, Int.toNat_natCast, Nat.mul_one]
 rw [if_pos ⟨Int.natCast_nonneg j, by omega, by omega, by decide⟩]
theorem OA.nils {b : Nat} {s : St} {L : List (Nat × D × Nat × List Pd)} {M : List (Nat × Ob)} (h : OA b s L M) (l : List Bkt) : OA b s (L ++ en (List.replicate 9 .nils) (colsK l 0 0)) M := by
 have e : en (List.replicate 9 .nils) (colsK l 0 0) = List.replicate 9 (1, .v (.c .nils), 0, []) := rfl
 have h9 : OA b s (List.replicate 9 (1, .v (.c .nils), 0, []) ++ L) M := by
  simp only [List.replicate]
  exact h.nil.nil.nil.nil.nil.nil.nil.nil.nil
 rw [e]
 exact h9.perm List.perm_append_comm
set_option maxHeartbeats 8000000
set_option maxRecDepth 10000
set_option linter.unusedSimpArgs false
set_option linter.unusedVariables false
theorem o120 : E0.opn 120 = false := by kernel_rfl
theorem x120 : E0.xt 120 = none := by kernel_rfl
theorem o122 : E0.opn 122 = false := by kernel_rfl
theorem x122 : E0.xt 122 = none := by kernel_rfl
theorem o123 : E0.opn 123 = false := by kernel_rfl
theorem x123 : E0.xt 123 = none := by kernel_rfl
def wV (w : List UInt8 × Int) (l : List Int) : List UInt8 × Int := partW w (encV l).1 (encV l).2
theorem encR_C (x : Rlp) (h : rlpOK x = true) : encR x = encC 6 (.lst x.lb.length (x.lb.flatMap lbP)) (rlpZ x.bs).pd (appV (appV [] x.k).1 x.w).1 (bktCs x.bs) := by
 unfold encR encC
 rw [if_neg (by simp [h]), packE_cols]
 rfl
theorem bktCs_eq (l : List Bkt) : bktCs l = encT (l.map fun b => IntKind.i64.wrap (b.st + 1)) :: (colsK l l.length 0).map encV := by
 simp [bktCs, bktCols, encF0, encF1, colsK, colF, List.range_succ, bktF]
theorem wV_fold (w : List UInt8 × Int) : ∀ ls : List (List Int), ls.foldl wV w = (ls.map encV).foldl (fun w c => partW w c.1 c.2) w
 | [] => rfl
 | l :: r => by rw [List.foldl_cons, List.map_cons, List.foldl_cons]; exact wV_fold _ r
theorem partW_len (w : List UInt8 × Int) (t : List UInt8) (e : Int) (ht : t.length < 2^40) : (partW w t e).1.length ≤ w.1.length + (t.length + 10) := by
 unfold partW
 split
 ·omega
 ·split
  ·simp
  ·have : appV w.1 (t.length : Int) = (w.1 ++ vb t.length, 0) := by unfold appV; rw [if_neg (by omega), Int.toNat_natCast]
   rw [this]
   have := vb_len10 (n := t.length) (by omega)
   simp only [List.length_append]; omega
theorem tsd {xs : List C} {j : Nat} {c : C} (h : j < xs.length) : xs.take j ++ [c] ++ xs.drop (j + 1) = xs.set j c := by
 rw [List.set_eq_take_append_cons_drop, if_pos h]; simp
theorem pf65 (x : Rlp) (z : Rz x) : Pf E0 65 [.agg (x.pd.map .p)] (encR x) := by
 have hfl := fB x.bs
 have p54 := pf54 x z.lb z.ls
 refine Pf.body (fn := Tryz.f65) (by kernel_rfl) rfl ?_; simp only [List.map_cons, List.map_nil, List.cons_append, List.nil_append, List.length_cons, List.length_nil, Tryz.ntmps65, List.replicate, Nat.reduceSub, Nat.reduceAdd]
 refine gS fun K F => ?_; simp only [go_sem, nZ]; apply F; clear F K
 cases hok : rlpOK x with
 | false =>
  rw [hok] at p54
  unfold encR
  rw [hok, if_pos rfl]
  refine Wc.seq (Wc.seq ?_)
  refine gR fun K F => ?_; simp only [go_sem, nZ]
  refine gP (p54) (by kernel_rfl) (by kernel_rfl) rfl rfl ?_
  simp only [go_sem, nZ]; apply F; clear F K
  refine gT (by simp only [go_sem, nZ]) ?_
  refine gS fun K F => ?_; simp only [go_sem, nZ]; apply F; clear F K
  exact Wc.ret (Pf.ret [.cell 2 96, .tmp 3] [.agg ([.p (pI 0), .nils] ++ zz0.map .p ++ [.p (.str [])]), .c (.p (pI 1))] rfl rfl (by simp only [resultsD, go_sem, nZ]) rfl)
 | true =>
 rw [hok] at p54
 rw [encR_C x hok]
 obtain ⟨hk, hw, hne, hbl⟩ := rlpOK_some hok
 obtain ⟨b0, r0, hbs⟩ : ∃ b0 r0, x.bs = b0 :: r0 := by
  cases hx : x.bs with
  | nil => exact absurd hx hne
  | cons a r => exact ⟨a, r, rfl⟩
 have hb0 : x.bs[0]? = some b0 := by rw [hbs]; rfl
 have hlen0 : 0 < x.bs.length := by rw [hbs]; simp
 obtain ⟨bl, hbl1⟩ : ∃ bl, x.bs[x.bs.length - 1]? = some bl := ⟨x.bs[x.bs.length - 1], List.getElem?_eq_getElem (by omega)⟩
 have hZ : (rlpZ x.bs).pd = [pI x.bs.length, pI b0.ft, pI bl.lt, pI (x.bs.foldl (fun m y => minI m y.mn) b0.mn), pI (x.bs.foldl (fun m y => maxI m y.mx) b0.mx), .int .u32 0, .int .u32 0, .int .u32 0, .int .u32 0, .int .u32 0, .int .u32 0, .int .u32 0, .int .u32 0] := by
  have e : bl = (b0 :: r0).getLast (by simp) := by
   rw [hbs, List.getLast?_eq_getElem?.symm] at hbl1
   rw [List.getLast?_eq_some_getLast (by simp)] at hbl1
   exact (Option.some.inj hbl1).symm
  rw [hbs, e]
  rfl
 refine Wc.seq (Wc.seq ?_)
 refine gR fun K F => ?_; simp only [go_sem, nZ]
 refine gP (p54) (by kernel_rfl) (by kernel_rfl) rfl rfl ?_
 simp only [go_sem, nZ]; apply F; clear F K
 refine gF (by simp only [go_sem, nZ]) ?_
 refine gS fun K F => ?_; simp only [go_sem, nZ]; apply F; clear F K
 have hix0 : indexAddrD E0 29 (.v (.c (.p (.lst x.bs.length (x.bs.flatMap Bkt.pd))))) (.v (.c (.p (.int .i64 0)))) = some (.v (.c (.rp (x.bs.flatMap Bkt.pd) 0))) := ixA ti29 rfl ti41 (j := 0) hlen0 hfl (by decide)
 have hixl := ixA ti29 rfl ti41 (j := x.bs.length - 1) (m := x.bs.length) (cs := x.bs.flatMap Bkt.pd) (by omega) hfl (by decide)
 have c07 := rpB hb0 7 (by omega)
 have c03 := rpB hb0 3 (by omega)
 have c04 := rpB hb0 4 (by omega)
 simp only [Nat.zero_mul, Nat.zero_add] at c07 c03 c04
 have cl8 := rpB hbl1 8 (by omega)
 have w1 : IntKind.i64.wrap ((x.bs.length : Int) - 1) = ((x.bs.length - 1 : Nat) : Int) := by rw [wi64]; omega
 refine Wc.seqA (fun y => ∃ k5, y.ds = [] ∧ Fs y.e 140 [(1, .v (.c (.ref 0 0))), (2, .v (.c (.ref 1 0))), (4, P' (pI x.bs.length)), (5, .v (.c (.ref k5 0)))] ∧ OA y.s.nx y.s [] ((k5, .cells [.p (pI x.bs.length), .p (pI b0.ft), .p (pI bl.lt), .p (pI b0.mn), .p (pI b0.mx), .p (.int .u32 0), .p (.int .u32 0), .p (.int .u32 0), .p (.int .u32 0), .p (.int .u32 0), .p (.int .u32 0), .p (.int .u32 0), .p (.int .u32 0)] false) :: [(1, .cells ([.p (pI 0), .nils] ++ zz0.map .p ++ [.p (.str [])]) false), (0, .cells (x.pd.map .p) false)])) ?_ ?_
 ·refine Wc.regT fun K F => ?_; simp only [go_sem, nZ, hix0, hixl, c07, c03, c04, cl8, w1]; refine ⟨by rw [trOK_eq3]; rfl, F _ _ ?_⟩; clear F K
  exact ⟨rfl, 34, rfl, by simp only [Fs, nZ, go_sem, nZ], by (try simp only [St.put_adv, St.adv_adv, St.put_put, St.nx_put, St.nx_adv]); repeat (first | exact OA.mono s00_oa (by omega) | refine OA.newB ?_ (by omega) rfl | refine OA.putB ?_ (by omega) | refine OA.advB ?_)⟩
 clear hix0 hixl c07 c03 c04 cl8 w1
 rintro ⟨e, ds, s1⟩ ⟨k5, rfl, hF, ho⟩
 simp only [Fs] at hF ho
 refine Wc.seqA (fun y => ∃ sc, y.ds = [] ∧ Fs y.e 140 [(1, .v (.c (.ref 0 0))), (2, .v (.c (.ref 1 0))), (4, P' (pI x.bs.length)), (5, .v (.c (.ref k5 0))), (6, .v (.c sc))] ∧ OA y.s.nx y.s [(1, .v (.c sc), 0, [])] ((k5, .cells [.p (pI x.bs.length), .p (pI b0.ft), .p (pI bl.lt), .p (pI b0.mn), .p (pI b0.mx), .p (.int .u32 0), .p (.int .u32 0), .p (.int .u32 0), .p (.int .u32 0), .p (.int .u32 0), .p (.int .u32 0), .p (.int .u32 0), .p (.int .u32 0)] false) :: [(1, .cells ([.p (pI 0), .nils] ++ zz0.map .p ++ [.p (.str [])]) false), (0, .cells (x.pd.map .p) false)])) ?_ ?_
 ·refine gR fun K F => ?_; simp only [go_sem, nZ, hF]; apply F; clear F K
  exact ⟨rfl, .own 0 [] s1.nx, rfl, by simp only [Fs, nZ, go_sem, nZ, hF], (OA.front (k := s1.nx) (es := 1) (n := 0) (cs := []) (OA.adv ho) (Nat.le_refl _) rfl).mono (by simp only [St.nx_put, St.nx_adv]; omega)⟩
 clear hF ho e s1
 rintro ⟨e, ds, s1⟩ ⟨sc, rfl, hF, ho⟩
 simp only [Fs] at hF ho
 refine Wc.seqA (fun y => ∃ k7, y.ds = [] ∧ Fs y.e 140 [(1, .v (.c (.ref 0 0))), (2, .v (.c (.ref 1 0))), (4, P' (pI x.bs.length)), (5, .v (.c (.ref k5 0))), (6, .v (.c sc)), (7, .v (.c (.mt k7 0 9 1)))] ∧ OA y.s.nx y.s ([(1, .v (.c sc), 0, [])] ++ en (List.replicate 9 .nils) (colsK x.bs 0 0)) ((k7, .cells (List.replicate 9 .nils) false) :: (k5, .cells [.p (pI x.bs.length), .p (pI b0.ft), .p (pI bl.lt), .p (pI b0.mn), .p (pI b0.mx), .p (.int .u32 0), .p (.int .u32 0), .p (.int .u32 0), .p (.int .u32 0), .p (.int .u32 0), .p (.int .u32 0), .p (.int .u32 0), .p (.int .u32 0)] false) :: [(1, .cells ([.p (pI 0), .nils] ++ zz0.map .p ++ [.p (.str [])]) false), (0, .cells (x.pd.map .p) false)])) ?_ ?_
 ·have h1 : (((24 : Nat) : Int) * 9 ≤ 140737488355328) = True := by simp
  have h2 : ((9 : Int) ≤ 9223372036854775807) = True := by simp
  have h3 : ((9 : Int) = 0) = False := by simp
  refine gR fun K F => ?_; simp only [go_sem, nZ, hF, h1, h2, h3]; apply F; clear F K
  exact ⟨rfl, s1.nx, rfl, by simp only [Fs, nZ, go_sem, nZ, hF], OA.nils (by simp only [List.replicate, repl, List.cons_append, List.nil_append]; exact by (try simp only [St.put_adv, St.adv_adv, St.put_put, St.nx_put, St.nx_adv]); repeat (first | exact OA.mono ho (by omega) | refine OA.newB ?_ (by omega) rfl | refine OA.putB ?_ (by omega) | refine OA.advB ?_)) x.bs⟩
 clear hF ho e s1
 rintro ⟨e, ds, s1⟩ ⟨k7, rfl, hF, ho⟩
 simp only [Fs] at hF ho
 refine Wc.seqA (fun y => ∃ sc xs, xs.length = 9 ∧ y.ds = [] ∧ Fs y.e 140 [(1, .v (.c (.ref 0 0))), (2, .v (.c (.ref 1 0))), (4, P' (pI x.bs.length)), (5, .v (.c (.ref k5 0))), (6, .v (.c sc)), (7, .v (.c (.mt k7 0 9 1)))] ∧ OA y.s.nx y.s ([(1, .v (.c sc), (x.bs.map fun b => IntKind.i64.wrap (b.st + 1)).length, (x.bs.map fun b => IntKind.i64.wrap (b.st + 1)).map pI)] ++ en xs (colsK x.bs x.bs.length 0)) ((k7, .cells xs false) :: (k5, .cells [.p (pI x.bs.length), .p (pI b0.ft), .p (pI bl.lt), .p (pI (x.bs.foldl (fun m y => minI m y.mn) b0.mn)), .p (pI (x.bs.foldl (fun m y => maxI m y.mx) b0.mx)), .p (.int .u32 0), .p (.int .u32 0), .p (.int .u32 0), .p (.int .u32 0), .p (.int .u32 0), .p (.int .u32 0), .p (.int .u32 0), .p (.int .u32 0)] false) :: [(1, .cells ([.p (pI 0), .nils] ++ zz0.map .p ++ [.p (.str [])]) false), (0, .cells (x.pd.map .p) false)])) ?_ ?_
 ·refine gS fun K F => ?_; simp only [go_sem, nZ, hF]; apply F; clear F K
  refine Wc.block (Wc.loop (fun q y => ∃ (i : Nat) (sc : C) (xs : List C), q = x.bs.length - i ∧ (i ≤ x.bs.length ∧ xs.length = 9) ∧ y.ds = [] ∧ Fs y.e 140 [(1, .v (.c (.ref 0 0))), (2, .v (.c (.ref 1 0))), (4, P' (pI x.bs.length)), (5, .v (.c (.ref k5 0))), (6, .v (.c sc)), (7, .v (.c (.mt k7 0 9 1))), (8, P' (pI i))] ∧ OA y.s.nx y.s ([(1, .v (.c sc), ((x.bs.take i).map fun b => IntKind.i64.wrap (b.st + 1)).length, ((x.bs.take i).map fun b => IntKind.i64.wrap (b.st + 1)).map pI)] ++ en xs (colsK x.bs i 0)) ((k7, .cells xs false) :: (k5, .cells [.p (pI x.bs.length), .p (pI b0.ft), .p (pI bl.lt), .p (pI ((x.bs.take i).foldl (fun m y => minI m y.mn) b0.mn)), .p (pI ((x.bs.take i).foldl (fun m y => maxI m y.mx) b0.mx)), .p (.int .u32 0), .p (.int .u32 0), .p (.int .u32 0), .p (.int .u32 0), .p (.int .u32 0), .p (.int .u32 0), .p (.int .u32 0), .p (.int .u32 0)] false) :: [(1, .cells ([.p (pI 0), .nils] ++ zz0.map .p ++ [.p (.str [])]) false), (0, .cells (x.pd.map .p) false)])) ?_ (k := x.bs.length) ⟨0, sc, List.replicate 9 .nils, rfl, ⟨by omega, rfl⟩, rfl, by simp only [Fs, nZ, go_sem, nZ, hF], by (try simp only [St.nx_put, St.nx_adv]); repeat (first | exact OA.mono ho (by omega) | refine OA.newB ?_ (by omega) rfl | refine OA.advB ?_)⟩)
  clear hF ho e s1 sc
  rintro q ⟨e, ds, s1⟩ ⟨i, sc, xs, rfl, ⟨hi, hxs⟩, rfl, hF, ho⟩
  simp only [Fs] at hF ho
  refine Wc.seq (Wc.seq ?_)
  refine gR fun K F => ?_; simp only [go_sem, nZ, hF]; apply F; clear F K
  refine Wc.cond (t := decide ((i : Int) < x.bs.length)) (by simp only [go_sem, nZ, hF]) (fun hc => ?_) (fun hc => ?_)
  ·have hil : i < x.bs.length := by have := of_decide_eq_true hc; omega
   obtain ⟨b, hb⟩ : ∃ b, x.bs[i]? = some b := ⟨x.bs[i], List.getElem?_eq_getElem hil⟩
   have hix := ixA ti29 rfl ti41 (j := i) (m := x.bs.length) (cs := x.bs.flatMap Bkt.pd) hil hfl (by decide)
   have hca := rpB0 hb
   have g0 := ho.at_ (0, .cells (x.pd.map .p) false) (by simp)
   simp only [List.map_cons, List.map_nil] at g0
   refine Wc.skip (Wc.seq (Wc.block (Wc.seqA (fun y => ∃ k9, y.ds = [] ∧ Fs y.e 140 [(1, .v (.c (.ref 0 0))), (2, .v (.c (.ref 1 0))), (4, P' (pI x.bs.length)), (5, .v (.c (.ref k5 0))), (6, .v (.c sc)), (7, .v (.c (.mt k7 0 9 1))), (8, P' (pI i)), (9, .v (.c (.ref k9 0)))] ∧ OA y.s.nx y.s ([(1, .v (.c sc), ((x.bs.take i).map fun b => IntKind.i64.wrap (b.st + 1)).length, ((x.bs.take i).map fun b => IntKind.i64.wrap (b.st + 1)).map pI)] ++ en xs (colsK x.bs i 0)) ((k9, .cells (b.pd.map .p) false) :: (k7, .cells xs false) :: (k5, .cells [.p (pI x.bs.length), .p (pI b0.ft), .p (pI bl.lt), .p (pI ((x.bs.take i).foldl (fun m y => minI m y.mn) b0.mn)), .p (pI ((x.bs.take i).foldl (fun m y => maxI m y.mx) b0.mx)), .p (.int .u32 0), .p (.int .u32 0), .p (.int .u32 0), .p (.int .u32 0), .p (.int .u32 0), .p (.int .u32 0), .p (.int .u32 0), .p (.int .u32 0)] false) :: [(1, .cells ([.p (pI 0), .nils] ++ zz0.map .p ++ [.p (.str [])]) false), (0, .cells (x.pd.map .p) false)])) ?_ ?_)))
   ·refine gR fun K F => ?_; simp only [go_sem, nZ, hF, g0, hix, hca]; apply F; clear F K
    exact ⟨rfl, s1.nx + 8, rfl, by simp only [Fs, nZ, go_sem, nZ, hF], by (try simp only [St.put_adv, St.adv_adv, St.put_put, St.nx_put, St.nx_adv]); repeat (first | exact OA.mono ho (by omega) | refine OA.newB ?_ (by omega) rfl | refine OA.putB ?_ (by omega) | refine OA.advB ?_)⟩
   clear hF ho g0 hix hca e s1
   rintro ⟨e, ds, s1⟩ ⟨k9, rfl, hF, ho⟩
   simp only [Fs] at hF ho
   have g9 := ho.at_ (k9, .cells (b.pd.map .p) false) (by simp)
   simp only [List.map_cons, List.map_nil] at g9
   refine Wc.seqA (fun y => ∃ sc, y.ds = [] ∧ Fs y.e 140 [(1, .v (.c (.ref 0 0))), (2, .v (.c (.ref 1 0))), (4, P' (pI x.bs.length)), (5, .v (.c (.ref k5 0))), (6, .v (.c sc)), (7, .v (.c (.mt k7 0 9 1))), (8, P' (pI i)), (9, .v (.c (.ref k9 0)))] ∧ OA y.s.nx y.s ([(1, .v (.c sc), ((x.bs.take (i + 1)).map fun b => IntKind.i64.wrap (b.st + 1)).length, ((x.bs.take (i + 1)).map fun b => IntKind.i64.wrap (b.st + 1)).map pI)] ++ en xs (colsK x.bs i 0)) ((k9, .cells (b.pd.map .p) false) :: (k7, .cells xs false) :: (k5, .cells [.p (pI x.bs.length), .p (pI b0.ft), .p (pI bl.lt), .p (pI ((x.bs.take i).foldl (fun m y => minI m y.mn) b0.mn)), .p (pI ((x.bs.take i).foldl (fun m y => maxI m y.mx) b0.mx)), .p (.int .u32 0), .p (.int .u32 0), .p (.int .u32 0), .p (.int .u32 0), .p (.int .u32 0), .p (.int .u32 0), .p (.int .u32 0), .p (.int .u32 0)] false) :: [(1, .cells ([.p (pI 0), .nils] ++ zz0.map .p ++ [.p (.str [])]) false), (0, .cells (x.pd.map .p) false)])) ?_ ?_
   ·refine gR fun K F => ?_; simp only [go_sem, nZ, hF, g9]
    refine OA.app1 (L1 := []) (L2 := en xs (colsK x.bs i 0)) (M := (k9, .cells (b.pd.map .p) false) :: (k7, .cells xs false) :: (k5, .cells [.p (pI x.bs.length), .p (pI b0.ft), .p (pI bl.lt), .p (pI ((x.bs.take i).foldl (fun m y => minI m y.mn) b0.mn)), .p (pI ((x.bs.take i).foldl (fun m y => maxI m y.mx) b0.mx)), .p (.int .u32 0), .p (.int .u32 0), .p (.int .u32 0), .p (.int .u32 0), .p (.int .u32 0), .p (.int .u32 0), .p (.int .u32 0), .p (.int .u32 0)] false) :: [(1, .cells ([.p (pI 0), .nils] ++ zz0.map .p ++ [.p (.str [])]) false), (0, .cells (x.pd.map .p) false)]) (W := (x.bs.take i).map fun b => IntKind.i64.wrap (b.st + 1)) (v := IntKind.i64.wrap (b.st + 1)) ?_ (Nat.le_refl _) (by simp; omega) (by simp only [go_sem, nZ]) fun sc' s3 hs hnx => ?_
    ·exact by (try simp only [St.nx_put, St.nx_adv]); repeat (first | exact OA.mono ho (by omega) | refine OA.newB ?_ (by omega) rfl | refine OA.putB ?_ (by omega) | refine OA.advB ?_)
    simp only [go_sem, nZ, hF]; apply F; clear F K
    simp only [St.nx_put, St.nx_adv] at hnx
    have e1 : ((x.bs.take i).map fun b => IntKind.i64.wrap (b.st + 1)) ++ [IntKind.i64.wrap (b.st + 1)] = (x.bs.take (i + 1)).map fun b => IntKind.i64.wrap (b.st + 1) := by rw [take_snoc hb]; simp
    rw [e1] at hs
    exact ⟨rfl, sc', rfl, by simp only [Fs, nZ, go_sem, nZ, hF], OA.mono hs (by show _ ≤ s3.nx; omega)⟩
   clear hF ho g9 e s1 sc
   rintro ⟨e, ds, s1⟩ ⟨sc, rfl, hF, ho⟩
   simp only [Fs] at hF ho
   have g9 := ho.at_ (k9, .cells (b.pd.map .p) false) (by simp)
   simp only [List.map_cons, List.map_nil] at g9
   refine Wc.seqA (fun y => ∃ k10, y.ds = [] ∧ Fs y.e 140 [(1, .v (.c (.ref 0 0))), (2, .v (.c (.ref 1 0))), (4, P' (pI x.bs.length)), (5, .v (.c (.ref k5 0))), (6, .v (.c sc)), (7, .v (.c (.mt k7 0 9 1))), (8, P' (pI i)), (9, .v (.c (.ref k9 0))), (10, .v (.c (.own 9 [pI b.c, pI b.s, pI b.mn, pI b.mx, pI b.f, pI b.l, pI b.ft, pI b.lt, pI b.inc] k10)))] ∧ OA y.s.nx y.s ([(1, .v (.c sc), ((x.bs.take (i + 1)).map fun b => IntKind.i64.wrap (b.st + 1)).length, ((x.bs.take (i + 1)).map fun b => IntKind.i64.wrap (b.st + 1)).map pI)] ++ en xs (colsK x.bs i 0)) ((k9, .cells (b.pd.map .p) false) :: (k7, .cells xs false) :: (k5, .cells [.p (pI x.bs.length), .p (pI b0.ft), .p (pI bl.lt), .p (pI ((x.bs.take i).foldl (fun m y => minI m y.mn) b0.mn)), .p (pI ((x.bs.take i).foldl (fun m y => maxI m y.mx) b0.mx)), .p (.int .u32 0), .p (.int .u32 0), .p (.int .u32 0), .p (.int .u32 0), .p (.int .u32 0), .p (.int .u32 0), .p (.int .u32 0), .p (.int .u32 0)] false) :: [(1, .cells ([.p (pI 0), .nils] ++ zz0.map .p ++ [.p (.str [])]) false), (0, .cells (x.pd.map .p) false)])) ?_ ?_
   ·refine gR fun K F => ?_; simp only [go_sem, nZ, hF, g9]; apply F; clear F K
    exact ⟨rfl, s1.nx + 18, rfl, by simp only [Fs, nZ, go_sem, nZ, hF], by (try simp only [St.put_adv, St.adv_adv, St.put_put, St.nx_put, St.nx_adv]); repeat (first | exact OA.mono ho (by omega) | refine OA.newB ?_ (by omega) rfl | refine OA.putB ?_ (by omega) | refine OA.advB ?_)⟩
   clear hF ho g9 e s1
   rintro ⟨e, ds, s1⟩ ⟨k10, rfl, hF, ho⟩
   simp only [Fs] at hF ho
   refine Wc.seqA (fun y => ∃ xs, xs.length = 9 ∧ y.ds = [] ∧ Fs y.e 140 [(1, .v (.c (.ref 0 0))), (2, .v (.c (.ref 1 0))), (4, P' (pI x.bs.length)), (5, .v (.c (.ref k5 0))), (6, .v (.c sc)), (7, .v (.c (.mt k7 0 9 1))), (8, P' (pI i)), (9, .v (.c (.ref k9 0)))] ∧ OA y.s.nx y.s ([(1, .v (.c sc), ((x.bs.take (i + 1)).map fun b => IntKind.i64.wrap (b.st + 1)).length, ((x.bs.take (i + 1)).map fun b => IntKind.i64.wrap (b.st + 1)).map pI)] ++ en xs (colsK x.bs (i + 1) 0)) ((k9, .cells (b.pd.map .p) false) :: (k7, .cells xs false) :: (k5, .cells [.p (pI x.bs.length), .p (pI b0.ft), .p (pI bl.lt), .p (pI ((x.bs.take i).foldl (fun m y => minI m y.mn) b0.mn)), .p (pI ((x.bs.take i).foldl (fun m y => maxI m y.mx) b0.mx)), .p (.int .u32 0), .p (.int .u32 0), .p (.int .u32 0), .p (.int .u32 0), .p (.int .u32 0), .p (.int .u32 0), .p (.int .u32 0), .p (.int .u32 0)] false) :: [(1, .cells ([.p (pI 0), .nils] ++ zz0.map .p ++ [.p (.str [])]) false), (0, .cells (x.pd.map .p) false)])) ?_ ?_
   ·refine gS fun K F => ?_; simp only [go_sem, nZ, hF]; apply F; clear F K
    refine Wc.block (Wc.loop (fun q y => ∃ (j : Nat) (xs : List C), q = 9 - j ∧ (j ≤ 9 ∧ xs.length = 9) ∧ y.ds = [] ∧ Fs y.e 140 [(1, .v (.c (.ref 0 0))), (2, .v (.c (.ref 1 0))), (4, P' (pI x.bs.length)), (5, .v (.c (.ref k5 0))), (6, .v (.c sc)), (7, .v (.c (.mt k7 0 9 1))), (8, P' (pI i)), (9, .v (.c (.ref k9 0))), (10, .v (.c (.own 9 [pI b.c, pI b.s, pI b.mn, pI b.mx, pI b.f, pI b.l, pI b.ft, pI b.lt, pI b.inc] k10))), (11, P' (pI j))] ∧ OA y.s.nx y.s ([(1, .v (.c sc), ((x.bs.take (i + 1)).map fun b => IntKind.i64.wrap (b.st + 1)).length, ((x.bs.take (i + 1)).map fun b => IntKind.i64.wrap (b.st + 1)).map pI)] ++ en xs (colsK x.bs i j)) ((k9, .cells (b.pd.map .p) false) :: (k7, .cells xs false) :: (k5, .cells [.p (pI x.bs.length), .p (pI b0.ft), .p (pI bl.lt), .p (pI ((x.bs.take i).foldl (fun m y => minI m y.mn) b0.mn)), .p (pI ((x.bs.take i).foldl (fun m y => maxI m y.mx) b0.mx)), .p (.int .u32 0), .p (.int .u32 0), .p (.int .u32 0), .p (.int .u32 0), .p (.int .u32 0), .p (.int .u32 0), .p (.int .u32 0), .p (.int .u32 0)] false) :: [(1, .cells ([.p (pI 0), .nils] ++ zz0.map .p ++ [.p (.str [])]) false), (0, .cells (x.pd.map .p) false)])) ?_ (k := 9) ⟨0, xs, rfl, ⟨by omega, hxs⟩, rfl, by simp only [Fs, nZ, go_sem, nZ, hF], by (try simp only [St.nx_put, St.nx_adv]); repeat (first | exact OA.mono ho (by omega) | refine OA.newB ?_ (by omega) rfl | refine OA.advB ?_)⟩)
    clear hF ho e s1 hxs xs
    rintro q ⟨e, ds, s1⟩ ⟨j, xs, rfl, ⟨hj, hxs⟩, rfl, hF, ho⟩
    simp only [Fs] at hF ho
    refine Wc.seq (Wc.seq ?_)
    refine gR fun K F => ?_; simp only [go_sem, nZ, hF]; apply F; clear F K
    refine Wc.cond (t := decide ((j : Int) < 9)) (by simp only [go_sem, nZ, hF]) (fun hc => ?_) (fun hc => ?_)
    ·have hjl : j < 9 := by have := of_decide_eq_true hc; omega
     obtain ⟨c, hcx⟩ : ∃ c, xs[j]? = some c := ⟨xs[j], List.getElem?_eq_getElem (by omega)⟩
     have hcw : (colsK x.bs i j)[j]? = some (colF (x.bs.take i) j) := by rw [colsK_at hjl, if_neg (by omega)]
     have hi7 := ixM ti176 rfl ti175 (r := k7) (off := 0) (j := j) (m := 9) (es := 1) hjl rfl
     have hdx : xs.drop j = c :: xs.drop (j + 1) := by
      obtain ⟨a1, a2⟩ := List.getElem?_eq_some_iff.1 hcx
      rw [List.drop_eq_getElem_cons a1, a2]
     have hj0 : (j ≤ 9) = True := by simp; omega
     have hj1 : (j + 1 ≤ 9) = True := by simp; omega
     have hjv : (bktF b)[j]? = some ((bktF b).getD j 0) := by
      rw [List.getD_eq_getElem?_getD, List.getElem?_eq_getElem (by simp [bktF]; omega)]; rfl
     have hio := ixOwn (n := 9) (j := j) (id := k10) (cs := (bktF b).map pI) hjl rfl
     have hco := rpA (off := j) (drop_map pI hjv) (by simp [bktF]; omega)
     simp only [bktF, List.map_cons, List.map_nil] at hio hco
     have g7 := ho.at_ (k7, .cells xs false) (by simp)
     refine Wc.skip (Wc.seq (Wc.block ?_))
     refine Wc.regT fun K F => ?_; simp only [go_sem, nZ, hF, hi7, g7, hdx, hxs, hj0, hj1, hio, hco]
     refine OA.appK (k := j) (A := [(1, .v (.c sc), ((x.bs.take (i + 1)).map fun b => IntKind.i64.wrap (b.st + 1)).length, ((x.bs.take (i + 1)).map fun b => IntKind.i64.wrap (b.st + 1)).map pI)]) (xs := xs) (ws := colsK x.bs i j) (w := colF (x.bs.take i) j) (v := (bktF b).getD j 0) (M := (k9, .cells (b.pd.map .p) false) :: (k7, .cells xs false) :: (k5, .cells [.p (pI x.bs.length), .p (pI b0.ft), .p (pI bl.lt), .p (pI ((x.bs.take i).foldl (fun m y => minI m y.mn) b0.mn)), .p (pI ((x.bs.take i).foldl (fun m y => maxI m y.mx) b0.mx)), .p (.int .u32 0), .p (.int .u32 0), .p (.int .u32 0), .p (.int .u32 0), .p (.int .u32 0), .p (.int .u32 0), .p (.int .u32 0), .p (.int .u32 0)] false) :: [(1, .cells ([.p (pI 0), .nils] ++ zz0.map .p ++ [.p (.str [])]) false), (0, .cells (x.pd.map .p) false)]) ?_ hcx hcw (Nat.le_refl _) (by simp [colF]; omega) (by simp only [go_sem, nZ, bktF]) fun c' s3 hs hnx => ?_
     ·exact by (try simp only [St.nx_put, St.nx_adv]); repeat (first | exact OA.mono ho (by omega) | refine OA.newB ?_ (by omega) rfl | refine OA.putB ?_ (by omega) | refine OA.advB ?_)
     have g7' := hs.at_ (k7, .cells xs false) (by simp)
     simp only [go_sem, nZ, hF, hi7, g7', hdx, hxs, hj0, hj1]; refine ⟨by rw [trOK_eq3]; rfl, F _ _ ?_⟩; clear F K
     rw [colsK_step hjl hb] at hs
     have h5 := OA.set (M1 := [(k9, .cells (b.pd.map .p) false)]) (o' := .cells (xs.set j c') false) hs rfl
     simp only [St.nx_put, St.nx_adv] at hnx
     refine gR fun K F => ?_; simp only [go_sem, nZ, hF, i64n j (by omega)]; apply F; clear F K
     refine ⟨9 - (j + 1), by omega, j + 1, xs.set j c', rfl, ⟨by omega, by simp [hxs]⟩, rfl, by simp only [Fs, nZ, go_sem, nZ, hF], ?_⟩
     have htd := tsd (xs := xs) (j := j) (c := c') (by omega)
     rw [htd]
     exact OA.mono h5.adv (by simp only [St.nx_put, St.nx_adv]; omega)
    ·have hjl : j = 9 := by have := of_decide_eq_false hc; omega
     subst hjl
     rw [colsK_all] at ho
     exact Wc.exit ⟨rfl, xs, hxs, rfl, by simp only [Fs, nZ, go_sem, nZ, hF], by (try simp only [St.nx_put, St.nx_adv]); repeat (first | exact OA.mono ho (by omega) | refine OA.newB ?_ (by omega) rfl | refine OA.advB ?_)⟩
   clear hF ho e s1 hxs xs
   rintro ⟨e, ds, s1⟩ ⟨xs, hxs, rfl, hF, ho⟩
   simp only [Fs] at hF ho
   have g9 := ho.at_ (k9, .cells (b.pd.map .p) false) (by simp)
   have g5 := ho.at_ (k5, .cells [.p (pI x.bs.length), .p (pI b0.ft), .p (pI bl.lt), .p (pI ((x.bs.take i).foldl (fun m y => minI m y.mn) b0.mn)), .p (pI ((x.bs.take i).foldl (fun m y => maxI m y.mx) b0.mx)), .p (.int .u32 0), .p (.int .u32 0), .p (.int .u32 0), .p (.int .u32 0), .p (.int .u32 0), .p (.int .u32 0), .p (.int .u32 0), .p (.int .u32 0)] false) (by simp)
   simp only [List.map_cons, List.map_nil] at g9
   have n59 : k9 ≠ k5 := by
    have := ho.dism
    simp only [List.pairwise_cons, List.mem_cons] at this
    exact this.1 (k5, .cells [.p (pI x.bs.length), .p (pI b0.ft), .p (pI bl.lt), .p (pI ((x.bs.take i).foldl (fun m y => minI m y.mn) b0.mn)), .p (pI ((x.bs.take i).foldl (fun m y => maxI m y.mx) b0.mx)), .p (.int .u32 0), .p (.int .u32 0), .p (.int .u32 0), .p (.int .u32 0), .p (.int .u32 0), .p (.int .u32 0), .p (.int .u32 0), .p (.int .u32 0)] false) (.inr (.inl rfl))
   refine Wc.regT fun K F => ?_; simp only [go_sem, nZ, hF, g9, g5, minB2, maxB2]
   refine ⟨trOK_map (fun n => if n = k5 then 0 else 1) ?_, F _ _ ?_⟩
   ·simp only [List.map_cons, List.map_nil, trM, Option.map_some, Option.map_none, if_true, if_neg n59]
    rw [trOK_eq3]; rfl
   clear F K
   refine gR fun K F => ?_; simp only [go_sem, nZ, hF, i64n i (by omega)]; apply F; clear F K
   refine ⟨x.bs.length - (i + 1), by omega, i + 1, sc, xs, rfl, ⟨by omega, hxs⟩, rfl, by simp only [Fs, nZ, go_sem, nZ, hF], ?_⟩
   have e1 : (x.bs.take (i + 1)).foldl (fun m y => minI m y.mn) b0.mn = minI ((x.bs.take i).foldl (fun m y => minI m y.mn) b0.mn) b.mn := by rw [take_snoc hb, List.foldl_append]; rfl
   have e2 : (x.bs.take (i + 1)).foldl (fun m y => maxI m y.mx) b0.mx = maxI ((x.bs.take i).foldl (fun m y => maxI m y.mx) b0.mx) b.mx := by rw [take_snoc hb, List.foldl_append]; rfl
   rw [e1, e2]
   generalize minI ((x.bs.take i).foldl (fun m y => minI m y.mn) b0.mn) b.mn = m1
   generalize maxI ((x.bs.take i).foldl (fun m y => maxI m y.mx) b0.mx) b.mx = m2
   have h6 := fun n => OA.set (M1 := [(k9, .cells (b.pd.map .p) false), (k7, .cells xs false)]) (o' := .cells [.p (pI x.bs.length), .p (pI b0.ft), .p (pI bl.lt), .p (pI m1), .p (pI m2), .p (.int .u32 0), .p (.int .u32 0), .p (.int .u32 0), .p (.int .u32 0), .p (.int .u32 0), .p (.int .u32 0), .p (.int .u32 0), .p (.int .u32 0)] false) (OA.adv (n := n) ho) rfl
   refine OA.sub (OA.mono (h6 _).adv ?_) (List.Sublist.refl _) (List.sublist_cons_self _ _)
   simp only [St.nx_put, St.nx_adv]; omega
  ·have hil : i = x.bs.length := by have := of_decide_eq_false hc; omega
   subst hil
   rw [List.take_length] at ho
   exact Wc.exit ⟨rfl, sc, xs, hxs, rfl, by simp only [Fs, nZ, go_sem, nZ, hF], by (try simp only [St.nx_put, St.nx_adv]); repeat (first | exact OA.mono ho (by omega) | refine OA.newB ?_ (by omega) rfl | refine OA.advB ?_)⟩
 clear hF ho e s1 sc
 rintro ⟨e, ds, s1⟩ ⟨sc, xs, hxs, rfl, hF, ho⟩
 simp only [Fs] at hF ho
 obtain ⟨S, hS⟩ : ∃ S, (x.bs.map fun b => IntKind.i64.wrap (b.st + 1)) = S := ⟨_, rfl⟩
 have hSl : S.length = x.bs.length := by rw [← hS]; simp
 obtain ⟨CS, hCS⟩ : ∃ CS, colsK x.bs x.bs.length 0 = CS := ⟨_, rfl⟩
 have hCl : CS.length = 9 := by rw [← hCS]; exact colsK_len ..
 have hCm : ∀ c ∈ CS, c.length ≤ 2000 := by
  intro c hc
  rw [← hCS] at hc
  simp only [colsK, List.mem_map] at hc
  obtain ⟨j, _, rfl⟩ := hc
  simp [colF]; omega
 have hBC := bktCs_eq x.bs
 rw [hS, hCS] at hBC
 rw [hBC]
 rw [hS, hCS] at ho
 clear hBC hS hCS
 obtain ⟨T, hT⟩ : ∃ T, (appV (appV [] x.k).1 x.w).1 = T := ⟨_, rfl⟩
 have hTl : T.length ≤ 100 := by
  have e1 : appV [] x.k = (vb x.k.toNat, 0) := by unfold appV; rw [if_neg (by omega)]; rfl
  have e2 : appV (vb x.k.toNat) x.w = (vb x.k.toNat ++ vb x.w.toNat, 0) := by unfold appV; rw [if_neg (by omega)]
  have hv := vb_len10 (n := x.k.toNat) (by omega)
  have hv2 := vb_len10 (n := x.w.toNat) (by omega)
  rw [← hT, e1, e2]; simp only [List.length_append]; omega
 have hEV : ∀ c ∈ CS, (encV c).1.length ≤ 40040 := by
  intro c hc
  have h2 := hCm c hc
  by_cases h0 : (encV c).2 = 0
  ·have := encV_len2 h0; omega
  ·have : (encV c).1 = [] := by
    unfold encV at h0 ⊢
    split
    ·rfl
    ·split
     ·rename_i h3 h4; rw [if_neg h3, if_pos h4] at h0; exact absurd rfl h0
     ·rfl
   rw [this]; simp
 have hET : (encT S).1.length ≤ 40040 := by
  by_cases h0 : (encT S).2 = 0
  ·have := encT_len h0; omega
  ·have : (encT S).1 = [] := by
    unfold encT at h0 ⊢
    split
    ·rename_i h3; rw [if_pos h3] at h0; exact absurd rfl h0
    ·rfl
   rw [this]; simp
 have q120 := pf120 [] 0 x.k (by simp)
 have q120' := pf120 (appV [] x.k).1 0 x.w (by
  have e1 : appV [] x.k = (vb x.k.toNat, 0) := by unfold appV; rw [if_neg (by omega)]; rfl
  have hv := vb_len10 (n := x.k.toNat) (by omega)
  rw [e1]; simp only; omega)
 rw [hT] at q120' ⊢
 have q122 := pf122 S (by omega)
 have q121 := pf121 (T, 0) (encT S).1 (encT S).2 (by simp only; omega) (by omega)
 obtain ⟨W, hW⟩ : ∃ W, partW (T, 0) (encT S).1 (encT S).2 = W := ⟨_, rfl⟩
 have hWl : W.1.length ≤ 41000 := by
  have := partW_len (T, 0) (encT S).1 (encT S).2 (by omega)
  rw [hW] at this; simp only at this; omega
 rw [hW] at q121
 have hfold : ∀ w, w = CS.foldl wV W → w = (encT S :: CS.map encV).foldl (fun w c => partW w c.1 c.2) (T, (0 : Int)) := by
  intro w hw
  rw [hw, List.foldl_cons, wV_fold, hW]
 have hall : ∀ c ∈ encT S :: CS.map encV, c.1.length < 2^40 := by
  intro c hc
  rcases List.mem_cons.1 hc with rfl | hc
  ·omega
  ·obtain ⟨l, hl, rfl⟩ := List.mem_map.1 hc
   have := hEV l hl; omega
 have hps := (ho.own _ (List.mem_cons_self ..)).purS
 have hpl := (ho.own _ (List.mem_cons_self ..)).plain
 have g0 := ho.at_ (0, .cells (x.pd.map .p) false) (by simp)
 simp only [List.map_cons, List.map_nil] at g0
 refine Wc.seqA (fun y => ∃ k12, y.ds = [] ∧ Fs y.e 140 [(1, .v (.c (.ref 0 0))), (2, .v (.c (.ref 1 0))), (4, P' (pI x.bs.length)), (5, .v (.c (.ref k5 0))), (7, .v (.c (.mt k7 0 9 1))), (12, .v (.c (.ref k12 0)))] ∧ OA y.s.nx y.s ([] ++ en xs CS) ((k12, .cells [.p (.str W.1), .p (pI W.2)] false) :: (k7, .cells xs false) :: (k5, .cells [.p (pI x.bs.length), .p (pI b0.ft), .p (pI bl.lt), .p (pI (x.bs.foldl (fun m y => minI m y.mn) b0.mn)), .p (pI (x.bs.foldl (fun m y => maxI m y.mx) b0.mx)), .p (.int .u32 0), .p (.int .u32 0), .p (.int .u32 0), .p (.int .u32 0), .p (.int .u32 0), .p (.int .u32 0), .p (.int .u32 0), .p (.int .u32 0)] false) :: [(1, .cells ([.p (pI 0), .nils] ++ zz0.map .p ++ [.p (.str [])]) false), (0, .cells (x.pd.map .p) false)])) ?_ ?_
 ·refine Wc.regT fun K F => ?_; simp only [go_sem, nZ, hF, g0]
  refine gP (q120) (by kernel_rfl) (by kernel_rfl) rfl rfl ?_
  simp only [go_sem, nZ, hF, g0]
  refine gP (q120') (by kernel_rfl) (by kernel_rfl) rfl rfl ?_
  simp only [go_sem, nZ, hF, g0]
  refine wpCall.pf q122 (by kernel_rfl) (by kernel_rfl) rfl (purVs_c1 hps) ?_
  simp only [go_sem, nZ, hF, g0]
  refine gP (q121) (by kernel_rfl) (by kernel_rfl) rfl rfl ?_
  simp only [go_sem, nZ, hF, o120, x120, o121, x121, o122, x122, plainD, plainV, plC, hpl, List.all_cons, List.all_nil, Option.isNone_none]; refine ⟨by rw [trOK_eq3]; rfl, F _ _ ?_⟩; clear F K
  exact ⟨rfl, s1.nx + 12, rfl, by simp only [Fs, nZ, go_sem, nZ, hF], by (try simp only [St.put_adv, St.adv_adv, St.put_put, St.nx_put, St.nx_adv]); repeat (first | exact OA.mono (ho.sub (List.sublist_cons_self _ _) (List.Sublist.refl _)) (by omega) | refine OA.newB ?_ (by omega) rfl | refine OA.putB ?_ (by omega) | refine OA.advB ?_)⟩
 clear hF ho g0 hps hpl e s1 sc q120 q120' q122 q121
 rintro ⟨e, ds, s1⟩ ⟨k12, rfl, hF, ho⟩
 simp only [Fs] at hF ho
 obtain ⟨WN, hWN⟩ : ∃ WN, CS.foldl wV W = WN := ⟨_, rfl⟩
 refine Wc.seqA (fun y => y.ds = [] ∧ Fs y.e 140 [(1, .v (.c (.ref 0 0))), (2, .v (.c (.ref 1 0))), (4, P' (pI x.bs.length)), (5, .v (.c (.ref k5 0))), (12, .v (.c (.ref k12 0)))] ∧ OA y.s.nx y.s [] ((k12, .cells [.p (.str WN.1), .p (pI WN.2)] false) :: (k7, .cells xs false) :: (k5, .cells [.p (pI x.bs.length), .p (pI b0.ft), .p (pI bl.lt), .p (pI (x.bs.foldl (fun m y => minI m y.mn) b0.mn)), .p (pI (x.bs.foldl (fun m y => maxI m y.mx) b0.mx)), .p (.int .u32 0), .p (.int .u32 0), .p (.int .u32 0), .p (.int .u32 0), .p (.int .u32 0), .p (.int .u32 0), .p (.int .u32 0), .p (.int .u32 0)] false) :: [(1, .cells ([.p (pI 0), .nils] ++ zz0.map .p ++ [.p (.str [])]) false), (0, .cells (x.pd.map .p) false)])) ?_ ?_
 ·refine gS fun K F => ?_; simp only [go_sem, nZ, hF]; apply F; clear F K
  refine Wc.block (Wc.loop (fun q y => ∃ (j : Nat) (w : List UInt8 × Int), q = 9 - j ∧ (j ≤ 9 ∧ w = (CS.take j).foldl wV W ∧ w.1.length ≤ 41000 * (j + 1)) ∧ y.ds = [] ∧ Fs y.e 140 [(1, .v (.c (.ref 0 0))), (2, .v (.c (.ref 1 0))), (4, P' (pI x.bs.length)), (5, .v (.c (.ref k5 0))), (7, .v (.c (.mt k7 0 9 1))), (12, .v (.c (.ref k12 0))), (13, P' (pI j))] ∧ OA y.s.nx y.s ([] ++ en xs CS) ((k12, .cells [.p (.str w.1), .p (pI w.2)] false) :: (k7, .cells xs false) :: (k5, .cells [.p (pI x.bs.length), .p (pI b0.ft), .p (pI bl.lt), .p (pI (x.bs.foldl (fun m y => minI m y.mn) b0.mn)), .p (pI (x.bs.foldl (fun m y => maxI m y.mx) b0.mx)), .p (.int .u32 0), .p (.int .u32 0), .p (.int .u32 0), .p (.int .u32 0), .p (.int .u32 0), .p (.int .u32 0), .p (.int .u32 0), .p (.int .u32 0)] false) :: [(1, .cells ([.p (pI 0), .nils] ++ zz0.map .p ++ [.p (.str [])]) false), (0, .cells (x.pd.map .p) false)])) ?_ (k := 9) ⟨0, W, rfl, ⟨by omega, rfl, by omega⟩, rfl, by simp only [Fs, nZ, go_sem, nZ, hF], by (try simp only [St.nx_put, St.nx_adv]); repeat (first | exact OA.mono ho (by omega) | refine OA.newB ?_ (by omega) rfl | refine OA.advB ?_)⟩)
  clear hF ho e s1
  rintro q ⟨e, ds, s1⟩ ⟨j, w, rfl, ⟨hj, hw1, hw2⟩, rfl, hF, ho⟩
  simp only [Fs] at hF ho
  refine Wc.seq (Wc.seq ?_)
  refine gR fun K F => ?_; simp only [go_sem, nZ, hF]; apply F; clear F K
  refine Wc.cond (t := decide ((j : Int) < 9)) (by simp only [go_sem, nZ, hF]) (fun hc => ?_) (fun hc => ?_)
  ·have hjl : j < 9 := by have := of_decide_eq_true hc; omega
   obtain ⟨c, hcx⟩ : ∃ c, xs[j]? = some c := ⟨xs[j], List.getElem?_eq_getElem (by omega)⟩
   obtain ⟨l, hcw⟩ : ∃ l, CS[j]? = some l := ⟨CS[j], List.getElem?_eq_getElem (by omega)⟩
   have hlm := List.mem_of_getElem? hcw
   have hi7 := ixM ti176 rfl ti175 (r := k7) (off := 0) (j := j) (m := 9) (es := 1) hjl rfl
   have hdx : xs.drop j = c :: xs.drop (j + 1) := by
    obtain ⟨a1, a2⟩ := List.getElem?_eq_some_iff.1 hcx
    rw [List.drop_eq_getElem_cons a1, a2]
   have hj0 : (j ≤ 9) = True := by simp; omega
   have hj1 : (j + 1 ≤ 9) = True := by simp; omega
   have g7 := ho.at_ (k7, .cells xs false) (by simp)
   have g12 := ho.at_ (k12, .cells [.p (.str w.1), .p (pI w.2)] false) (by simp)
   have hpc := ho.purK hcx hcw
   have hpl : plainC c = true := by
    have h2 := ho
    rw [en_at hcx hcw] at h2
    exact (h2.own (1, .v (.c c), l.length, l.map pI) (by simp)).plain
   have q123 := pf123 w l (by omega) (by have := hCm l hlm; omega)
   refine Wc.skip (Wc.seq (Wc.block ?_))
   refine Wc.regT fun K F => ?_; simp only [go_sem, nZ, hF, hi7, g7, g12, hdx, hxs, hj0, hj1]
   refine wpCall.pf q123 (by kernel_rfl) (by kernel_rfl) rfl (purVs_wc hpc) ?_
   simp only [go_sem, nZ, hF, o123, x123, plainD, plainV, plC, hpl, List.all_cons, List.all_nil, Option.isNone_none, g12]; refine ⟨by rw [trOK_eq3]; rfl, F _ _ ?_⟩; clear F K
   have h5 := fun n m => OA.set (M1 := []) (o' := .cells [.p (.str (wV w l).1), .p (pI (wV w l).2)] false) (OA.adv (n := m) (OA.adv (n := n) ho)) rfl
   refine gR fun K F => ?_; simp only [go_sem, nZ, hF, i64n j (by omega)]; apply F; clear F K
   refine ⟨9 - (j + 1), by omega, j + 1, wV w l, rfl, ⟨by omega, ?_, ?_⟩, rfl, by simp only [Fs, nZ, go_sem, nZ, hF], OA.mono (h5 _ _).adv (by simp only [St.nx_put, St.nx_adv]; omega)⟩
   ·rw [take_snoc hcw, List.foldl_append, ← hw1]; rfl
   ·have := partW_len w (encV l).1 (encV l).2 (by have := hEV l hlm; omega)
    have := hEV l hlm
    unfold wV
    omega
  ·have hjl : j = 9 := by have := of_decide_eq_false hc; omega
   subst hjl
   rw [List.take_of_length_le (by omega), hWN] at hw1
   subst hw1
   exact Wc.exit ⟨rfl, rfl, by simp only [Fs, nZ, go_sem, nZ, hF], (by (try simp only [St.nx_put, St.nx_adv]); repeat (first | exact OA.mono ho (by omega) | refine OA.newB ?_ (by omega) rfl | refine OA.advB ?_) : OA _ _ ([] ++ en xs CS) _).sub (List.nil_sublist _) (List.Sublist.refl _)⟩
 clear hF ho e s1
 rintro ⟨e, ds, s1⟩ ⟨rfl, hF, ho⟩
 simp only [Fs] at hF ho
 have g0 := ho.at_ (0, .cells (x.pd.map .p) false) (by simp)
 have g1 := ho.at_ (1, .cells ([.p (pI 0), .nils] ++ zz0.map .p ++ [.p (.str [])]) false) (by simp)
 have g5 := ho.at_ (k5, .cells [.p (pI x.bs.length), .p (pI b0.ft), .p (pI bl.lt), .p (pI (x.bs.foldl (fun m y => minI m y.mn) b0.mn)), .p (pI (x.bs.foldl (fun m y => maxI m y.mx) b0.mx)), .p (.int .u32 0), .p (.int .u32 0), .p (.int .u32 0), .p (.int .u32 0), .p (.int .u32 0), .p (.int .u32 0), .p (.int .u32 0), .p (.int .u32 0)] false) (by simp)
 have g12 := ho.at_ (k12, .cells [.p (.str WN.1), .p (pI WN.2)] false) (by simp)
 simp only [List.map_cons, List.map_nil, List.cons_append, List.nil_append] at g0 g1
 have q124 := pf124 WN 6 x.lb.length (x.lb.flatMap lbP) (pI x.bs.length) (pI b0.ft) (pI bl.lt) (pI (x.bs.foldl (fun m y => minI m y.mn) b0.mn)) (pI (x.bs.foldl (fun m y => maxI m y.mx) b0.mx)) (.int .u32 0) (.int .u32 0) (.int .u32 0) (.int .u32 0) (.int .u32 0) (.int .u32 0) (.int .u32 0) (.int .u32 0)
 rw [hZ, ← encC_w (w := WN) (by omega) hall (hfold WN hWN.symm)]
 refine Wc.seq ?_
 by_cases hb : WN.2 ≠ 0 ∨ 262144 < WN.1.length
 ·rw [if_pos hb] at q124 ⊢
  refine gR fun K F => ?_; simp only [go_sem, nZ, hF, g0, g1, g5, g12]
  refine gP (q124) (by kernel_rfl) (by kernel_rfl) rfl rfl ?_
  simp only [go_sem, nZ, hF, g1]; apply F; clear F K
  exact Wc.ret (Pf.ret [.cell 2 96, .tmp 3] [.agg ([.p (pI 0), .p (.lst 0 [])] ++ zz0.map .p ++ [.p (.str [])]), .c (.p (pI 4))] rfl rfl (by simp only [resultsD, go_sem, nZ, hF]) rfl)
 ·rw [if_neg hb] at q124 ⊢
  refine gR fun K F => ?_; simp only [go_sem, nZ, hF, g0, g1, g5, g12]
  refine gP (q124) (by kernel_rfl) (by kernel_rfl) rfl rfl ?_
  simp only [go_sem, nZ, hF, g1]; apply F; clear F K
  exact Wc.ret (Pf.ret [.cell 2 96, .tmp 3] [.agg [.p (pI 6), .p (.lst x.lb.length (x.lb.flatMap lbP)), .p (pI x.bs.length), .p (pI b0.ft), .p (pI bl.lt), .p (pI (x.bs.foldl (fun m y => minI m y.mn) b0.mn)), .p (pI (x.bs.foldl (fun m y => maxI m y.mx) b0.mx)), .p (.int .u32 0), .p (.int .u32 0), .p (.int .u32 0), .p (.int .u32 0), .p (.int .u32 0), .p (.int .u32 0), .p (.int .u32 0), .p (.int .u32 0), .p (.str WN.1)], .c (.p (pI 0))] rfl rfl (by simp only [resultsD, go_sem, nZ, hF]) rfl)
end Go.Proofs.YtedcnhbblgmdnaaGreat.Ab
