/- A part of the proof. -/
import Derived.Test.YtedcnhbblgmdnaaGreatT24
import Derived.Test.YtedcnhbblgmdnaaGreatT28
namespace Go.Proofs.YtedcnhbblgmdnaaGreat.Ab
set_option maxHeartbeats 8000000
set_option maxRecDepth 10000
set_option linter.unusedSimpArgs false
set_option linter.unusedVariables false
def rsOK (w : Int) : Option (List Lb) → List Rlp → Bool
 | _, [] => true
 | none, r :: t => ((r.w == w) && rlpOK r) && rsOK w (some r.lb) t
 | some q, r :: t => ((r.w == w) && rlpOK r) && (!decide (0 ≤ cmpL q r.lb) && rsOK w (some r.lb) t)
def setOK (x : RSet) : Bool := !(decide (x.w < 1) || (decide (1099511627776 < x.w) || (decide (x.fr < 0) || decide (1099511627776 < x.fr)))) && rsOK x.w none x.rs
def prevR (l : List Rlp) (i : Nat) : Option (List Lb) := if i = 0 then none else (l[i - 1]?).map (·.lb)
def cmpQ (q : Option Rlp) (c : Rlp) : Int := (q.map fun q => cmpL q.lb c.lb).getD (-1)
theorem rsOK_step {w : Int} {l : List Rlp} {i : Nat} {c : Rlp} (h : l[i]? = some c) : rsOK w (prevR l i) (l.drop i) = (((c.w == w) && rlpOK c) && (!(decide (0 < i) && decide (0 ≤ cmpQ (l[i - 1]?) c)) && rsOK w (prevR l (i + 1)) (l.drop (i + 1)))) := by
 obtain ⟨h1, h2⟩ := List.getElem?_eq_some_iff.1 h
 have hp : prevR l (i + 1) = some c.lb := by simp [prevR, h]
 rw [List.drop_eq_getElem_cons h1, h2, hp]
 by_cases h0 : i = 0
 ·subst h0
  simp [prevR, rsOK]
 ·have hq2 : l[i - 1]? = some l[i - 1] := List.getElem?_eq_getElem (by omega)
  have hq : prevR l i = some (l[i - 1]).lb := by rw [prevR, if_neg h0, hq2]; rfl
  rw [hq, hq2, rsOK, decide_eq_true (show 0 < i by omega), Bool.true_and]
  rfl
theorem rsOK_mem {w : Int} : ∀ {l : List Rlp} {p : Option (List Lb)}, rsOK w p l = true → ∀ r ∈ l, r.w = w ∧ rlpOK r = true
 | [], _, _ => fun r hr => by cases hr
 | a :: t, none, h => by
  simp only [rsOK, Bool.and_eq_true, beq_iff_eq] at h
  intro r hr
  rcases List.mem_cons.1 hr with rfl | hr
  ·exact h.1
  ·exact rsOK_mem h.2 r hr
 | a :: t, some q, h => by
  simp only [rsOK, Bool.and_eq_true, beq_iff_eq] at h
  intro r hr
  rcases List.mem_cons.1 hr with rfl | hr
  ·exact h.1
  ·exact rsOK_mem h.2.2 r hr
theorem pf62 (x : RSet) (hl : x.rs.length < 2^40) (hz : ∀ r ∈ x.rs, Rz r) : Pf E0 62 [.agg (x.pd.map .p)] (P' (.bool (setOK x))) := by
 have hfl := fRl x.rs
 generalize hR : setOK x = R
 unfold setOK at hR
 refine Pf.body (fn := Tryz.f62) (by kernel_rfl) rfl ?_; simp only [List.map_cons, List.map_nil, List.cons_append, List.nil_append, List.length_cons, List.length_nil, Tryz.ntmps62, List.replicate, Nat.reduceSub, Nat.reduceAdd]
 refine gS fun K F => ?_; simp only [go_sem, nZ]; apply F; clear F K
 refine Wc.seq (Wc.seq ?_)
 rcases Bool.eq_false_or_eq_true (decide (x.w < 1)) with a1 | a1
 ·refine gR fun K F => ?_; simp only [go_sem, nZ, a1]; apply F; clear F K
  refine gT (by simp only [go_sem, nZ, a1]) ?_
  refine gS fun K F => ?_; simp only [go_sem, nZ]; apply F; clear F K
  obtain rfl : R = false := by rw [← hR]; simp only [a1, gB, cond_true, cond_false]
  exact Wc.ret (Pf.ret [.tmp 2] [.c (.p (.bool false))] rfl rfl (by simp only [resultsD, go_sem, nZ]) rfl)
 rcases Bool.eq_false_or_eq_true (decide (1099511627776 < x.w)) with a2 | a2
 ·refine gR fun K F => ?_; simp only [go_sem, nZ, a1, a2]; apply F; clear F K
  refine gT (by simp only [go_sem, nZ, a1, a2]) ?_
  refine gS fun K F => ?_; simp only [go_sem, nZ]; apply F; clear F K
  obtain rfl : R = false := by rw [← hR]; simp only [a1, a2, gB, cond_true, cond_false]
  exact Wc.ret (Pf.ret [.tmp 2] [.c (.p (.bool false))] rfl rfl (by simp only [resultsD, go_sem, nZ]) rfl)
 rcases Bool.eq_false_or_eq_true (decide (x.fr < 0)) with a3 | a3
 ·refine gR fun K F => ?_; simp only [go_sem, nZ, a1, a2, a3]; apply F; clear F K
  refine gT (by simp only [go_sem, nZ, a1, a2, a3]) ?_
  refine gS fun K F => ?_; simp only [go_sem, nZ]; apply F; clear F K
  obtain rfl : R = false := by rw [← hR]; simp only [a1, a2, a3, gB, cond_true, cond_false]
  exact Wc.ret (Pf.ret [.tmp 2] [.c (.p (.bool false))] rfl rfl (by simp only [resultsD, go_sem, nZ]) rfl)
 rcases Bool.eq_false_or_eq_true (decide (1099511627776 < x.fr)) with a4 | a4
 ·refine gR fun K F => ?_; simp only [go_sem, nZ, a1, a2, a3, a4]; apply F; clear F K
  refine gT (by simp only [go_sem, nZ, a1, a2, a3, a4]) ?_
  refine gS fun K F => ?_; simp only [go_sem, nZ]; apply F; clear F K
  obtain rfl : R = false := by rw [← hR]; simp only [a1, a2, a3, a4, gB, cond_true, cond_false]
  exact Wc.ret (Pf.ret [.tmp 2] [.c (.p (.bool false))] rfl rfl (by simp only [resultsD, go_sem, nZ]) rfl)
 refine gR fun K F => ?_; simp only [go_sem, nZ, a1, a2, a3, a4]; apply F; clear F K
 refine gF (by simp only [go_sem, nZ, a1, a2, a3, a4]) ?_
 simp only [a1, a2, a3, a4, gB, cond_true, cond_false] at hR
 have hR0 : rsOK x.w (prevR x.rs 0) (x.rs.drop 0) = R := hR
 refine Wc.seqR (fun y => R = true ∧ y.ds = [] ∧ Fs y.e 57 []) ?_ ?_
 ·refine gS fun K F => ?_; simp only [go_sem, nZ]; apply F; clear F K
  refine Wc.block (Wc.loop (fun k y => ∃ i : Nat, k = x.rs.length - i ∧ (i ≤ x.rs.length ∧ rsOK x.w (prevR x.rs i) (x.rs.drop i) = R) ∧ y.ds = [] ∧ Fs y.e 57 [(1, .v (.c (.ref 0 0))), (24, P' (.lst x.rs.length (x.rs.flatMap Rlp.pd))), (25, P' (pI x.rs.length)), (26, P' (pI i))] ∧ OA y.s.nx y.s [] [(0, .cells (x.pd.map .p) false)]) ?_ (k := x.rs.length) ⟨0, rfl, ⟨by omega, hR0⟩, rfl, by simp only [Fs, nZ, go_sem, nZ], by (try simp only [St.nx_put, St.nx_adv]); repeat (first | exact OA.mono s00_oa (by omega) | refine OA.newB ?_ (by omega) rfl | refine OA.advB ?_)⟩)
  clear hR hR0 a1 a2 a3 a4
  rintro k ⟨e, ds, s1⟩ ⟨i, rfl, ⟨hi, hR⟩, rfl, hF, ho⟩
  simp only [Fs] at hF ho
  refine gS fun K F => ?_; simp only [go_sem, nZ, hF]; apply F; clear F K
  refine Wc.seq ?_
  refine Wc.cond (t := decide ((i : Int) < x.rs.length)) (by simp only [go_sem, nZ, hF]) (fun hc => ?_) (fun hc => ?_)
  ·have hil : i < x.rs.length := by have := of_decide_eq_true hc; omega
   obtain ⟨c, hcc⟩ : ∃ c, x.rs[i]? = some c := ⟨x.rs[i], List.getElem?_eq_getElem hil⟩
   have zc := hz c (List.mem_of_getElem? hcc)
   rw [rsOK_step hcc] at hR
   have hix := ixA ti60 rfl ti31 (j := i) (m := x.rs.length) (cs := x.rs.flatMap Rlp.pd) hil hfl (by decide)
   have hca := rpRl hcc
   have p19 := pf19 c zc.lb zc.ls
   unfold chkR at p19
   refine Wc.skip (Wc.seq (Wc.block (Wc.seqA (fun y => ∃ k4, y.ds = [] ∧ Fs y.e 57 [(1, .v (.c (.ref 0 0))), (24, P' (.lst x.rs.length (x.rs.flatMap Rlp.pd))), (25, P' (pI x.rs.length)), (26, P' (pI i)), (3, P' (pI i)), (4, .v (.c (.ref k4 0)))] ∧ OA y.s.nx y.s [] [(k4, .cells (c.pd.map .p) false), (0, .cells (x.pd.map .p) false)]) ?_ ?_)))
   ·refine gR fun K F => ?_; simp only [go_sem, nZ, hF, hix, hca]; apply F; clear F K
    exact ⟨rfl, s1.nx + 4, rfl, by simp only [Fs, nZ, go_sem, nZ, hF], by (try simp only [St.put_adv, St.adv_adv, St.put_put, St.nx_put, St.nx_adv]); repeat (first | exact OA.mono ho (by omega) | refine OA.newB ?_ (by omega) rfl | refine OA.putB ?_ (by omega) | refine OA.advB ?_)⟩
   clear hF ho e s1
   rintro ⟨e, ds, s1⟩ ⟨k4, rfl, hF, ho⟩
   simp only [Fs] at hF ho
   have g0 := ho.at_ (0, .cells (x.pd.map .p) false) (by simp)
   have g4 := ho.at_ (k4, .cells (c.pd.map .p) false) (by simp)
   simp only [List.map_cons, List.map_nil] at g0 g4
   refine Wc.seq (Wc.seq ?_)
   rcases Bool.eq_false_or_eq_true (c.w != x.w) with k1 | k1
   ·have k2 : (c.w == x.w) = false := by simpa using k1
    rw [k2, Bool.false_and, Bool.false_and] at hR
    subst hR
    refine gR fun K F => ?_; simp only [go_sem, nZ, hF, g0, g4, k1]; apply F; clear F K
    refine gT (by simp only [go_sem, nZ, hF, k1]) ?_
    refine gS fun K F => ?_; simp only [go_sem, nZ, hF]; apply F; clear F K
    exact Wc.ret (Pf.ret [.tmp 2] [.c (.p (.bool false))] rfl rfl (by simp only [resultsD, go_sem, nZ, hF]) rfl)
   have k2 : (c.w == x.w) = true := by simpa using k1
   rw [k2, Bool.true_and] at hR
   cases hok : rlpOK c with
   | false =>
    rw [hok, Bool.false_and] at hR
    subst hR
    rw [hok, if_neg (by decide)] at p19
    refine gR fun K F => ?_; simp only [go_sem, nZ, hF, g0, g4, k1]
    refine gP (p19) (by kernel_rfl) (by kernel_rfl) rfl rfl ?_
    simp only [go_sem, nZ, hF, k1, b10]; apply F; clear F K
    refine gT (by simp only [go_sem, nZ, hF, k1, b10]) ?_
    refine gS fun K F => ?_; simp only [go_sem, nZ, hF]; apply F; clear F K
    exact Wc.ret (Pf.ret [.tmp 2] [.c (.p (.bool false))] rfl rfl (by simp only [resultsD, go_sem, nZ, hF]) rfl)
   | true =>
   rw [hok, Bool.true_and] at hR
   rw [hok, if_pos rfl] at p19
   refine gR fun K F => ?_; simp only [go_sem, nZ, hF, g0, g4, k1]
   refine gP (p19) (by kernel_rfl) (by kernel_rfl) rfl rfl ?_
   simp only [go_sem, nZ, hF, k1, b00]; apply F; clear F K
   refine gF (by simp only [go_sem, nZ, hF, k1, b00]) ?_
   refine Wc.cutR (fun y => rsOK x.w (prevR x.rs (i + 1)) (x.rs.drop (i + 1)) = R ∧ y.ds = [] ∧ Fs y.e 57 [(1, .v (.c (.ref 0 0))), (24, P' (.lst x.rs.length (x.rs.flatMap Rlp.pd))), (25, P' (pI x.rs.length)), (26, P' (pI i))] ∧ OA y.s.nx y.s [] [(0, .cells (x.pd.map .p) false)]) ?_ ?_
   ·by_cases h0 : i = 0
    ·have hh : ((0 : Int) < (i : Int)) = False := by simp; omega
     have hd : decide (0 < i) = false := by simp; omega
     simp only [hd, gB, cond_true, cond_false] at hR
     refine Wc.seq ?_
     refine Wc.regT fun K F => ?_
     simp only [go_sem, nZ, hF, hh]
     refine ⟨by rw [trOK_eq3]; rfl, F _ _ ?_⟩
     clear F K
     refine gF (by simp only [go_sem, nZ, hF]) ?_
     exact ⟨hR, rfl, by simp only [Fs, nZ, go_sem, nZ, hF], by (try simp only [St.nx_put, St.nx_adv]); repeat (first | exact OA.mono (ho.sub (List.Sublist.refl _) (List.sublist_cons_self _ _)) (by omega) | refine OA.newB ?_ (by omega) rfl | refine OA.advB ?_)⟩
    ·have hh : ((0 : Int) < (i : Int)) = True := by simp; omega
     have hd : decide (0 < i) = true := by simp; omega
     obtain ⟨q, hq⟩ : ∃ q, x.rs[i - 1]? = some q := ⟨x.rs[i - 1], List.getElem?_eq_getElem (by omega)⟩
     have zq := hz q (List.mem_of_getElem? hq)
     have w1 : IntKind.i64.wrap ((i : Int) - 1) = ((i - 1 : Nat) : Int) := by rw [wi64]; omega
     have hiq := ixA ti60 rfl ti31 (j := i - 1) (m := x.rs.length) (cs := x.rs.flatMap Rlp.pd) (by omega) hfl (by decide)
     have hcq := rpRl hq
     have p52 := pf52 q.lb c.lb (by have := zq.lb; omega) (by have := zc.lb; omega)
     have hcp : cmpQ (x.rs[i - 1]?) c = cmpL q.lb c.lb := by rw [hq]; rfl
     rw [hcp] at hR
     generalize cmpL q.lb c.lb = V2 at hR p52
     simp only [hd, gB, cond_true, cond_false] at hR
     refine Wc.seq ?_
     refine Wc.regT fun K F => ?_
     simp only [go_sem, nZ, hF, hh, g0, g4, w1, hiq, hcq]
     refine gP (p52) (by kernel_rfl) (by kernel_rfl) rfl rfl ?_
     simp only [go_sem, nZ, hF, o52, x52]
     refine ⟨by rw [trOK_eq3]; rfl, F _ _ ?_⟩
     clear F K
     refine Wc.cond (t := decide (0 ≤ V2)) (by simp only [go_sem, nZ, hF]) (fun hc => ?_) (fun hc => ?_)
     ·simp only [hc, gB, cond_true, cond_false] at hR
      subst hR
      refine gS fun K F => ?_; simp only [go_sem, nZ, hF]; apply F; clear F K
      exact Wc.ret (Pf.ret [.tmp 2] [.c (.p (.bool false))] rfl rfl (by simp only [resultsD, go_sem, nZ, hF]) rfl)
     simp only [hc, gB, cond_true, cond_false] at hR
     exact Wc.skip ⟨hR, rfl, by simp only [Fs, nZ, go_sem, nZ, hF], by (try simp only [St.nx_put, St.nx_adv]); repeat (first | exact OA.mono (ho.sub (List.Sublist.refl _) (List.sublist_cons_self _ _)) (by omega) | refine OA.newB ?_ (by omega) rfl | refine OA.advB ?_)⟩
   clear hF ho g0 g4 e s1 hR
   rintro ⟨e, ds, s1⟩ ⟨hR, rfl, hF, ho⟩
   simp only [Fs] at hF ho
   refine gR fun K F => ?_; simp only [go_sem, nZ, hF, i64n i (by omega)]; apply F; clear F K
   exact ⟨x.rs.length - (i + 1), by omega, i + 1, rfl, ⟨by omega, hR⟩, rfl, by simp only [Fs, nZ, go_sem, nZ, hF], by (try simp only [St.nx_put, St.nx_adv]); repeat (first | exact OA.mono ho (by omega) | refine OA.newB ?_ (by omega) rfl | refine OA.advB ?_)⟩
  ·have hil : i = x.rs.length := by have := of_decide_eq_false hc; omega
   rw [hil, List.drop_length, rsOK] at hR
   exact Wc.exit ⟨hR.symm, rfl, by simp only [Fs, nZ, go_sem, nZ, hF]⟩
 rintro ⟨e, ds, s1⟩ ⟨rfl, rfl, hF⟩
 simp only [Fs] at hF
 refine gS fun K F => ?_; simp only [go_sem, nZ, hF]; apply F; clear F K
 exact Wc.ret (Pf.ret [.tmp 2] [.c (.p (.bool true))] rfl rfl (by simp only [resultsD, go_sem, nZ, hF]) rfl)
def encCk (r : Rlp) : Option Chk := (encLo r).map fun d => ⟨6, r.lb, (rlpZ r.bs).g, d⟩
def encAll : List Rlp → Option (List Chk)
 | [] => some []
 | r :: t => match encCk r with
  | none => none
  | some c => (encAll t).map (c :: ·)
def zBlk : Blk := ⟨0, 0, 0, []⟩
def blkE (x : RSet) (id : Int) : Int := if setOK x = false then 1 else match encAll x.rs with
 | none => 4
 | some cs => blkC ⟨id, x.w, x.fr, cs⟩
def blkB (x : RSet) (id : Int) : Blk := if blkE x id = 0 then (match encAll x.rs with
 | none => zBlk
 | some cs => ⟨id, x.w, x.fr, cs⟩) else zBlk
def resB (b : Blk) (e : Int) : D := .tup [.agg (b.pd.map .p), .c (.p (pI e))]
theorem encCk_z {r : Rlp} {c : Chk} (z : Rz r) (h : encCk r = some c) : Cz c := by
 unfold encCk at h
 cases he : encLo r with
 | none => rw [he] at h; cases h
 | some d =>
  rw [he] at h
  simp only [Option.map_some, Option.some.injEq] at h
  subst h
  obtain ⟨_, ss, _, _, hl⟩ := encLo_some he
  exact ⟨z.lb, z.ls, by simp only; omega⟩
theorem encAll_step {l : List Rlp} {i : Nat} {r : Rlp} {T : List Chk} {R : Option (List Chk)} (h : l[i]? = some r) (hR : (encAll (l.drop i)).map (T ++ ·) = R) : match encCk r with
  | none => R = none
  | some c => (encAll (l.drop (i + 1))).map ((T ++ [c]) ++ ·) = R := by
 obtain ⟨h1, h2⟩ := List.getElem?_eq_some_iff.1 h
 rw [List.drop_eq_getElem_cons h1, h2, encAll] at hR
 cases he : encCk r with
 | none => rw [he] at hR; exact hR.symm
 | some c =>
  rw [he] at hR
  simp only
  rw [← hR]
  cases encAll (l.drop (i + 1)) with
  | none => rfl
  | some z => simp
theorem purVs_blk {c : C} {y : Pd} (h : purS c = some y) (s : St) {p0 p1 p2 : Pd} : purVs s [.agg [.p p0, .p p1, .p p2, c]] = some ([.agg [.p p0, .p p1, .p p2, .p y]], s) := by
 simp only [purVs, purV, purCs, purC_p, purC_S h, List.map_cons, List.map_nil]
theorem b40 : ((4 : Int) != 0) = true := by decide
theorem pf31 (x : RSet) (id : Int) (hl : x.rs.length < 2^20) (hz : ∀ r ∈ x.rs, Rz r) : Pf E0 31 [.agg (x.pd.map .p), .c (.p (pI id))] (resB (blkB x id) (blkE x id)) := by
 have hfl := fRl x.rs
 have p62 := pf62 x (by omega) hz
 generalize hE : blkE x id = V
 generalize hB : blkB x id = B
 unfold blkB at hB
 rw [hE] at hB
 unfold blkE at hE
 refine Pf.body (fn := Tryz.f31) (by kernel_rfl) rfl ?_; simp only [List.map_cons, List.map_nil, List.cons_append, List.nil_append, List.length_cons, List.length_nil, Tryz.ntmps31, List.replicate, Nat.reduceSub, Nat.reduceAdd]
 refine gS fun K F => ?_; simp only [go_sem, nZ]; apply F; clear F K
 refine Wc.seq (Wc.seq ?_)
 cases hok : setOK x with
 | false =>
  rw [hok, if_pos rfl] at hE
  subst hE
  rw [if_neg (by decide)] at hB
  subst hB
  rw [hok] at p62
  refine gR fun K F => ?_; simp only [go_sem, nZ]
  refine gP (p62) (by kernel_rfl) (by kernel_rfl) rfl rfl ?_
  simp only [go_sem, nZ]; apply F; clear F K
  refine gT (by simp only [go_sem, nZ]) ?_
  refine gS fun K F => ?_; simp only [go_sem, nZ]; apply F; clear F K
  exact Wc.ret (Pf.ret [.cell 4 67, .tmp 5] [.agg [.p (pI 0), .p (pI 0), .p (pI 0), .nils], .c (.p (pI 1))] rfl rfl (by simp only [resultsD, go_sem, nZ]) rfl)
 | true =>
 rw [hok, if_neg (by decide)] at hE
 rw [hok] at p62
 have hmem : ∀ r ∈ x.rs, r.w = x.w ∧ rlpOK r = true := by
  unfold setOK at hok
  rw [Bool.and_eq_true] at hok
  exact rsOK_mem hok.2
 refine gR fun K F => ?_; simp only [go_sem, nZ]
 refine gP (p62) (by kernel_rfl) (by kernel_rfl) rfl rfl ?_
 simp only [go_sem, nZ]; apply F; clear F K
 refine gF (by simp only [go_sem, nZ]) ?_
 refine Wc.seqA (fun y => ∃ k6 xc, y.ds = [] ∧ Fs y.e 52 [(2, .v (.c (.ref 0 0))), (4, .v (.c (.ref 1 0))), (6, .v (.c (.ref k6 0)))] ∧ OA y.s.nx y.s [(16, .v (.c xc), 0, [])] [(k6, .cells [.p (pI id), .p (pI x.w), .p (pI x.fr), xc] false), (1, .cells [.p (pI 0), .p (pI 0), .p (pI 0), .nils] false), (0, .cells (x.pd.map .p) false)]) ?_ ?_
 ·refine gR fun K F => ?_; simp only [go_sem, nZ]; apply F; clear F K
  exact ⟨rfl, 12, .nils, rfl, by simp only [Fs, nZ, go_sem, nZ], OA.nil (by (try simp only [St.put_adv, St.adv_adv, St.put_put, St.nx_put, St.nx_adv]); repeat (first | exact OA.mono s00_oa (by omega) | refine OA.newB ?_ (by omega) rfl | refine OA.putB ?_ (by omega) | refine OA.advB ?_))⟩
 rintro ⟨e, ds, s1⟩ ⟨k6, xc, rfl, hF, ho⟩
 simp only [Fs] at hF ho
 have hR0 : (encAll (x.rs.drop 0)).map ([] ++ ·) = encAll x.rs := by simp
 generalize encAll x.rs = R at hR0 hE hB
 refine Wc.seqR (fun y => ∃ k6 xc T, (R = some T ∧ T.length ≤ x.rs.length ∧ ∀ c ∈ T, Cz c) ∧ y.ds = [] ∧ Fs y.e 52 [(2, .v (.c (.ref 0 0))), (4, .v (.c (.ref 1 0))), (6, .v (.c (.ref k6 0)))] ∧ OA y.s.nx y.s [(16, .v (.c xc), T.length, T.flatMap Chk.pd)] [(k6, .cells [.p (pI id), .p (pI x.w), .p (pI x.fr), xc] false), (1, .cells [.p (pI 0), .p (pI 0), .p (pI 0), .nils] false), (0, .cells (x.pd.map .p) false)]) ?_ ?_
 ·have g0 := ho.at_ (0, .cells (x.pd.map .p) false) (by simp)
  simp only [List.map_cons, List.map_nil] at g0
  refine gS fun K F => ?_; simp only [go_sem, nZ, hF, g0]; apply F; clear F K
  refine Wc.block (Wc.loop (fun k y => ∃ (i k6 : Nat) (xc : C) (T : List Chk), k = x.rs.length - i ∧ (i ≤ x.rs.length ∧ T.length = i ∧ (∀ c ∈ T, Cz c) ∧ (encAll (x.rs.drop i)).map (T ++ ·) = R) ∧ y.ds = [] ∧ Fs y.e 52 [(2, .v (.c (.ref 0 0))), (4, .v (.c (.ref 1 0))), (6, .v (.c (.ref k6 0))), (23, P' (.lst x.rs.length (x.rs.flatMap Rlp.pd))), (24, P' (pI x.rs.length)), (25, P' (pI i))] ∧ OA y.s.nx y.s [(16, .v (.c xc), T.length, T.flatMap Chk.pd)] [(k6, .cells [.p (pI id), .p (pI x.w), .p (pI x.fr), xc] false), (1, .cells [.p (pI 0), .p (pI 0), .p (pI 0), .nils] false), (0, .cells (x.pd.map .p) false)]) ?_ (k := x.rs.length) ⟨0, k6, xc, [], rfl, ⟨by omega, rfl, fun c hc => (by cases hc), hR0⟩, rfl, by simp only [Fs, nZ, go_sem, nZ, hF], by (try simp only [St.nx_put, St.nx_adv]); repeat (first | exact OA.mono ho (by omega) | refine OA.newB ?_ (by omega) rfl | refine OA.advB ?_)⟩)
  clear hF ho g0 e s1 hR0 xc k6
  rintro k ⟨e, ds, s1⟩ ⟨i, k6, xc, T, rfl, ⟨hi, hTl, hTz, hR⟩, rfl, hF, ho⟩
  simp only [Fs] at hF ho
  refine gS fun K F => ?_; simp only [go_sem, nZ, hF]; apply F; clear F K
  refine Wc.seq ?_
  refine Wc.cond (t := decide ((i : Int) < x.rs.length)) (by simp only [go_sem, nZ, hF]) (fun hc => ?_) (fun hc => ?_)
  ·have hil : i < x.rs.length := by have := of_decide_eq_true hc; omega
   obtain ⟨c, hcc⟩ : ∃ c, x.rs[i]? = some c := ⟨x.rs[i], List.getElem?_eq_getElem hil⟩
   have zc := hz c (List.mem_of_getElem? hcc)
   have okc := (hmem c (List.mem_of_getElem? hcc)).2
   have hR := encAll_step hcc hR
   have hix := ixA ti60 rfl ti31 (j := i) (m := x.rs.length) (cs := x.rs.flatMap Rlp.pd) hil hfl (by decide)
   have hca := rpRl hcc
   have p51 := pf51 c zc.lb zc.ls
   refine Wc.skip (Wc.seq (Wc.block (Wc.seqA (fun y => ∃ k8, y.ds = [] ∧ Fs y.e 52 [(2, .v (.c (.ref 0 0))), (4, .v (.c (.ref 1 0))), (6, .v (.c (.ref k6 0))), (23, P' (.lst x.rs.length (x.rs.flatMap Rlp.pd))), (24, P' (pI x.rs.length)), (25, P' (pI i)), (8, .v (.c (.ref k8 0)))] ∧ OA y.s.nx y.s [(16, .v (.c xc), T.length, T.flatMap Chk.pd)] ((k8, .cells (c.pd.map .p) false) :: [(k6, .cells [.p (pI id), .p (pI x.w), .p (pI x.fr), xc] false), (1, .cells [.p (pI 0), .p (pI 0), .p (pI 0), .nils] false), (0, .cells (x.pd.map .p) false)])) ?_ ?_)))
   ·refine gR fun K F => ?_; simp only [go_sem, nZ, hF, hix, hca]; apply F; clear F K
    exact ⟨rfl, s1.nx + 3, rfl, by simp only [Fs, nZ, go_sem, nZ, hF], by (try simp only [St.put_adv, St.adv_adv, St.put_put, St.nx_put, St.nx_adv]); repeat (first | exact OA.mono ho (by omega) | refine OA.newB ?_ (by omega) rfl | refine OA.putB ?_ (by omega) | refine OA.advB ?_)⟩
   clear hF ho e s1
   rintro ⟨e, ds, s1⟩ ⟨k8, rfl, hF, ho⟩
   simp only [Fs] at hF ho
   have g8 := ho.at_ (k8, .cells (c.pd.map .p) false) (by simp)
   have g1 := ho.at_ (1, .cells [.p (pI 0), .p (pI 0), .p (pI 0), .nils] false) (by simp)
   simp only [List.map_cons, List.map_nil] at g8
   have hen : encCk c = (encLo c).map fun d => ⟨6, c.lb, (rlpZ c.bs).g, d⟩ := rfl
   cases he : encLo c with
   | none =>
    rw [he, Option.map_none] at hen
    rw [hen] at hR
    simp only at hR
    subst hR
    rw [encR_none he, okc, if_pos rfl] at p51
    simp only at hE
    subst hE
    rw [if_neg (by decide)] at hB
    subst hB
    refine gS fun K F => ?_; simp only [go_sem, nZ, hF, g8]
    refine gP (p51) (by kernel_rfl) (by kernel_rfl) rfl rfl ?_
    simp only [go_sem, nZ, hF]; apply F; clear F K
    refine Wc.seq (Wc.seq ?_)
    refine gR fun K F => ?_; simp only [go_sem, nZ, hF, b40]; apply F; clear F K
    refine gT (by simp only [go_sem, nZ, hF, b40]) ?_
    refine gS fun K F => ?_; simp only [go_sem, nZ, hF, g1]; apply F; clear F K
    exact Wc.ret (Pf.ret [.cell 4 67, .tmp 5] [.agg [.p (pI 0), .p (pI 0), .p (pI 0), .nils], .c (.p (pI 4))] rfl rfl (by simp only [resultsD, go_sem, nZ, hF]) rfl)
   | some d =>
   rw [he, Option.map_some] at hen
   have zck := encCk_z zc hen
   rw [hen] at hR
   simp only at hR
   rw [encR_some he] at p51
   refine Wc.seqA (fun y => ∃ k9, y.ds = [] ∧ Fs y.e 52 [(2, .v (.c (.ref 0 0))), (4, .v (.c (.ref 1 0))), (6, .v (.c (.ref k6 0))), (23, P' (.lst x.rs.length (x.rs.flatMap Rlp.pd))), (24, P' (pI x.rs.length)), (25, P' (pI i)), (9, .v (.c (.ref k9 0))), (10, P' (pI 0))] ∧ OA y.s.nx y.s [(16, .v (.c xc), T.length, T.flatMap Chk.pd)] ((k9, .cells ((Chk.mk 6 c.lb (rlpZ c.bs).g d).pd.map .p) false) :: [(k6, .cells [.p (pI id), .p (pI x.w), .p (pI x.fr), xc] false), (1, .cells [.p (pI 0), .p (pI 0), .p (pI 0), .nils] false), (0, .cells (x.pd.map .p) false)])) ?_ ?_
   ·refine gR fun K F => ?_; simp only [go_sem, nZ, hF, g8]
    refine gP (p51) (by kernel_rfl) (by kernel_rfl) rfl rfl ?_
    simp only [go_sem, nZ, hF]; apply F; clear F K
    exact ⟨rfl, s1.nx + 5, rfl, by simp only [Fs, nZ, go_sem, nZ, hF], by (try simp only [St.put_adv, St.adv_adv, St.put_put, St.nx_put, St.nx_adv]); repeat (first | exact OA.mono (ho.sub (List.Sublist.refl _) (List.sublist_cons_self _ _)) (by omega) | refine OA.newB ?_ (by omega) rfl | refine OA.putB ?_ (by omega) | refine OA.advB ?_)⟩
   generalize Chk.mk 6 c.lb (rlpZ c.bs).g d = ck at *
   clear hF ho g8 g1 e s1 p51 hen
   rintro ⟨e, ds, s1⟩ ⟨k9, rfl, hF, ho⟩
   simp only [Fs] at hF ho
   have g9 := ho.at_ (k9, .cells (ck.pd.map .p) false) (by simp)
   have g6 := ho.at_ (k6, .cells [.p (pI id), .p (pI x.w), .p (pI x.fr), xc] false) (by simp)
   simp only [List.map_cons, List.map_nil] at g9
   refine Wc.seq (Wc.seq ?_)
   refine gR fun K F => ?_; simp only [go_sem, nZ, hF, b00]; apply F; clear F K
   refine gF (by simp only [go_sem, nZ, hF, b00]) ?_
   refine gR fun K F => ?_; simp only [go_sem, nZ, hF, g6, g9]
   refine OA.app (L1 := []) (L2 := []) (by_ := 120) (n := T.length) (m := 1) (ys := ck.pd) (cs := T.flatMap Chk.pd) (b := s1.nx + 6) (M := (k9, .cells (ck.pd.map .p) false) :: [(k6, .cells [.p (pI id), .p (pI x.w), .p (pI x.fr), xc] false), (1, .cells [.p (pI 0), .p (pI 0), .p (pI 0), .nils] false), (0, .cells (x.pd.map .p) false)]) ?_ (Nat.le_refl _) ⟨_, ti65, rfl⟩ ti96 rfl rfl rfl (by decide) (by decide) (by simp only [go_sem, nZ]) rfl (by omega) fun x' s3 hs hnx => ?_
   ·exact by (try simp only [St.nx_put, St.nx_adv]); repeat (first | exact OA.mono ho (by omega) | refine OA.newB ?_ (by omega) rfl | refine OA.putB ?_ (by omega) | refine OA.advB ?_)
   obtain ⟨xc', rfl⟩ := (hs.own _ (List.mem_cons_self ..)).v
   have g6' := hs.at_ (k6, .cells [.p (pI id), .p (pI x.w), .p (pI x.fr), xc] false) (by simp)
   simp only [go_sem, nZ, hF, g6']; apply F; clear F K
   have h5 := OA.set (M1 := []) (o' := .cells [.p (pI id), .p (pI x.w), .p (pI x.fr), xc'] false) (OA.sub (M1 := [(k6, .cells [.p (pI id), .p (pI x.w), .p (pI x.fr), xc] false), (1, .cells [.p (pI 0), .p (pI 0), .p (pI 0), .nils] false), (0, .cells (x.pd.map .p) false)]) hs (List.Sublist.refl _) (List.sublist_cons_self _ _)) rfl
   simp only [St.nx_put, St.nx_adv] at hnx
   refine gR fun K F => ?_; simp only [go_sem, nZ, hF, i64n i (by omega)]; apply F; clear F K
   refine ⟨x.rs.length - (i + 1), by omega, i + 1, k6, xc', T ++ [ck], rfl, ⟨by omega, by simp [hTl], fun c hc => ?_, hR⟩, rfl, by simp only [Fs, nZ, go_sem, nZ, hF], ?_⟩
   ·rcases List.mem_append.1 hc with hc | hc
    ·exact hTz c hc
    ·rw [List.mem_singleton.1 hc]; exact zck
   ·have e1 : (T ++ [ck]).length = T.length + 1 := by simp
    have e2 : (T ++ [ck]).flatMap Chk.pd = T.flatMap Chk.pd ++ ck.pd := by simp
    rw [e1, e2]
    exact OA.mono h5.adv (by simp only [St.nx_put, St.nx_adv]; omega)
  ·have hil : i = x.rs.length := by have := of_decide_eq_false hc; omega
   rw [hil, List.drop_length] at hR
   refine Wc.exit ⟨k6, xc, T, ⟨?_, by omega, hTz⟩, rfl, by simp only [Fs, nZ, go_sem, nZ, hF], by (try simp only [St.nx_put, St.nx_adv]); repeat (first | exact OA.mono ho (by omega) | refine OA.newB ?_ (by omega) rfl | refine OA.advB ?_)⟩
   rw [← hR]; simp [encAll]
 clear hF ho e s1 hR0 xc k6
 rintro ⟨e, ds, s1⟩ ⟨k6, xc, T, ⟨rfl, hTl, hTz⟩, rfl, hF, ho⟩
 simp only [Fs] at hF ho
 simp only at hE hB
 have p63 := pf63 ⟨id, x.w, x.fr, T⟩ (by simp only; omega) hTz
 rw [hE] at p63
 have hpu := (ho.own _ (List.mem_cons_self ..)).purS
 have g6 := ho.at_ (k6, .cells [.p (pI id), .p (pI x.w), .p (pI x.fr), xc] false) (by simp)
 have g1 := ho.at_ (1, .cells [.p (pI 0), .p (pI 0), .p (pI 0), .nils] false) (by simp)
 refine Wc.seq (Wc.seq ?_)
 refine gR fun K F => ?_; simp only [go_sem, nZ, hF, g6]
 refine wpCall.pf p63 (by kernel_rfl) (by kernel_rfl) rfl (purVs_blk hpu _) ?_
 simp only [go_sem, nZ, hF]; apply F; clear F K
 refine gS fun K F => ?_; simp only [go_sem, nZ, hF]; apply F; clear F K
 refine Wc.cond (t := V != 0) (by simp only [go_sem, nZ, hF]) (fun hc => ?_) (fun hc => ?_)
 ·rw [if_neg (by simpa using hc)] at hB
  subst hB
  refine gS fun K F => ?_; simp only [go_sem, nZ, hF, g1]; apply F; clear F K
  exact Wc.ret (Pf.ret [.cell 4 67, .tmp 5] [.agg [.p (pI 0), .p (pI 0), .p (pI 0), .nils], .c (.p (pI V))] rfl rfl (by simp only [resultsD, go_sem, nZ, hF]) rfl)
 have h0 : V = 0 := by simpa using hc
 subst h0
 rw [if_pos rfl] at hB
 subst hB
 refine Wc.skip (Wc.seq ?_)
 refine gR fun K F => ?_; simp only [go_sem, nZ, hF, g6, g1]; apply F; clear F K
 exact Wc.ret (Pf.ret [.cell 4 67, .tmp 5] [.agg [.p (pI id), .p (pI x.w), .p (pI x.fr), xc], .c (.p (pI 0))] rfl rfl (by simp only [resultsD, go_sem, nZ, hF]) (by simp only [packD, purD, purVs, purV, purCs, purC_S hpu, purC_p]; rfl))
set_option maxHeartbeats 8000000
set_option maxRecDepth 10000
set_option linter.unusedSimpArgs false
set_option linter.unusedVariables false
theorem flat_mapP {A : Type} (f : A → List Pd) : ∀ l : List A, l.flatMap (fun a => (f a).map C.p) = (l.flatMap f).map .p
 | [] => rfl
 | a :: r => by rw [List.flatMap_cons, List.flatMap_cons, List.map_append, flat_mapP f r]
def unpR {A : Type} (enc : A → List Pd) : Option (List A) → D
 | none => .tup [.c (.p (.lst 0 [])), .c (.p (.bool false))]
 | some l => .tup [.c (.p (.lst l.length (l.flatMap enc))), .c (.p (.bool true))]
theorem purD_cx {s s1 : St} {c : C} {y x : Pd} (h : purC s c = some (y, s1)) : purD s (.tup [.c c, .c (.p x)]) = some (.tup [.c (.p y), .c (.p x)], s1) := by
 have h0 : purC s1 (.p x) = some (x, s1) := rfl
 simp only [purD, purVs, purV, h, h0]
theorem purD_mt {A : Type} {enc : A → List Pd} {es : Nat} (hes : ∀ a, (enc a).length = es) {l : List A} {L : List (Nat × D × Nat × List Pd)} {M : List (Nat × Ob)} {c6 : C} {s : St} {x : Pd} (h : SlS (fun a => (enc a).map .p) es l L M c6 s) :
  ∃ s', purD s (.tup [.c c6, .c (.p x)]) = some (.tup [.c (.p (.lst l.length (l.flatMap enc))), .c (.p x)], s') := by
 rcases h with ⟨rfl, rfl | ⟨k, rfl⟩, h3⟩ | ⟨k, rfl, h2, h3⟩ | ⟨k, rfl, h2, rfl⟩
 ·exact ⟨s, rfl⟩
 ·exact ⟨s, rfl⟩
 ·have hg := h2.at_ (k, .cells (l.flatMap fun a => (enc a).map .p) false) (by simp)
  simp only [flat_mapP] at hg
  have hpc : purC s (.mt k 0 l.length es) = some (.lst l.length (l.flatMap enc), s.put k (.cells ((l.flatMap enc).map .p) true)) := by
   simp only [purC, hg, allM_purS, List.drop_zero, Nat.zero_add]
   have e : (l.flatMap enc).length = l.length * es := flatC_len hes l
   rw [if_pos (by omega), ← e, List.take_length]
  exact ⟨_, purD_cx hpc⟩
 ·have hg := h2.at_ (k, .grow es 0 [] false) (by simp)
  have hpc : purC s (.gs 0 k 0 0 es) = some (.lst 0 [], s.put k (.grow es 0 [] true)) := by
   simp only at hg
   simp only [purC, hg, allM]
   rw [if_pos ⟨trivial, trivial, by simp⟩]
   simp
  exact ⟨_, purD_cx hpc⟩
theorem bktU_r : bktU.map ColU.r = bktR := rfl
theorem pf202 (ss : List (List UInt8)) (hl : ss.length = 10) (hss : ∀ x ∈ ss, x.length < 2^40) : Pf E0 202 [.c (.p (.lst ss.length (ss.map .str))), .c (.p (.lst bktU.length (bktU.flatMap ColU.pd)))] (unpR Bkt.pd (unpk zB bktR ss)) := by
 refine Pf.body (fn := Tryz.f202) (by kernel_rfl) rfl ?_
 refine uw202 (L := []) (M := []) (z := zB) (cols := bktU) (ss := ss) s00_oa ⟨_, ti41, rfl⟩ (by decide) hl hss bktU_ok (fun _ => rfl) (fun h s' _ => ?_) (fun l h s' c6 hs => ?_)
 ·rw [bktU_r] at h; rw [h]; exact ⟨_, rfl⟩
 ·rw [bktU_r] at h; rw [h]; exact purD_mt (enc := Bkt.pd) (fun _ => rfl) hs
theorem splitN_len : ∀ {n : Nat} {s : List UInt8} {ss : List (List UInt8)}, splitN n s = some ss → ss.length = n
 | 0, s, ss, h => by
  rw [splitN] at h
  split at h
  ·cases h; rfl
  ·cases h
 | n + 1, s, ss, h => by
  rw [splitN] at h
  split at h
  ·cases h
  ·split at h
   ·cases h
   ·cases hr : splitN n (s.drop ((rdV s).2.1 + (rdV s).1.toNat)) with
    | none => rw [hr] at h; cases h
    | some r => rw [hr] at h; cases h; rw [List.length_cons, splitN_len hr]
theorem splitN_le : ∀ {n : Nat} {s : List UInt8} {ss : List (List UInt8)}, splitN n s = some ss → ∀ x ∈ ss, x.length ≤ s.length
 | 0, s, ss, h => by
  rw [splitN] at h
  split at h
  ·cases h; intro x hx; cases hx
  ·cases h
 | n + 1, s, ss, h => by
  rw [splitN] at h
  split at h
  ·cases h
  ·split at h
   ·cases h
   ·cases hr : splitN n (s.drop ((rdV s).2.1 + (rdV s).1.toNat)) with
    | none => rw [hr] at h; cases h
    | some r =>
     rw [hr] at h; cases h
     intro x hx
     rcases List.mem_cons.1 hx with rfl | hx
     ·simp; omega
     ·have := splitN_le hr x hx
      rw [List.length_drop] at this
      omega
def parL (o : Option Rlp) (D : D) : Prop := match o with
 | none => ∃ p0 p1 p2 p3 : Pd, D = .tup [.agg [.p p0, .p p1, .p p2, .p p3], .c (.p (.bool false))]
 | some x => D = .tup [.agg (x.pd.map .p), .c (.p (.bool true))]
theorem pf128 (c : Chk) (z : Cz c) : ∃ D, Pf E0 128 [.agg (c.pd.map .p)] D ∧ parL (parseL c.lb c.d) D := by
 refine Pf.bodyE (fn := Tryz.f128) (by kernel_rfl) rfl ?_; simp only [List.map_cons, List.map_nil, List.cons_append, List.nil_append, List.length_cons, List.length_nil, Tryz.ntmps128, List.replicate, Nat.reduceSub, Nat.reduceAdd]
 have hd := z.d
 have p200 := pf200 c.d
 obtain ⟨b1, b2, b3, b4⟩ := rdV_le c.d
 generalize hR : parseL c.lb c.d = R
 unfold parseL at hR
 generalize (rdV c.d).1 = kk at *
 generalize (rdV c.d).2.1 = sz at *
 generalize (rdV c.d).2.2 = er at *
 have c1 : ((sz : Int) ≤ (c.d.length : Int)) = True := by simp; omega
 refine gS fun K F => ?_; simp only [go_sem, nZ]; apply F; clear F K
 refine gS fun K F => ?_; simp only [go_sem, nZ]
 refine gP (p200) (by kernel_rfl) (by kernel_rfl) rfl rfl ?_
 simp only [go_sem, nZ]; apply F; clear F K
 refine Wc.seqR (fun y => ¬ (er ≠ 0 ∨ 262144 < c.d.length) ∧ y.ds = [] ∧ Fs y.e 70 [(1, .v (.c (.ref 0 0))), (2, .v (.c (.ref 1 0))), (4, P' (pI kk)), (5, P' (pI sz))] ∧ OA y.s.nx y.s [] [(1, .cells [.nils, .p (pI 0), .p (pI 0), .nils] false), (0, .cells (c.pd.map .p) false)]) ?_ ?_
 ·refine Wc.seq ?_
  by_cases he : er = 0
  ·have d0 : (er != 0) = false := by simpa using he
   refine gR fun K F => ?_; simp only [go_sem, nZ, d0]; apply F; clear F K
   refine Wc.cond (t := decide ((262144 : Int) < c.d.length)) (by simp only [go_sem, nZ]) (fun hc => ?_) (fun hc => ?_)
   ·have hbig : 262144 < c.d.length := by have := of_decide_eq_true hc; omega
    rw [if_pos (.inr hbig)] at hR
    subst hR
    refine gS fun K F => ?_; simp only [go_sem, nZ]; apply F; clear F K
    exact Wc.ret (Pf.retE [.cell 2 31, .tmp 3] [.agg [.nils, .p (pI 0), .p (pI 0), .nils], .c (.p (.bool false))] rfl rfl (by simp only [resultsD, go_sem, nZ]) rfl ⟨_, _, _, _, rfl⟩)
   ·have hbig : ¬ 262144 < c.d.length := by have := of_decide_eq_false hc; omega
    refine Wc.skip ⟨by rintro (h | h) <;> contradiction, rfl, by simp only [Fs, nZ, go_sem, nZ], by (try simp only [St.nx_put, St.nx_adv]); repeat (first | exact OA.mono s00_oa (by omega) | refine OA.newB ?_ (by omega) rfl | refine OA.advB ?_)⟩
  ·have d0 : (er != 0) = true := by simpa using he
   rw [if_pos (.inl he)] at hR
   subst hR
   refine gR fun K F => ?_; simp only [go_sem, nZ, d0]; apply F; clear F K
   refine gT (by simp only [go_sem, nZ]) ?_
   refine gS fun K F => ?_; simp only [go_sem, nZ]; apply F; clear F K
   exact Wc.ret (Pf.retE [.cell 2 31, .tmp 3] [.agg [.nils, .p (pI 0), .p (pI 0), .nils], .c (.p (.bool false))] rfl rfl (by simp only [resultsD, go_sem, nZ]) rfl ⟨_, _, _, _, rfl⟩)
 rintro ⟨e, ds, s1⟩ ⟨hgood, rfl, hF, ho⟩
 simp only [Fs] at hF ho
 rw [if_neg hgood] at hR
 have g1 := ho.at_ (1, .cells [.nils, .p (pI 0), .p (pI 0), .nils] false) (by simp)
 have g0 := ho.at_ (0, .cells (c.pd.map .p) false) (by simp)
 simp only [List.map_cons, List.map_nil] at g0
 have p200' := pf200 (c.d.drop sz)
 obtain ⟨e1, e2, e3, e4⟩ := rdV_le (c.d.drop sz)
 generalize (rdV (c.d.drop sz)).1 = kw at *
 generalize (rdV (c.d.drop sz)).2.1 = sw at *
 generalize (rdV (c.d.drop sz)).2.2 = er2 at *
 rw [List.length_drop] at e1
 refine gS fun K F => ?_; simp only [go_sem, nZ, hF, g0, c1, slice_from, Int.le_refl]
 refine gP (p200') (by kernel_rfl) (by kernel_rfl) rfl rfl ?_
 simp only [go_sem, nZ, hF]; apply F; clear F K
 refine Wc.seq (Wc.seq ?_)
 by_cases he2 : er2 = 0
 case neg =>
  have d0 : (er2 != 0) = true := by simpa using he2
  rw [if_pos he2] at hR
  subst hR
  refine gR fun K F => ?_; simp only [go_sem, nZ, hF, d0]; apply F; clear F K
  refine gT (by simp only [go_sem, nZ, hF, d0]) ?_
  refine gS fun K F => ?_; simp only [go_sem, nZ, hF, g1]; apply F; clear F K
  exact Wc.ret (Pf.retE [.cell 2 31, .tmp 3] [.agg [.nils, .p (pI 0), .p (pI 0), .nils], .c (.p (.bool false))] rfl rfl (by simp only [resultsD, go_sem, nZ, hF]) rfl ⟨_, _, _, _, rfl⟩)
 have d0 : (er2 != 0) = false := by simpa using he2
 rw [if_neg (by simpa using he2)] at hR
 refine gR fun K F => ?_; simp only [go_sem, nZ, hF, d0]; apply F; clear F K
 refine gF (by simp only [go_sem, nZ, hF, d0]) ?_
 refine gS fun K F => ?_; simp only [go_sem, nZ, hF]
 refine gP (pf99) (by kernel_rfl) (by kernel_rfl) rfl rfl ?_
 simp only [go_sem, nZ, hF]; apply F; clear F K
 have hsum : IntKind.i64.wrap ((sz : Int) + (sw : Int)) = ((sz + sw : Nat) : Int) := by rw [wi64]; omega
 have c2 : (((sz + sw : Nat) : Int) ≤ (c.d.length : Int)) = True := by simp; omega
 have c3 : ((0 : Int) ≤ ((sz + sw : Nat) : Int)) = True := by simp; omega
 have hdl : (c.d.drop (sz + sw)).length < 2^60 := by rw [List.length_drop]; omega
 have hbl : ((bktCols.length : Nat) : Int) = ((10 : Nat) : Int) := rfl
 obtain ⟨D9, p201, l, rfl, hl⟩ := pf201 (c.d.drop (sz + sw)) 10 hdl (by decide)
 refine gS fun K F => ?_; simp only [go_sem, nZ, hF, g0, hsum, c2, c3, slice_from, Int.le_refl]
 refine gP (p201) (by kernel_rfl) (by kernel_rfl) rfl rfl ?_
 simp only [go_sem, nZ, hF]; apply F; clear F K
 refine Wc.seq (Wc.seq ?_)
 cases hs : splitN 10 (c.d.drop (sz + sw)) with
 | none =>
  rw [hs] at hR
  simp only at hR
  subst hR
  refine gR fun K F => ?_; simp only [go_sem, nZ, hF, hs, Option.isSome_none]; apply F; clear F K
  refine gT (by simp only [go_sem, nZ, hF, hs, Option.isSome_none]) ?_
  refine gS fun K F => ?_; simp only [go_sem, nZ, hF, g1]; apply F; clear F K
  exact Wc.ret (Pf.retE [.cell 2 31, .tmp 3] [.agg [.nils, .p (pI 0), .p (pI 0), .nils], .c (.p (.bool false))] rfl rfl (by simp only [resultsD, go_sem, nZ, hF]) rfl ⟨_, _, _, _, rfl⟩)
 | some ss =>
 have hll := hl ss hs
 subst hll
 have hlen := splitN_len hs
 have hle := splitN_le hs
 rw [hs] at hR
 simp only at hR
 have p202 := pf202 l hlen (fun x hx => by have := hle x hx; rw [List.length_drop] at this; omega)
 refine gR fun K F => ?_; simp only [go_sem, nZ, hF, hs, Option.isSome_some]; apply F; clear F K
 refine gF (by simp only [go_sem, nZ, hF, hs, Option.isSome_some]) ?_
 cases hu : unpk zB bktR l with
 | none =>
  rw [hu] at hR p202
  simp only [Option.map_none] at hR
  subst hR
  simp only [unpR] at p202
  refine gS fun K F => ?_; simp only [go_sem, nZ, hF]
  refine gP (p202) (by kernel_rfl) (by kernel_rfl) rfl rfl ?_
  simp only [go_sem, nZ, hF]; apply F; clear F K
  refine gS fun K F => ?_; simp only [go_sem, nZ, hF, g0, g1]; apply F; clear F K
  exact Wc.ret (Pf.retE [.cell 2 31, .tmp 3] [.agg [.p (.lst c.lb.length (c.lb.flatMap lbP)), .p (pI kk), .p (pI kw), .p (.lst 0 [])], .c (.p (.bool false))] rfl rfl (by simp only [resultsD, go_sem, nZ, hF]) rfl ⟨_, _, _, _, rfl⟩)
 | some bs =>
  rw [hu] at hR p202
  simp only [Option.map_some] at hR
  subst hR
  simp only [unpR] at p202
  refine gS fun K F => ?_; simp only [go_sem, nZ, hF]
  refine gP (p202) (by kernel_rfl) (by kernel_rfl) rfl rfl ?_
  simp only [go_sem, nZ, hF]; apply F; clear F K
  refine gS fun K F => ?_; simp only [go_sem, nZ, hF, g0, g1]; apply F; clear F K
  exact Wc.ret (Pf.retE [.cell 2 31, .tmp 3] [.agg [.p (.lst c.lb.length (c.lb.flatMap lbP)), .p (pI kk), .p (pI kw), .p (.lst bs.length (bs.flatMap Bkt.pd))], .c (.p (.bool true))] rfl rfl (by simp only [resultsD, go_sem, nZ, hF]) rfl rfl)
theorem pf203 (l : List Lb) (hl : l.length < 2^60) : Pf E0 203 [.c (.p (.lst l.length (l.flatMap lbP))), .c (.p (.lst l.length (l.flatMap lbP)))] (P' (.bool true)) := by
 have hfl : (l.flatMap lbP).length = l.length * 2 := flat_len (k := 2) (fun _ => rfl) _
 have d0 : ((l.length : Int) != (l.length : Int)) = false := by simp
 refine Pf.body (fn := Tryz.f203) (by kernel_rfl) rfl ?_; simp only [List.map_cons, List.map_nil, List.cons_append, List.nil_append, List.length_cons, List.length_nil, Tryz.ntmps203, List.replicate, Nat.reduceSub, Nat.reduceAdd]
 refine gS fun K F => ?_; simp only [go_sem, nZ]; apply F; clear F K
 refine Wc.seq (Wc.seq ?_)
 refine gR fun K F => ?_; simp only [go_sem, nZ, d0]; apply F; clear F K
 refine gF (by simp only [go_sem, nZ, d0]) ?_
 refine Wc.seqR (fun y => y.ds = [] ∧ Fs y.e 26 []) ?_ ?_
 ·refine gS fun K F => ?_; simp only [go_sem, nZ]; apply F; clear F K
  refine Wc.block (Wc.loop (fun k y => ∃ i : Nat, k = l.length - i ∧ i ≤ l.length ∧ y.ds = [] ∧ Fs y.e 26 [(0, P' (.lst l.length (l.flatMap lbP))), (1, P' (.lst l.length (l.flatMap lbP))), (12, P' (pI l.length)), (13, P' (pI i))]) ?_ (k := l.length) ?_)
  ·rintro k ⟨e, ds, s1⟩ ⟨i, rfl, hi, rfl, hF⟩
   simp only [Fs] at hF
   refine gS fun K F => ?_; simp only [go_sem, nZ, hF]; apply F; clear F K
   refine Wc.seq (Wc.cond (t := decide ((i : Int) < l.length)) (by simp only [go_sem, nZ, hF]) (fun hc => ?_) (fun hc => ?_))
   ·have hil : i < l.length := by have : (i : Int) < l.length := by simpa using hc
                                  omega
    obtain ⟨x, hx⟩ : ∃ x, l[i]? = some x := ⟨l[i], List.getElem?_eq_getElem hil⟩
    have hix := ixA ti22 rfl ti117 (j := i) (m := l.length) (cs := l.flatMap lbP) hil hfl (by decide)
    have hca := rpA (off := i * 2) (drop_flat (f := lbP) (k := 2) (fun _ => rfl) hx) (by rw [hfl]; omega)
    refine Wc.skip (Wc.seq (Wc.block (Wc.seq ?_)))
    refine gR fun K F => ?_; simp only [go_sem, nZ, hF]; apply F; clear F K
    refine Wc.seq ?_
    refine Wc.regD fun K F => ?_; simp only [go_sem, nZ, hF, hix, hca, eqL, eqS]; apply F; clear F K
    refine gF (by simp only [go_sem, nZ, hF]) ?_
    refine gR fun K F => ?_; simp only [go_sem, nZ, hF, i64n i (by omega)]; apply F; clear F K
    exact ⟨l.length - (i + 1), by omega, i + 1, rfl, by omega, rfl, by simp only [Fs, nZ, go_sem, nZ, hF]⟩
   ·exact Wc.exit ⟨rfl, by simp only [Fs, nZ, go_sem, nZ, hF]⟩
  ·exact ⟨0, rfl, by omega, rfl, by simp only [Fs, nZ, go_sem, nZ]⟩
 rintro ⟨e, ds, s1⟩ ⟨rfl, hF⟩
 simp only [Fs] at hF
 refine gS fun K F => ?_; simp only [go_sem, nZ, hF]; apply F; clear F K
 exact Wc.ret (Pf.ret [.tmp 4] [.c (.p (.bool true))] rfl rfl (by simp only [resultsD, go_sem, nZ, hF]) rfl)
def zGe (a b : ZG) : Bool := (a.c == b.c) && ((a.t1 == b.t1) && ((a.t2 == b.t2) && ((a.v1 == b.v1) && ((a.v2 == b.v2) && ((a.b0 == b.b0) && ((a.b1 == b.b1) && ((a.b2 == b.b2) && ((a.b3 == b.b3) && ((a.b4 == b.b4) && ((a.b5 == b.b5) && ((a.b6 == b.b6) && (a.b7 == b.b7))))))))))))
theorem zGe_iff (a b : ZG) : zGe a b = true ↔ a = b := by
 obtain ⟨⟩ := a
 obtain ⟨⟩ := b
 simp [zGe]
theorem pf129 (a b : Chk) (hsg : a.sig = b.sig) (hlb : a.lb = b.lb) (hl : b.lb.length < 2^60) : Pf E0 129 [.agg (a.pd.map .p), .agg (b.pd.map .p)] (P' (.bool (decide (a.d = b.d ∧ a.z = b.z)))) := by
 obtain ⟨sg, lb, za, da⟩ := a
 obtain ⟨sg', lb', zb, db⟩ := b
 simp only at hsg hlb hl ⊢
 subst hsg hlb
 have p203 := pf203 lb hl
 refine Pf.body (fn := Tryz.f129) (by kernel_rfl) rfl ?_; simp only [List.map_cons, List.map_nil, List.cons_append, List.nil_append, List.length_cons, List.length_nil, Tryz.ntmps129, List.replicate, Nat.reduceSub, Nat.reduceAdd]
 refine gS fun K F => ?_; simp only [go_sem, nZ]; apply F; clear F K
 refine Wc.seq ?_
 cases hz : zGe za zb with
 | true =>
  have hz' := (zGe_iff za zb).1 hz
  subst hz'
  unfold zGe at hz
  have e : decide (da = db ∧ za = za) = (da == db) := by
   by_cases h : da = db <;> simp [h]
  rw [e]
  refine gR fun K F => ?_; simp only [go_sem, nZ]
  refine gP (p203) (by kernel_rfl) (by kernel_rfl) rfl rfl ?_
  simp only [go_sem, nZ, eqL, eqS, beq_self_eq_true, Bool.and_self]; apply F; clear F K
  exact Wc.ret (Pf.ret [.tmp 4] [.c (.p (.bool (da == db)))] rfl rfl (by simp only [resultsD, go_sem, nZ]) rfl)
 | false =>
  have hne : za ≠ zb := fun h => by rw [(zGe_iff za zb).2 h] at hz; cases hz
  unfold zGe at hz
  have e : decide (da = db ∧ za = zb) = false := by simp [hne]
  rw [e]
  refine gR fun K F => ?_; simp only [go_sem, nZ]
  refine gP (p203) (by kernel_rfl) (by kernel_rfl) rfl rfl ?_
  simp only [go_sem, nZ, eqL, eqS, hz]; apply F; clear F K
  exact Wc.ret (Pf.ret [.tmp 4] [.c (.p (.bool false))] rfl rfl (by simp only [resultsD, go_sem, nZ]) rfl)
def dcR (c : Chk) : Option Rlp := if c.sig = 6 then decL c.lb c.z c.d else none
def dcE (c : Chk) : Int := if c.sig = 6 then (if (decL c.lb c.z c.d).isSome then 0 else 12) else 8
def dcX (c : Chk) : Rlp := (dcR c).getD zR
theorem unpkG_len {A : Type} : ∀ (cs : List (ColR A)) (ss : List (List UInt8)) (l l' : List A), unpkG cs ss l = some l' → l'.length = l.length
 | [], ss, l, l', h => by
  unfold unpkG at h; cases h; rfl
 | c :: cs, [], l, l', h => by
  unfold unpkG at h; cases h; rfl
 | c :: cs, s :: ss, l, l', h => by
  unfold unpkG at h
  split at h
  ·cases h
  ·rename_i h1
   have h2 : (decF c.1 s).1.length = l.length := Decidable.not_not.1 fun hn => h1 (.inr hn)
   rw [unpkG_len cs ss _ l' h, List.length_zipWith, h2, Nat.min_self]
theorem unpk_len {A : Type} {z : A} {cs : List (ColR A)} {ss : List (List UInt8)} {l : List A} (h : unpk z cs ss = some l) : l.length ≤ 20001 := by
 cases cs with
 | nil => unfold unpk at h; cases h; simp
 | cons c cs =>
  cases ss with
  | nil => unfold unpk at h; cases h; simp
  | cons s ss =>
   simp only [unpk] at h
   split at h
   ·cases h
   ·rw [unpkG_len _ _ _ _ h, List.length_map]
    exact decF_len _ _
theorem parseL_z {c : Chk} {x : Rlp} (z : Cz c) (h : parseL c.lb c.d = some x) : Rz x ∧ x.lb = c.lb := by
 unfold parseL at h
 split at h
 ·cases h
 ·split at h
  ·cases h
  ·split at h
   ·cases h
   ·rename_i ss _
    cases hu : unpk zB bktR ss with
    | none => rw [hu] at h; cases h
    | some l =>
     rw [hu] at h; cases h
     have := unpk_len hu
     exact ⟨⟨z.lb, z.ls, by simp only; omega⟩, rfl⟩
theorem dcX_z {c : Chk} (z : Cz c) : Rz (dcX c) := by
 unfold dcX dcR
 split
 ·cases h : decL c.lb c.z c.d with
  | none => exact zR_z
  | some x =>
   unfold decL at h
   split at h
   ·cases h
   ·rename_i y hy
    split at h
    ·cases h; exact (parseL_z z hy).1
    ·cases h
 ·exact zR_z
theorem b14 : ∀ {n : Int}, n ≠ 0 → (n != 0) = true := fun h => by simpa using h
theorem pf69 (c : Chk) (z : Cz c) : Pf E0 69 [.agg (c.pd.map .p)] (resR (dcX c) (dcE c)) := by
 obtain ⟨D, p128, hpar⟩ := pf128 c z
 refine Pf.body (fn := Tryz.f69) (by kernel_rfl) rfl ?_; simp only [List.map_cons, List.map_nil, List.cons_append, List.nil_append, List.length_cons, List.length_nil, Tryz.ntmps69, List.replicate, Nat.reduceSub, Nat.reduceAdd]
 refine gS fun K F => ?_; simp only [go_sem, nZ]; apply F; clear F K
 refine Wc.seq (Wc.seq ?_)
 by_cases hs : c.sig = 6
 case neg =>
  have e1 : dcE c = 8 := by unfold dcE; rw [if_neg hs]
  have e2 : dcX c = zR := by unfold dcX dcR; rw [if_neg hs]; rfl
  have d0 : (c.sig != 6) = true := by simpa using hs
  rw [e1, e2]
  refine gR fun K F => ?_; simp only [go_sem, nZ, d0]; apply F; clear F K
  refine gT (by simp only [go_sem, nZ, d0]) ?_
  refine gS fun K F => ?_; simp only [go_sem, nZ]; apply F; clear F K
  exact Wc.ret (Pf.ret [.cell 2 31, .tmp 3] [.agg [.nils, .p (pI 0), .p (pI 0), .nils], .c (.p (pI 8))] rfl rfl (by simp only [resultsD, go_sem, nZ]) rfl)
 have d0 : (c.sig != 6) = false := by simpa using hs
 have e1 : dcE c = if (decL c.lb c.z c.d).isSome then 0 else 12 := by unfold dcE; rw [if_pos hs]
 have e2 : dcX c = (decL c.lb c.z c.d).getD zR := by unfold dcX dcR; rw [if_pos hs]
 rw [e1, e2]
 generalize hR : decL c.lb c.z c.d = R
 unfold decL at hR
 refine gR fun K F => ?_; simp only [go_sem, nZ, d0]; apply F; clear F K
 refine gF (by simp only [go_sem, nZ, d0]) ?_
 cases hp : parseL c.lb c.d with
 | none =>
  rw [hp] at hR hpar
  simp only at hR
  subst hR
  obtain ⟨q0, q1, q2, q3, rfl⟩ := hpar
  refine gS fun K F => ?_; simp only [go_sem, nZ]
  refine gP (p128) (by kernel_rfl) (by kernel_rfl) rfl rfl ?_
  simp only [go_sem, nZ]; apply F; clear F K
  refine Wc.seq (Wc.seq ?_)
  refine gR fun K F => ?_; simp only [go_sem, nZ]; apply F; clear F K
  refine gT (by simp only [go_sem, nZ]) ?_
  refine gS fun K F => ?_; simp only [go_sem, nZ]; apply F; clear F K
  exact Wc.ret (Pf.ret [.cell 2 31, .tmp 3] [.agg [.nils, .p (pI 0), .p (pI 0), .nils], .c (.p (pI 12))] rfl rfl (by simp only [resultsD, go_sem, nZ]) rfl)
 | some x =>
  obtain ⟨rz, hlb⟩ := parseL_z z hp
  rw [hp] at hR hpar
  simp only [parL] at hR hpar
  subst hpar
  have p51 := pf51 x rz.lb rz.ls
  refine gS fun K F => ?_; simp only [go_sem, nZ]
  refine gP (p128) (by kernel_rfl) (by kernel_rfl) rfl rfl ?_
  simp only [go_sem, nZ]; apply F; clear F K
  refine Wc.seq (Wc.seq ?_)
  refine gR fun K F => ?_; simp only [go_sem, nZ]; apply F; clear F K
  refine gF (by simp only [go_sem, nZ]) ?_
  cases he : encLo x with
  | none =>
   rw [encR_none he] at p51
   rw [he, if_neg (by rintro ⟨h, _⟩; cases h)] at hR
   subst hR
   have d1 : ((if rlpOK x = true then (4 : Int) else 1) != 0) = true := by split <;> decide
   generalize (if rlpOK x = true then (4 : Int) else 1) = er at *
   refine gS fun K F => ?_; simp only [go_sem, nZ]
   refine gP (p51) (by kernel_rfl) (by kernel_rfl) rfl rfl ?_
   simp only [go_sem, nZ]; apply F; clear F K
   refine Wc.seq (Wc.seq ?_)
   refine gR fun K F => ?_; simp only [go_sem, nZ, d1]; apply F; clear F K
   refine gT (by simp only [go_sem, nZ, d1]) ?_
   refine gS fun K F => ?_; simp only [go_sem, nZ]; apply F; clear F K
   exact Wc.ret (Pf.ret [.cell 2 31, .tmp 3] [.agg [.nils, .p (pI 0), .p (pI 0), .nils], .c (.p (pI 12))] rfl rfl (by simp only [resultsD, go_sem, nZ]) rfl)
  | some d' =>
   rw [encR_some he, hlb] at p51
   have p129 := pf129 ⟨6, c.lb, (rlpZ x.bs).g, d'⟩ c hs.symm rfl (by have := z.lb; omega)
   simp only at p129
   rw [he] at hR
   simp only [Option.some.injEq] at hR
   rw [← hlb] at p51 p129
   refine gS fun K F => ?_; simp only [go_sem, nZ]
   refine gP (p51) (by kernel_rfl) (by kernel_rfl) rfl rfl ?_
   simp only [go_sem, nZ]; apply F; clear F K
   refine Wc.seq (Wc.seq ?_)
   by_cases hsame : d' = c.d ∧ (rlpZ x.bs).g = c.z
   ·rw [if_pos hsame] at hR
    subst hR
    have e0 : decide (d' = c.d ∧ (rlpZ x.bs).g = c.z) = true := by simpa using hsame
    rw [e0] at p129
    refine gR fun K F => ?_; simp only [go_sem, nZ, b00]
    refine gP (p129) (by kernel_rfl) (by kernel_rfl) rfl rfl ?_
    simp only [go_sem, nZ, b00]; apply F; clear F K
    refine gF (by simp only [go_sem, nZ, b00]) ?_
    refine gS fun K F => ?_; simp only [go_sem, nZ]; apply F; clear F K
    exact Wc.ret (Pf.ret [.cell 2 31, .tmp 3] [.agg (x.pd.map .p), .c (.p (pI 0))] rfl rfl (by simp only [resultsD, go_sem, nZ]) rfl)
   ·rw [if_neg hsame] at hR
    subst hR
    have e0 : decide (d' = c.d ∧ (rlpZ x.bs).g = c.z) = false := by simpa using hsame
    rw [e0] at p129
    refine gR fun K F => ?_; simp only [go_sem, nZ, b00]
    refine gP (p129) (by kernel_rfl) (by kernel_rfl) rfl rfl ?_
    simp only [go_sem, nZ, b00]; apply F; clear F K
    refine gT (by simp only [go_sem, nZ, b00]) ?_
    refine gS fun K F => ?_; simp only [go_sem, nZ]; apply F; clear F K
    exact Wc.ret (Pf.ret [.cell 2 31, .tmp 3] [.agg [.nils, .p (pI 0), .p (pI 0), .nils], .c (.p (pI 12))] rfl rfl (by simp only [resultsD, go_sem, nZ]) rfl)
end Go.Proofs.YtedcnhbblgmdnaaGreat.Ab
