/- A part of the proof. -/
import Derived.Test.YtedcnhbblgmdnaaGreatT29
import Derived.Test.YtedcnhbblgmdnaaGreatT26
namespace Go.Proofs.YtedcnhbblgmdnaaGreat.Ab
set_option maxHeartbeats 8000000
set_option maxRecDepth 10000
set_option linter.unusedSimpArgs false
set_option linter.unusedVariables false
def dAllE : List Chk → Int
 | [] => 0
 | c :: t => if dcE c ≠ 0 then dcE c else dAllE t
theorem dAllE_step {l : List Chk} {i : Nat} {c : Chk} (h : l[i]? = some c) : dAllE (l.drop i) = if dcE c ≠ 0 then dcE c else dAllE (l.drop (i + 1)) := by
 obtain ⟨h1, h2⟩ := List.getElem?_eq_some_iff.1 h
 rw [List.drop_eq_getElem_cons h1, h2, dAllE]
def zRS : RSet := ⟨0, 0, []⟩
def ofbE (b : Blk) : Int := if blkC b ≠ 0 then 1 else if b.w = 0 then 8 else if dAllE b.cs ≠ 0 then dAllE b.cs else if (b.cs.map dcX).any (fun r => r.w != b.w) then 10 else 0
def ofbS (b : Blk) : RSet := if ofbE b = 0 then ⟨b.w, b.fr, b.cs.map dcX⟩ else zRS
def resS (x : RSet) (e : Int) : D := .tup [.agg (x.pd.map .p), .c (.p (pI e))]
theorem Own.ix {t e : Nat} {i ie : TI} {s : St} {es n j : Nat} {c : C} {cs : List Pd} (h : Own s es (.v (.c c)) n cs) (ht : E0.ti t = some i) (hk : i.kn = .slice e) (he : E0.ti e = some ie) (hs : ie.size = es) (hj : j < n) (h0 : 0 < es) :
  indexAddrD E0 t (.v (.c c)) (.v (.c (.p (.int .i64 (j : Int))))) = some (.v (.c (.rp cs (j * es)))) := by
 obtain ⟨hl, ⟨h1, h2⟩ | ⟨id, h1, _⟩⟩ := h
 ·omega
 ·simp only [D.v.injEq, V.c.injEq] at h1
  subst h1 hs
  have hm : (j + 1) * ie.size ≤ n * ie.size := Nat.mul_le_mul_right _ (by omega)
  unfold indexAddrD
  rw [ht]
  simp only [D.int?, hk, he, Int.toNat_natCast]
  rw [if_pos ⟨Int.natCast_nonneg j, by omega, by omega, h0⟩]
theorem pf37 (b : Blk) (hl : b.cs.length < 2^20) (hz : ∀ c ∈ b.cs, Cz c) : Pf E0 37 [.agg (b.pd.map .p)] (resS (ofbS b) (ofbE b)) := by
 have hfl := fK b.cs
 have p63 := pf63 b (by omega) hz
 generalize hE : ofbE b = V
 generalize hB : ofbS b = B
 unfold ofbS at hB
 rw [hE] at hB
 unfold ofbE at hE
 generalize blkC b = W at *
 refine Pf.body (fn := Tryz.f37) (by kernel_rfl) rfl ?_; simp only [List.map_cons, List.map_nil, List.cons_append, List.nil_append, List.length_cons, List.length_nil, Tryz.ntmps37, List.replicate, Nat.reduceSub, Nat.reduceAdd]
 refine gS fun K F => ?_; simp only [go_sem, nZ]; apply F; clear F K
 refine Wc.seq (Wc.seq ?_)
 by_cases hW : W = 0
 case neg =>
  rw [if_pos hW] at hE
  subst hE
  rw [if_neg (by decide)] at hB
  subst hB
  have d0 : (W != 0) = true := by simpa using hW
  refine gR fun K F => ?_; simp only [go_sem, nZ]
  refine gP (p63) (by kernel_rfl) (by kernel_rfl) rfl rfl ?_
  simp only [go_sem, nZ, d0]; apply F; clear F K
  refine gT (by simp only [go_sem, nZ, d0]) ?_
  refine gS fun K F => ?_; simp only [go_sem, nZ]; apply F; clear F K
  exact Wc.ret (Pf.ret [.cell 2 62, .tmp 3] [.agg [.p (pI 0), .p (pI 0), .nils], .c (.p (pI 1))] rfl rfl (by simp only [resultsD, go_sem, nZ]) rfl)
 subst hW
 rw [if_neg (by decide)] at hE
 refine gR fun K F => ?_; simp only [go_sem, nZ]
 refine gP (p63) (by kernel_rfl) (by kernel_rfl) rfl rfl ?_
 simp only [go_sem, nZ, b00]; apply F; clear F K
 refine gF (by simp only [go_sem, nZ, b00]) ?_
 refine Wc.seq (Wc.seq ?_)
 by_cases hw : b.w = 0
 ·rw [if_pos hw] at hE
  subst hE
  rw [if_neg (by decide)] at hB
  subst hB
  have d0 : (b.w == 0) = true := by simpa using hw
  refine gR fun K F => ?_; simp only [go_sem, nZ, d0]; apply F; clear F K
  refine gT (by simp only [go_sem, nZ, d0]) ?_
  refine gS fun K F => ?_; simp only [go_sem, nZ]; apply F; clear F K
  exact Wc.ret (Pf.ret [.cell 2 62, .tmp 3] [.agg [.p (pI 0), .p (pI 0), .nils], .c (.p (pI 8))] rfl rfl (by simp only [resultsD, go_sem, nZ]) rfl)
 rw [if_neg hw] at hE
 have d0 : (b.w == 0) = false := by simpa using hw
 refine gR fun K F => ?_; simp only [go_sem, nZ, d0]; apply F; clear F K
 refine gF (by simp only [go_sem, nZ, d0]) ?_
 refine Wc.seqA (fun y => ∃ k4 xc, y.ds = [] ∧ Fs y.e 62 [(1, .v (.c (.ref 0 0))), (2, .v (.c (.ref 1 0))), (4, .v (.c (.ref k4 0)))] ∧ OA y.s.nx y.s [(4, .v (.c xc), 0, [])] [(k4, .cells [.p (pI b.w), .p (pI b.fr), xc] false), (1, .cells [.p (pI 0), .p (pI 0), .nils] false), (0, .cells (b.pd.map .p) false)]) ?_ ?_
 ·refine gR fun K F => ?_; simp only [go_sem, nZ]; apply F; clear F K
  exact ⟨rfl, 14, .nils, rfl, by simp only [Fs, nZ, go_sem, nZ], OA.nil (by (try simp only [St.put_adv, St.adv_adv, St.put_put, St.nx_put, St.nx_adv]); repeat (first | exact OA.mono s00_oa (by omega) | refine OA.newB ?_ (by omega) rfl | refine OA.putB ?_ (by omega) | refine OA.advB ?_))⟩
 rintro ⟨e, ds, s1⟩ ⟨k4, xc, rfl, hF, ho⟩
 simp only [Fs] at hF ho
 have hR0 : dAllE (b.cs.drop 0) = dAllE b.cs := rfl
 generalize dAllE b.cs = R at hR0 hE
 refine Wc.seqR (fun y => ∃ k4 xc T, (R = 0 ∧ T = b.cs.map dcX) ∧ y.ds = [] ∧ Fs y.e 62 [(1, .v (.c (.ref 0 0))), (2, .v (.c (.ref 1 0))), (4, .v (.c (.ref k4 0)))] ∧ OA y.s.nx y.s [(4, .v (.c xc), T.length, T.flatMap Rlp.pd)] [(k4, .cells [.p (pI b.w), .p (pI b.fr), xc] false), (1, .cells [.p (pI 0), .p (pI 0), .nils] false), (0, .cells (b.pd.map .p) false)]) ?_ ?_
 ·have g0 := ho.at_ (0, .cells (b.pd.map .p) false) (by simp)
  simp only [List.map_cons, List.map_nil] at g0
  refine gS fun K F => ?_; simp only [go_sem, nZ, hF, g0]; apply F; clear F K
  refine Wc.block (Wc.loop (fun k y => ∃ (i k4 : Nat) (xc : C) (T : List Rlp), k = b.cs.length - i ∧ (i ≤ b.cs.length ∧ T = (b.cs.take i).map dcX ∧ dAllE (b.cs.drop i) = R) ∧ y.ds = [] ∧ Fs y.e 62 [(1, .v (.c (.ref 0 0))), (2, .v (.c (.ref 1 0))), (4, .v (.c (.ref k4 0))), (25, P' (.lst b.cs.length (b.cs.flatMap Chk.pd))), (26, P' (pI b.cs.length)), (27, P' (pI i))] ∧ OA y.s.nx y.s [(4, .v (.c xc), T.length, T.flatMap Rlp.pd)] [(k4, .cells [.p (pI b.w), .p (pI b.fr), xc] false), (1, .cells [.p (pI 0), .p (pI 0), .nils] false), (0, .cells (b.pd.map .p) false)]) ?_ (k := b.cs.length) ⟨0, k4, xc, [], rfl, ⟨by omega, rfl, hR0⟩, rfl, by simp only [Fs, nZ, go_sem, nZ, hF], by (try simp only [St.nx_put, St.nx_adv]); repeat (first | exact OA.mono ho (by omega) | refine OA.newB ?_ (by omega) rfl | refine OA.advB ?_)⟩)
  clear hF ho g0 e s1 hR0 xc k4
  rintro k ⟨e, ds, s1⟩ ⟨i, k4, xc, T, rfl, ⟨hi, hT, hR⟩, rfl, hF, ho⟩
  simp only [Fs] at hF ho
  have hTl : T.length = i := by rw [hT, List.length_map, List.length_take]; omega
  refine gS fun K F => ?_; simp only [go_sem, nZ, hF]; apply F; clear F K
  refine Wc.seq ?_
  refine Wc.cond (t := decide ((i : Int) < b.cs.length)) (by simp only [go_sem, nZ, hF]) (fun hc => ?_) (fun hc => ?_)
  ·have hil : i < b.cs.length := by have := of_decide_eq_true hc; omega
   obtain ⟨c, hcc⟩ : ∃ c, b.cs[i]? = some c := ⟨b.cs[i], List.getElem?_eq_getElem hil⟩
   have zc := hz c (List.mem_of_getElem? hcc)
   rw [dAllE_step hcc] at hR
   have hix := ixA ti65 rfl ti96 (j := i) (m := b.cs.length) (cs := b.cs.flatMap Chk.pd) hil hfl (by decide)
   have hca := rpK hcc
   have p69 := pf69 c zc
   have hT1 : T ++ [dcX c] = (b.cs.take (i + 1)).map dcX := by rw [take_snoc hcc, List.map_append, ← hT]; rfl
   generalize dcX c = X at *
   generalize dcE c = EC at *
   refine Wc.skip (Wc.seq (Wc.block (Wc.seqA (fun y => ∃ k6, y.ds = [] ∧ Fs y.e 62 [(1, .v (.c (.ref 0 0))), (2, .v (.c (.ref 1 0))), (4, .v (.c (.ref k4 0))), (25, P' (.lst b.cs.length (b.cs.flatMap Chk.pd))), (26, P' (pI b.cs.length)), (27, P' (pI i)), (6, .v (.c (.ref k6 0)))] ∧ OA y.s.nx y.s [(4, .v (.c xc), T.length, T.flatMap Rlp.pd)] ((k6, .cells (c.pd.map .p) false) :: [(k4, .cells [.p (pI b.w), .p (pI b.fr), xc] false), (1, .cells [.p (pI 0), .p (pI 0), .nils] false), (0, .cells (b.pd.map .p) false)])) ?_ ?_)))
   ·refine gR fun K F => ?_; simp only [go_sem, nZ, hF, hix, hca]; apply F; clear F K
    exact ⟨rfl, s1.nx + 3, rfl, by simp only [Fs, nZ, go_sem, nZ, hF], by (try simp only [St.put_adv, St.adv_adv, St.put_put, St.nx_put, St.nx_adv]); repeat (first | exact OA.mono ho (by omega) | refine OA.newB ?_ (by omega) rfl | refine OA.putB ?_ (by omega) | refine OA.advB ?_)⟩
   clear hF ho e s1
   rintro ⟨e, ds, s1⟩ ⟨k6, rfl, hF, ho⟩
   simp only [Fs] at hF ho
   have g6 := ho.at_ (k6, .cells (c.pd.map .p) false) (by simp)
   simp only [List.map_cons, List.map_nil] at g6
   refine Wc.seqA (fun y => ∃ k7, y.ds = [] ∧ Fs y.e 62 [(1, .v (.c (.ref 0 0))), (2, .v (.c (.ref 1 0))), (4, .v (.c (.ref k4 0))), (25, P' (.lst b.cs.length (b.cs.flatMap Chk.pd))), (26, P' (pI b.cs.length)), (27, P' (pI i)), (7, .v (.c (.ref k7 0))), (8, P' (pI EC))] ∧ OA y.s.nx y.s [(4, .v (.c xc), T.length, T.flatMap Rlp.pd)] ((k7, .cells (X.pd.map .p) false) :: [(k4, .cells [.p (pI b.w), .p (pI b.fr), xc] false), (1, .cells [.p (pI 0), .p (pI 0), .nils] false), (0, .cells (b.pd.map .p) false)])) ?_ ?_
   ·refine gR fun K F => ?_; simp only [go_sem, nZ, hF, g6]
    refine gP (p69) (by kernel_rfl) (by kernel_rfl) rfl rfl ?_
    simp only [go_sem, nZ, hF]; apply F; clear F K
    exact ⟨rfl, s1.nx + 5, rfl, by simp only [Fs, nZ, go_sem, nZ, hF], by (try simp only [St.put_adv, St.adv_adv, St.put_put, St.nx_put, St.nx_adv]); repeat (first | exact OA.mono (ho.sub (List.Sublist.refl _) (List.sublist_cons_self _ _)) (by omega) | refine OA.newB ?_ (by omega) rfl | refine OA.putB ?_ (by omega) | refine OA.advB ?_)⟩
   clear hF ho g6 e s1 p69
   rintro ⟨e, ds, s1⟩ ⟨k7, rfl, hF, ho⟩
   simp only [Fs] at hF ho
   have g7 := ho.at_ (k7, .cells (X.pd.map .p) false) (by simp)
   have g4 := ho.at_ (k4, .cells [.p (pI b.w), .p (pI b.fr), xc] false) (by simp)
   have g1 := ho.at_ (1, .cells [.p (pI 0), .p (pI 0), .nils] false) (by simp)
   simp only [List.map_cons, List.map_nil] at g7
   refine Wc.seq (Wc.seq ?_)
   refine gR fun K F => ?_; simp only [go_sem, nZ, hF]; apply F; clear F K
   refine Wc.cond (t := EC != 0) (by simp only [go_sem, nZ, hF]) (fun hc => ?_) (fun hc => ?_)
   ·have hn : EC ≠ 0 := by simpa using hc
    rw [if_pos hn] at hR
    subst hR
    rw [if_pos hn] at hE
    subst hE
    rw [if_neg hn] at hB
    subst hB
    refine gS fun K F => ?_; simp only [go_sem, nZ, hF, g1]; apply F; clear F K
    exact Wc.ret (Pf.ret [.cell 2 62, .tmp 3] [.agg [.p (pI 0), .p (pI 0), .nils], .c (.p (pI EC))] rfl rfl (by simp only [resultsD, go_sem, nZ, hF]) rfl)
   have hn : EC = 0 := by simpa using hc
   rw [if_neg (by simpa using hn)] at hR
   refine Wc.skip ?_
   refine gR fun K F => ?_; simp only [go_sem, nZ, hF, g4, g7]
   refine OA.app (L1 := []) (L2 := []) (by_ := 64) (n := T.length) (m := 1) (ys := X.pd) (cs := T.flatMap Rlp.pd) (b := s1.nx + 6) (M := (k7, .cells (X.pd.map .p) false) :: [(k4, .cells [.p (pI b.w), .p (pI b.fr), xc] false), (1, .cells [.p (pI 0), .p (pI 0), .nils] false), (0, .cells (b.pd.map .p) false)]) ?_ (Nat.le_refl _) ⟨_, ti60, rfl⟩ ti31 rfl rfl rfl (by decide) (by decide) (by simp only [go_sem, nZ]) rfl (by omega) fun x' s3 hs hnx => ?_
   ·exact by (try simp only [St.nx_put, St.nx_adv]); repeat (first | exact OA.mono ho (by omega) | refine OA.newB ?_ (by omega) rfl | refine OA.putB ?_ (by omega) | refine OA.advB ?_)
   obtain ⟨xc', rfl⟩ := (hs.own _ (List.mem_cons_self ..)).v
   have g4' := hs.at_ (k4, .cells [.p (pI b.w), .p (pI b.fr), xc] false) (by simp)
   simp only [go_sem, nZ, hF, g4']; apply F; clear F K
   have h5 := OA.set (M1 := []) (o' := .cells [.p (pI b.w), .p (pI b.fr), xc'] false) (OA.sub (M1 := [(k4, .cells [.p (pI b.w), .p (pI b.fr), xc] false), (1, .cells [.p (pI 0), .p (pI 0), .nils] false), (0, .cells (b.pd.map .p) false)]) hs (List.Sublist.refl _) (List.sublist_cons_self _ _)) rfl
   simp only [St.nx_put, St.nx_adv] at hnx
   refine gR fun K F => ?_; simp only [go_sem, nZ, hF, i64n i (by omega)]; apply F; clear F K
   refine ⟨b.cs.length - (i + 1), by omega, i + 1, k4, xc', T ++ [X], rfl, ⟨by omega, hT1, hR⟩, rfl, by simp only [Fs, nZ, go_sem, nZ, hF], ?_⟩
   have e1 : (T ++ [X]).length = T.length + 1 := by simp
   have e2 : (T ++ [X]).flatMap Rlp.pd = T.flatMap Rlp.pd ++ X.pd := by simp
   rw [e1, e2]
   exact OA.mono h5.adv (by simp only [St.nx_put, St.nx_adv]; omega)
  ·have hil : i = b.cs.length := by have := of_decide_eq_false hc; omega
   rw [hil, List.drop_length, dAllE] at hR
   rw [hil, List.take_length] at hT
   exact Wc.exit ⟨k4, xc, T, ⟨hR.symm, hT⟩, rfl, by simp only [Fs, nZ, go_sem, nZ, hF], by (try simp only [St.nx_put, St.nx_adv]); repeat (first | exact OA.mono ho (by omega) | refine OA.newB ?_ (by omega) rfl | refine OA.advB ?_)⟩
 clear hF ho e s1 hR0 xc k4
 rintro ⟨e, ds, s1⟩ ⟨k4, xc, T, ⟨rfl, hT⟩, rfl, hF, ho⟩
 simp only [Fs] at hF ho
 rw [if_neg (by decide), ← hT] at hE
 rw [← hT] at hB
 have hTl : T.length < 2^20 := by rw [hT, List.length_map]; exact hl
 clear hT p63
 have hown := ho.own _ (List.mem_cons_self ..)
 have hpu := hown.purS
 have hlen : lenD E0 60 (.v (.c xc)) = some (P' (.int .i64 T.length)) := hown.len ti60 rfl
 have hixs : ∀ j, j < T.length → indexAddrD E0 60 (.v (.c xc)) (.v (.c (.p (.int .i64 (j : Int))))) = some (.v (.c (.rp (T.flatMap Rlp.pd) (j * 4)))) := fun j hj => hown.ix ti60 rfl ti31 rfl hj (show 0 < 4 by decide)
 have hA0 : (T.drop 0).any (fun r => r.w != b.w) = T.any (fun r => r.w != b.w) := rfl
 generalize T.any (fun r => r.w != b.w) = A at hA0 hE
 refine Wc.seqR (fun y => A = false ∧ y.ds = [] ∧ Fs y.e 62 [(1, .v (.c (.ref 0 0))), (2, .v (.c (.ref 1 0))), (4, .v (.c (.ref k4 0)))] ∧ OA y.s.nx y.s [] [(k4, .cells [.p (pI b.w), .p (pI b.fr), xc] false), (1, .cells [.p (pI 0), .p (pI 0), .nils] false), (0, .cells (b.pd.map .p) false)]) ?_ ?_
 ·have g4 := ho.at_ (k4, .cells [.p (pI b.w), .p (pI b.fr), xc] false) (by simp)
  refine gS fun K F => ?_; simp only [go_sem, nZ, hF, g4, hlen]; apply F; clear F K
  refine Wc.block (Wc.loop (fun k y => ∃ i : Nat, k = T.length - i ∧ (i ≤ T.length ∧ (T.drop i).any (fun r => r.w != b.w) = A) ∧ y.ds = [] ∧ Fs y.e 62 [(1, .v (.c (.ref 0 0))), (2, .v (.c (.ref 1 0))), (4, .v (.c (.ref k4 0))), (48, .v (.c xc)), (49, P' (pI T.length)), (50, P' (pI i))] ∧ OA y.s.nx y.s [] [(k4, .cells [.p (pI b.w), .p (pI b.fr), xc] false), (1, .cells [.p (pI 0), .p (pI 0), .nils] false), (0, .cells (b.pd.map .p) false)]) ?_ (k := T.length) ⟨0, rfl, ⟨by omega, hA0⟩, rfl, by simp only [Fs, nZ, go_sem, nZ, hF], OA.mono (OA.sub ho (List.nil_sublist _) (List.Sublist.refl _)).adv (by simp only [St.nx_adv]; omega)⟩)
  clear hF ho g4 e s1 hA0 hown
  rintro k ⟨e, ds, s1⟩ ⟨i, rfl, ⟨hi, hA⟩, rfl, hF, ho⟩
  simp only [Fs] at hF ho
  refine gS fun K F => ?_; simp only [go_sem, nZ, hF]; apply F; clear F K
  refine Wc.seq ?_
  refine Wc.cond (t := decide ((i : Int) < T.length)) (by simp only [go_sem, nZ, hF]) (fun hc => ?_) (fun hc => ?_)
  ·have hil : i < T.length := by have := of_decide_eq_true hc; omega
   obtain ⟨c, hcc⟩ : ∃ c, T[i]? = some c := ⟨T[i], List.getElem?_eq_getElem hil⟩
   obtain ⟨h1, h2⟩ := List.getElem?_eq_some_iff.1 hcc
   rw [List.drop_eq_getElem_cons h1, h2, List.any_cons] at hA
   have hix := hixs i hil
   have hca := rpRl hcc
   refine Wc.skip (Wc.seq (Wc.block (Wc.seqA (fun y => ∃ k10, y.ds = [] ∧ Fs y.e 62 [(1, .v (.c (.ref 0 0))), (2, .v (.c (.ref 1 0))), (4, .v (.c (.ref k4 0))), (48, .v (.c xc)), (49, P' (pI T.length)), (50, P' (pI i)), (10, .v (.c (.ref k10 0)))] ∧ OA y.s.nx y.s [] ((k10, .cells (c.pd.map .p) false) :: [(k4, .cells [.p (pI b.w), .p (pI b.fr), xc] false), (1, .cells [.p (pI 0), .p (pI 0), .nils] false), (0, .cells (b.pd.map .p) false)])) ?_ ?_)))
   ·refine gR fun K F => ?_; simp only [go_sem, nZ, hF, hix, hca]; apply F; clear F K
    exact ⟨rfl, s1.nx + 3, rfl, by simp only [Fs, nZ, go_sem, nZ, hF], by (try simp only [St.put_adv, St.adv_adv, St.put_put, St.nx_put, St.nx_adv]); repeat (first | exact OA.mono ho (by omega) | refine OA.newB ?_ (by omega) rfl | refine OA.putB ?_ (by omega) | refine OA.advB ?_)⟩
   clear hF ho e s1
   rintro ⟨e, ds, s1⟩ ⟨k10, rfl, hF, ho⟩
   simp only [Fs] at hF ho
   have g10 := ho.at_ (k10, .cells (c.pd.map .p) false) (by simp)
   have g0 := ho.at_ (0, .cells (b.pd.map .p) false) (by simp)
   have g1 := ho.at_ (1, .cells [.p (pI 0), .p (pI 0), .nils] false) (by simp)
   simp only [List.map_cons, List.map_nil] at g10 g0
   refine gS fun K F => ?_; simp only [go_sem, nZ, hF, g10, g0]; apply F; clear F K
   refine Wc.cond (t := c.w != b.w) (by simp only [go_sem, nZ, hF]) (fun hc => ?_) (fun hc => ?_)
   ·rw [hc, Bool.true_or] at hA
    subst hA
    rw [if_pos rfl] at hE
    subst hE
    rw [if_neg (by decide)] at hB
    subst hB
    refine gS fun K F => ?_; simp only [go_sem, nZ, hF, g1]; apply F; clear F K
    exact Wc.ret (Pf.ret [.cell 2 62, .tmp 3] [.agg [.p (pI 0), .p (pI 0), .nils], .c (.p (pI 10))] rfl rfl (by simp only [resultsD, go_sem, nZ, hF]) rfl)
   rw [hc, Bool.false_or] at hA
   refine Wc.skip ?_
   refine gR fun K F => ?_; simp only [go_sem, nZ, hF, i64n i (by omega)]; apply F; clear F K
   exact ⟨T.length - (i + 1), by omega, i + 1, rfl, ⟨by omega, hA⟩, rfl, by simp only [Fs, nZ, go_sem, nZ, hF], by (try simp only [St.nx_put, St.nx_adv]); repeat (first | exact OA.mono (ho.sub (List.Sublist.refl _) (List.sublist_cons_self _ _)) (by omega) | refine OA.newB ?_ (by omega) rfl | refine OA.advB ?_)⟩
  ·have hil : i = T.length := by have := of_decide_eq_false hc; omega
   rw [hil, List.drop_length, List.any_nil] at hA
   exact Wc.exit ⟨hA.symm, rfl, by simp only [Fs, nZ, go_sem, nZ, hF], by (try simp only [St.nx_put, St.nx_adv]); repeat (first | exact OA.mono ho (by omega) | refine OA.newB ?_ (by omega) rfl | refine OA.advB ?_)⟩
 clear hF ho e s1 hA0 hown
 rintro ⟨e, ds, s1⟩ ⟨rfl, rfl, hF, ho⟩
 simp only [Fs] at hF ho
 rw [if_neg (by decide)] at hE
 subst hE
 rw [if_pos rfl] at hB
 subst hB
 have g4 := ho.at_ (k4, .cells [.p (pI b.w), .p (pI b.fr), xc] false) (by simp)
 have g1 := ho.at_ (1, .cells [.p (pI 0), .p (pI 0), .nils] false) (by simp)
 refine gS fun K F => ?_; simp only [go_sem, nZ, hF, g4, g1]; apply F; clear F K
 exact Wc.ret (Pf.ret [.cell 2 62, .tmp 3] [.agg [.p (pI b.w), .p (pI b.fr), xc], .c (.p (pI 0))] rfl rfl (by simp only [resultsD, go_sem, nZ, hF]) (by simp only [packD, purD, purVs, purV, purCs, purC_S hpu, purC_p]; rfl))
theorem inR_le {x : Int} (h : inR x = true) : -1152921504606846976 ≤ x ∧ x ≤ 1152921504606846976 := by
 simpa [inR] using h
theorem OA.app1 {b key : Nat} {s : St} {L1 L2 : List (Nat × D × Nat × List Pd)} {M : List (Nat × Ob)} {c : C} {W : List Int} {v : Int} {y : D} {K : D → St → Prop} (h : OA b s (L1 ++ (1, .v (.c c), W.length, W.map pI) :: L2) M) (hkey : b ≤ key) (hW : W.length < 2^40) (hy : srcD E0 175 s y = some (1, [pI v]))
  (hk : ∀ c' s', OA (key + 1) s' (L1 ++ (1, .v (.c c'), (W ++ [v]).length, (W ++ [v]).map pI) :: L2) M → s'.nx = s.nx → K (.v (.c c')) s') : stepK (appendD E0 key [175, 175] (.v (.c c)) y s) K := by
 refine OA.app (by_ := 8) (n := W.length) (m := 1) (ys := [pI v]) (cs := W.map pI) h hkey ⟨_, ti175, rfl⟩ ti3 rfl rfl rfl (by decide) (by decide) hy rfl (by omega) fun x' s' hs hnx => ?_
 obtain ⟨c', rfl⟩ := (hs.own (1, x', W.length + 1, W.map pI ++ [pI v]) (by simp)).v
 refine hk c' s' ?_ hnx
 have e1 : (W ++ [v]).length = W.length + 1 := by simp
 have e2 : (W ++ [v]).map pI = W.map pI ++ [pI v] := by simp
 rw [e1, e2]
 exact hs
theorem Own.ixI {s : St} {j : Nat} {c : C} {W : List Int} (h : Own s 1 (.v (.c c)) W.length (W.map pI)) (hj : j < W.length) : indexAddrD E0 175 (.v (.c c)) (.v (.c (.p (.int .i64 (j : Int))))) = some (.v (.c (.rp (W.map pI) j))) := by
 have := h.ix ti175 rfl ti3 rfl hj (show 0 < 1 by decide)
 rwa [Nat.mul_one] at this
theorem smR_step {l : List Int} {i : Nat} {x c : Int} (h : l[i]? = some x) : smR c (l.drop i) = if inR (c + x) = false then ([c], false) else (c :: (smR (c + x) (l.drop (i + 1))).1, (smR (c + x) (l.drop (i + 1))).2) := by
 obtain ⟨h1, h2⟩ := List.getElem?_eq_some_iff.1 h
 rw [List.drop_eq_getElem_cons h1, h2, smR]
theorem pf245 (f : Int) (l : List Int) (hl : l.length < 2^39) (hf : inR f = true) (hr : ∀ x ∈ l, inR x = true) : Pf E0 245 [.c (.p (pI f)), .c (.p (.lst l.length (l.map pI)))] (.tup [.c (.p (.lst (smR f l).1.length ((smR f l).1.map pI))), .c (.p (.bool (smR f l).2))]) := by
 have hR0 : ([] ++ (smR f (l.drop 0)).1, (smR f (l.drop 0)).2) = smR f l := rfl
 generalize smR f l = R at hR0 ⊢
 refine Pf.body (fn := Tryz.f245) (by kernel_rfl) rfl ?_; simp only [List.map_cons, List.map_nil, List.cons_append, List.nil_append, List.length_cons, List.length_nil, Tryz.ntmps245, List.replicate, Nat.reduceSub, Nat.reduceAdd]
 refine gS fun K F => ?_; simp only [go_sem, nZ]; apply F; clear F K
 refine Wc.seqA (fun y => ∃ xc, y.ds = [] ∧ Fs y.e 38 [(1, P' (.lst l.length (l.map pI))), (6, .v (.c xc))] ∧ OA y.s.nx y.s [(1, .v (.c xc), ([] ++ [f]).length, ([] ++ [f]).map pI)] []) ?_ ?_
 ·refine gR fun K F => ?_; simp only [go_sem, nZ]; apply F; clear F K
  exact ⟨rfl, _, rfl, by simp only [Fs, nZ, go_sem, nZ], (OA.front (es := 1) (n := 1) (cs := [pI f]) (s00_oa.adv.adv) (by omega) rfl).mono (by simp only [St.nx_put, St.nx_adv]; omega)⟩
 rintro ⟨e, ds, s1⟩ ⟨xc, rfl, hF, ho⟩
 simp only [Fs] at hF ho
 refine Wc.seqR (fun y => ∃ xc A cur, (R = (A ++ [cur], true)) ∧ y.ds = [] ∧ Fs y.e 38 [(6, .v (.c xc))] ∧ OA y.s.nx y.s [(1, .v (.c xc), (A ++ [cur]).length, (A ++ [cur]).map pI)] []) ?_ ?_
 ·refine gS fun K F => ?_; simp only [go_sem, nZ, hF]; apply F; clear F K
  refine Wc.block (Wc.loop (fun k y => ∃ (i : Nat) (xc : C) (A : List Int) (cur : Int), k = l.length - i ∧ (i ≤ l.length ∧ A.length = i ∧ inR cur = true ∧ (A ++ (smR cur (l.drop i)).1, (smR cur (l.drop i)).2) = R) ∧ y.ds = [] ∧ Fs y.e 38 [(1, P' (.lst l.length (l.map pI))), (6, .v (.c xc)), (7, P' (pI i))] ∧ OA y.s.nx y.s [(1, .v (.c xc), (A ++ [cur]).length, (A ++ [cur]).map pI)] []) ?_ (k := l.length) ⟨0, xc, [], f, rfl, ⟨by omega, rfl, hf, hR0⟩, rfl, by simp only [Fs, nZ, go_sem, nZ, hF], by (try simp only [St.nx_put, St.nx_adv]); repeat (first | exact OA.mono ho (by omega) | refine OA.newB ?_ (by omega) rfl | refine OA.advB ?_)⟩)
  clear hF ho e s1 hR0 xc
  rintro k ⟨e, ds, s1⟩ ⟨i, xc, A, cur, rfl, ⟨hi, hA, hcur, hR⟩, rfl, hF, ho⟩
  simp only [Fs] at hF ho
  have hown := ho.own _ (List.mem_cons_self ..)
  have hpu := hown.purS
  refine Wc.seq (Wc.seq ?_)
  refine gR fun K F => ?_; simp only [go_sem, nZ, hF]; apply F; clear F K
  refine Wc.cond (t := decide ((i : Int) < l.length)) (by simp only [go_sem, nZ, hF]) (fun hc => ?_) (fun hc => ?_)
  ·have hil : i < l.length := by have := of_decide_eq_true hc; omega
   obtain ⟨x, hx⟩ : ∃ x, l[i]? = some x := ⟨l[i], List.getElem?_eq_getElem hil⟩
   have hxr := inR_le (hr x (List.mem_of_getElem? hx))
   have hcr := inR_le hcur
   rw [smR_step hx] at hR
   have hix := ixA ti175 rfl ti3 (j := i) (m := l.length) (cs := l.map pI) hil (by simp) (by decide)
   have hca := rpA (off := i) (drop_map pI hx) (by simp; omega)
   have hio := hown.ixI (j := i) (by simp [hA])
   have hco : ∀ s, cellsAt s (.v (.c (.rp ((A ++ [cur]).map pI) i))) = _ := rpA (off := i) (cs := (A ++ [cur]).map pI) (pre := [pI cur]) (rest := []) (by rw [List.map_append, ← hA]; simp) (by simp [hA])
   have hw : IntKind.i64.wrap (cur + x) = cur + x := by rw [wi64]; omega
   refine Wc.skip (Wc.seq (Wc.block (Wc.seq ?_)))
   refine Wc.regD fun K F => ?_; simp only [go_sem, nZ, hF, hix, hca, hio, hco, hw]; apply F; clear F K
   by_cases hin : inR (cur + x) = true
   ·rw [if_neg (by simp [hin])] at hR
    have hb := inR_le hin
    have c1 : (cur + x < -1152921504606846976) = False := by simp; omega
    have c2 : (1152921504606846976 < cur + x) = False := by simp; omega
    refine Wc.seq (Wc.seq ?_)
    refine gR fun K F => ?_; simp only [go_sem, nZ, hF, c1, c2]; apply F; clear F K
    refine gF (by simp only [go_sem, nZ, hF, c1, c2]) ?_
    refine gR fun K F => ?_; simp only [go_sem, nZ, hF]
    refine OA.app1 (L1 := []) (L2 := []) (M := []) (W := A ++ [cur]) (v := cur + x) ?_ (Nat.le_refl _) (by simp [hA]; omega) (by simp only [go_sem, nZ]) fun xc' s3 hs hnx => ?_
    ·exact by (try simp only [St.nx_put, St.nx_adv]); repeat (first | exact OA.mono ho (by omega) | refine OA.newB ?_ (by omega) rfl | refine OA.putB ?_ (by omega) | refine OA.advB ?_)
    simp only [go_sem, nZ, hF]; apply F; clear F K
    simp only [St.nx_put, St.nx_adv] at hnx
    refine gR fun K F => ?_; simp only [go_sem, nZ, hF, i64n i (by omega)]; apply F; clear F K
    refine ⟨l.length - (i + 1), by omega, i + 1, xc', A ++ [cur], cur + x, rfl, ⟨by omega, by simp [hA], hin, ?_⟩, rfl, by simp only [Fs, nZ, go_sem, nZ, hF], OA.mono hs.adv (by simp only [St.nx_adv]; omega)⟩
    rw [← hR]; simp
   ·have hin' : inR (cur + x) = false := by simpa using hin
    rw [if_pos hin'] at hR
    refine Wc.seq (Wc.seq ?_)
    by_cases h1 : cur + x < -1152921504606846976
    ·refine gR fun K F => ?_; simp only [go_sem, nZ, hF, h1]; apply F; clear F K
     refine gT (by simp only [go_sem, nZ, hF, h1]) ?_
     refine gS fun K F => ?_; simp only [go_sem, nZ, hF]; apply F; clear F K
     rw [← hR]
     exact Wc.ret (Pf.ret [.tmp 4, .tmp 5] [.c xc, .c (.p (.bool false))] rfl rfl (by simp only [resultsD, go_sem, nZ, hF]) (by simp only [packD, purD, purVs, purV, purC_S hpu, purC_p]; rfl))
    ·have h2 : (1152921504606846976 < cur + x) := by
      simp [inR] at hin'; omega
     refine gR fun K F => ?_; simp only [go_sem, nZ, hF, h1, h2]; apply F; clear F K
     refine gT (by simp only [go_sem, nZ, hF, h1, h2]) ?_
     refine gS fun K F => ?_; simp only [go_sem, nZ, hF]; apply F; clear F K
     rw [← hR]
     exact Wc.ret (Pf.ret [.tmp 4, .tmp 5] [.c xc, .c (.p (.bool false))] rfl rfl (by simp only [resultsD, go_sem, nZ, hF]) (by simp only [packD, purD, purVs, purV, purC_S hpu, purC_p]; rfl))
  ·have hil : i = l.length := by have := of_decide_eq_false hc; omega
   rw [hil, List.drop_length] at hR
   exact Wc.exit ⟨xc, A, cur, hR.symm, rfl, by simp only [Fs, nZ, go_sem, nZ, hF], by (try simp only [St.nx_put, St.nx_adv]); repeat (first | exact OA.mono ho (by omega) | refine OA.newB ?_ (by omega) rfl | refine OA.advB ?_)⟩
 clear hF ho e s1 hR0 xc
 rintro ⟨e, ds, s1⟩ ⟨xc, A, cur, rfl, rfl, hF, ho⟩
 simp only [Fs] at hF ho
 have hpu := (ho.own _ (List.mem_cons_self ..)).purS
 refine gS fun K F => ?_; simp only [go_sem, nZ, hF]; apply F; clear F K
 exact Wc.ret (Pf.ret [.tmp 4, .tmp 5] [.c xc, .c (.p (.bool true))] rfl rfl (by simp only [resultsD, go_sem, nZ, hF]) (by simp only [packD, purD, purVs, purV, purC_S hpu, purC_p]; rfl))
set_option maxHeartbeats 8000000
set_option maxRecDepth 10000
set_option linter.unusedSimpArgs false
set_option linter.unusedVariables false
theorem pf244 (t : List UInt8) (a n : Nat) (ht : t.length < 2^40) (ha : a ≤ 2) (hn : n ≤ 20000) : Pf E0 244 [.c (.p (.str t)), .c (.p (pI a)), .c (.p (pI n))]
  (.tup [.c (.p (.lst (nmR t a n).1.length ((nmR t a n).1.map pI))), .c (.p (.lst (nmR t a n).2.1.length ((nmR t a n).2.1.map pI))), .c (.p (pI (nmR t a n).2.2))]) := by
 generalize hNM : nmR t a n = NM
 unfold nmR at hNM
 obtain ⟨R1, hR1⟩ : ∃ R1, hdR a t = R1 := ⟨_, rfl⟩
 have hR0 : ([] ++ (hdR (a - 0) t).1, (hdR (a - 0) t).2) = R1 := hR1
 rw [hR1] at hNM
 clear hR1
 refine Pf.body (fn := Tryz.f244) (by kernel_rfl) rfl ?_; simp only [List.map_cons, List.map_nil, List.cons_append, List.nil_append, List.length_cons, List.length_nil, Tryz.ntmps244, List.replicate, Nat.reduceSub, Nat.reduceAdd]
 refine gS fun K F => ?_; simp only [go_sem, nZ]; apply F; clear F K
 refine Wc.seqA (fun y => ∃ xh lc, y.ds = [] ∧ Fs y.e 105 [(0, P' (.str t)), (1, P' (pI a)), (2, P' (pI n)), (9, .v (.c xh)), (10, .v (.c lc))] ∧ OA y.s.nx y.s [(1, .v (.c xh), 0, []), (1, .v (.c lc), 0, [])] []) ?_ ?_
 ·refine gR fun K F => ?_; simp only [go_sem, nZ]; apply F; clear F K
  refine ⟨rfl, .own 0 [] 3, .own 0 [] 4, rfl, by simp only [Fs, nZ, go_sem, nZ], ?_⟩
  exact ((OA.front (k := 4) (es := 1) (n := 0) (cs := []) (OA.front (k := 3) (es := 1) (n := 0) (cs := []) (s00_oa.adv.adv) (by omega) rfl) (by omega) rfl).perm (List.Perm.swap ..)).mono (by simp only [St.nx_put, St.nx_adv]; omega)
 rintro ⟨e, ds, s1⟩ ⟨xh, lc, rfl, hF, ho⟩
 simp only [Fs] at hF ho
 refine Wc.seqR (fun y => ∃ xh lc H s', (R1 = (H, s', 0) ∧ s'.length ≤ t.length ∧ H.length ≤ 2) ∧ y.ds = [] ∧ Fs y.e 105 [(0, P' (.str s')), (1, P' (pI a)), (2, P' (pI n)), (9, .v (.c xh)), (10, .v (.c lc))] ∧ OA y.s.nx y.s [(1, .v (.c xh), H.length, H.map pI), (1, .v (.c lc), 0, [])] []) ?_ ?_
 ·refine gS fun K F => ?_; simp only [go_sem, nZ, hF]; apply F; clear F K
  refine Wc.block (Wc.loop (fun k y => ∃ (i : Nat) (xh lc : C) (H : List Int) (s' : List UInt8), k = a - i ∧ (i ≤ a ∧ H.length = i ∧ s'.length ≤ t.length ∧ (H ++ (hdR (a - i) s').1, (hdR (a - i) s').2) = R1) ∧ y.ds = [] ∧ Fs y.e 105 [(0, P' (.str s')), (1, P' (pI a)), (2, P' (pI n)), (9, .v (.c xh)), (10, .v (.c lc)), (11, P' (pI i))] ∧ OA y.s.nx y.s [(1, .v (.c xh), H.length, H.map pI), (1, .v (.c lc), 0, [])] []) ?_ (k := a) ⟨0, xh, lc, [], t, rfl, ⟨by omega, rfl, Nat.le_refl _, hR0⟩, rfl, by simp only [Fs, nZ, go_sem, nZ, hF], by (try simp only [St.nx_put, St.nx_adv]); repeat (first | exact OA.mono ho (by omega) | refine OA.newB ?_ (by omega) rfl | refine OA.advB ?_)⟩)
  clear hF ho e s1 hR0 xh lc
  rintro k ⟨e, ds, s1⟩ ⟨i, xh, lc, H, s', rfl, ⟨hi, hH, hs', hR⟩, rfl, hF, ho⟩
  simp only [Fs] at hF ho
  have hp1 := (ho.own _ (List.mem_cons_self ..)).purS
  have hp2 := (ho.own (1, .v (.c lc), 0, []) (by simp)).purS
  refine Wc.seq (Wc.seq ?_)
  refine gR fun K F => ?_; simp only [go_sem, nZ, hF]; apply F; clear F K
  refine Wc.cond (t := decide ((i : Int) < a)) (by simp only [go_sem, nZ, hF]) (fun hc => ?_) (fun hc => ?_)
  ·have hil : i < a := by have := of_decide_eq_true hc; omega
   obtain ⟨m, hm⟩ : ∃ m, a - i = m + 1 := ⟨a - i - 1, by omega⟩
   have hm' : a - (i + 1) = m := by omega
   rw [hm, hdR] at hR
   have p269 := pf269 s'
   obtain ⟨r1, r2, r3⟩ := rdS_le s'
   generalize (rdS s').1 = v at *
   generalize (rdS s').2.1 = sz at *
   generalize (rdS s').2.2 = er at *
   refine Wc.skip (Wc.seq (Wc.block (Wc.seq ?_)))
   refine gR fun K F => ?_; simp only [go_sem, nZ, hF]
   refine gP (p269) (by kernel_rfl) (by kernel_rfl) rfl rfl ?_
   simp only [go_sem, nZ, hF]; apply F; clear F K
   refine Wc.seq (Wc.seq ?_)
   refine gR fun K F => ?_; simp only [go_sem, nZ, hF]; apply F; clear F K
   refine Wc.cond (t := er != 0) (by simp only [go_sem, nZ, hF]) (fun hc => ?_) (fun hc => ?_)
   ·have h0 : er ≠ 0 := by simpa using hc
    rw [if_pos h0] at hR
    simp only [List.append_nil] at hR
    rw [← hR] at hNM
    simp only [if_pos h0] at hNM
    subst hNM
    refine gS fun K F => ?_; simp only [go_sem, nZ, hF]; apply F; clear F K
    exact Wc.ret (Pf.ret [.tmp 6, .tmp 7, .tmp 8] [.c xh, .c lc, .c (.p (pI er))] rfl rfl (by simp only [resultsD, go_sem, nZ, hF]) (by simp only [packD, purD, purVs, purV, purC_S hp1, purC_S hp2, purC_p]; rfl))
   have h0 : er = 0 := by simpa using hc
   rw [if_neg (by simpa using h0)] at hR
   have c1 : ((sz : Int) ≤ (s'.length : Int)) = True := by simp; omega
   refine Wc.skip (Wc.seq ?_)
   refine gR fun K F => ?_; simp only [go_sem, nZ, hF]
   refine OA.app1 (L1 := []) (L2 := [(1, .v (.c lc), 0, [])]) (M := []) (W := H) (v := v) ?_ (Nat.le_refl _) (by omega) (by simp only [go_sem, nZ]) fun xh' s3 hs hnx => ?_
   ·exact by (try simp only [St.nx_put, St.nx_adv]); repeat (first | exact OA.mono ho (by omega) | refine OA.newB ?_ (by omega) rfl | refine OA.putB ?_ (by omega) | refine OA.advB ?_)
   simp only [go_sem, nZ, hF]; apply F; clear F K
   simp only [St.nx_put, St.nx_adv] at hnx
   refine gR fun K F => ?_; simp only [go_sem, nZ, hF, c1, slice_from, Int.le_refl]; apply F; clear F K
   refine gR fun K F => ?_; simp only [go_sem, nZ, hF, i64n i (by omega)]; apply F; clear F K
   refine ⟨a - (i + 1), by omega, i + 1, xh', lc, H ++ [v], s'.drop sz, rfl, ⟨by omega, by simp [hH], by simp; omega, ?_⟩, rfl, by simp only [Fs, nZ, go_sem, nZ, hF], OA.mono hs.adv.adv (by simp only [St.nx_adv]; omega)⟩
   rw [← hR, hm']
   simp
  ·have hil : i = a := by have := of_decide_eq_false hc; omega
   rw [hil, Nat.sub_self, hdR] at hR
   refine Wc.exit ⟨xh, lc, H, s', ⟨by rw [← hR]; simp, hs', by omega⟩, rfl, by simp only [Fs, nZ, go_sem, nZ, hF], by (try simp only [St.nx_put, St.nx_adv]); repeat (first | exact OA.mono ho (by omega) | refine OA.newB ?_ (by omega) rfl | refine OA.advB ?_)⟩
 clear hF ho e s1 hR0 xh lc
 rintro ⟨e, ds, s1⟩ ⟨xh, lc, H, s', ⟨rfl, hs', hHl⟩, rfl, hF, ho⟩
 simp only [Fs] at hF ho
 simp only [ne_eq, not_true_eq_false, if_false] at hNM
 obtain ⟨R2, hR2⟩ : ∃ R2, rnR n n s' = R2 := ⟨_, rfl⟩
 have hR0 : ([] ++ (rnR n (n - 0) s').1, (rnR n (n - 0) s').2) = R2 := hR2
 rw [hR2] at hNM
 clear hR2
 refine Wc.seqR (fun y => ∃ lc Lc s', (R2 = (Lc, s', 0) ∧ s'.length ≤ t.length) ∧ y.ds = [] ∧ Fs y.e 105 [(0, P' (.str s')), (1, P' (pI a)), (2, P' (pI n)), (9, .v (.c xh)), (10, .v (.c lc))] ∧ OA y.s.nx y.s [(1, .v (.c xh), H.length, H.map pI), (1, .v (.c lc), Lc.length, Lc.map pI)] []) ?_ ?_
 ·refine Wc.block (Wc.loop (fun k y => ∃ (f : Nat) (lc : C) (Lc : List Int) (s' : List UInt8), k = n - Lc.length ∧ (Lc.length ≤ n ∧ n - Lc.length ≤ f ∧ s'.length ≤ t.length ∧ (Lc ++ (rnR f (n - Lc.length) s').1, (rnR f (n - Lc.length) s').2) = R2) ∧ y.ds = [] ∧ Fs y.e 105 [(0, P' (.str s')), (1, P' (pI a)), (2, P' (pI n)), (9, .v (.c xh)), (10, .v (.c lc))] ∧ OA y.s.nx y.s [(1, .v (.c xh), H.length, H.map pI), (1, .v (.c lc), Lc.length, Lc.map pI)] []) ?_ (k := n) ⟨n, lc, [], s', rfl, ⟨by simp, by simp, hs', hR0⟩, rfl, by simp only [Fs, nZ, go_sem, nZ, hF], by (try simp only [St.nx_put, St.nx_adv]); repeat (first | exact OA.mono ho (by omega) | refine OA.newB ?_ (by omega) rfl | refine OA.advB ?_)⟩)
  clear hF ho e s1 hR0 lc hs' s'
  rintro k ⟨e, ds, s1⟩ ⟨f, lc, Lc, s', rfl, ⟨hLc, hf, hs', hR⟩, rfl, hF, ho⟩
  simp only [Fs] at hF ho
  have hp1 := (ho.own _ (List.mem_cons_self ..)).purS
  have ho2 := ho.own (1, .v (.c lc), Lc.length, Lc.map pI) (by simp)
  have hp2 := ho2.purS
  have hlen : lenD E0 175 (.v (.c lc)) = some (P' (.int .i64 Lc.length)) := ho2.len ti175 rfl
  refine Wc.seq (Wc.seq ?_)
  refine gR fun K F => ?_; simp only [go_sem, nZ, hF, hlen]; apply F; clear F K
  refine Wc.cond (t := decide ((Lc.length : Int) < n)) (by simp only [go_sem, nZ, hF]) (fun hc => ?_) (fun hc => ?_)
  ·have hil : Lc.length < n := by have := of_decide_eq_true hc; omega
   obtain ⟨f, rfl⟩ : ∃ g, f = g + 1 := ⟨f - 1, by omega⟩
   rw [rnR, if_neg (by omega)] at hR
   have p269 := pf269 s'
   obtain ⟨r1, r2, r3⟩ := rdS_le s'
   generalize (rdS s').1 = v at *
   generalize (rdS s').2.1 = sz at *
   generalize (rdS s').2.2 = er at *
   refine Wc.skip (Wc.block (Wc.seq ?_))
   refine gR fun K F => ?_; simp only [go_sem, nZ, hF]
   refine gP (p269) (by kernel_rfl) (by kernel_rfl) rfl rfl ?_
   simp only [go_sem, nZ, hF]; apply F; clear F K
   refine Wc.seq (Wc.seq ?_)
   refine gR fun K F => ?_; simp only [go_sem, nZ, hF]; apply F; clear F K
   refine Wc.cond (t := er != 0) (by simp only [go_sem, nZ, hF]) (fun hc => ?_) (fun hc => ?_)
   ·have h0 : er ≠ 0 := by simpa using hc
    rw [if_pos h0] at hR
    simp only [List.append_nil] at hR
    rw [← hR] at hNM
    simp only [if_pos h0] at hNM
    subst hNM
    refine gS fun K F => ?_; simp only [go_sem, nZ, hF]; apply F; clear F K
    exact Wc.ret (Pf.ret [.tmp 6, .tmp 7, .tmp 8] [.c xh, .c lc, .c (.p (pI er))] rfl rfl (by simp only [resultsD, go_sem, nZ, hF]) (by simp only [packD, purD, purVs, purV, purC_S hp1, purC_S hp2, purC_p]; rfl))
   have h0 : er = 0 := by simpa using hc
   rw [if_neg (by simpa using h0)] at hR
   have c1 : ((sz : Int) ≤ (s'.length : Int)) = True := by simp; omega
   have hd1 : (s'.drop sz).length ≤ t.length := by simp; omega
   refine Wc.skip (Wc.seq ?_)
   refine gR fun K F => ?_; simp only [go_sem, nZ, hF, c1, slice_from, Int.le_refl]; apply F; clear F K
   generalize s'.drop sz = s2 at *
   simp only at hR
   have p204 := pf204 s2
   obtain ⟨q1, q2, q3, q4⟩ := rdV_le s2
   obtain ⟨m, hm⟩ : ∃ m : Nat, (rdV s2).1 = (m : Int) := ⟨(rdV s2).1.toNat, by omega⟩
   rw [hm] at p204 hR q3
   rw [Int.toNat_natCast] at hR
   generalize (rdV s2).2.1 = sw at *
   generalize (rdV s2).2.2 = er2 at *
   refine gS fun K F => ?_; simp only [go_sem, nZ, hF]
   refine gP (p204) (by kernel_rfl) (by kernel_rfl) rfl rfl ?_
   simp only [go_sem, nZ, hF]; apply F; clear F K
   refine Wc.seq (Wc.seq ?_)
   refine gR fun K F => ?_; simp only [go_sem, nZ, hF]; apply F; clear F K
   refine Wc.cond (t := er2 != 0) (by simp only [go_sem, nZ, hF]) (fun hc => ?_) (fun hc => ?_)
   ·have h0 : er2 ≠ 0 := by simpa using hc
    rw [if_pos h0] at hR
    simp only [List.append_nil] at hR
    rw [← hR] at hNM
    simp only [if_pos h0] at hNM
    subst hNM
    refine gS fun K F => ?_; simp only [go_sem, nZ, hF]; apply F; clear F K
    exact Wc.ret (Pf.ret [.tmp 6, .tmp 7, .tmp 8] [.c xh, .c lc, .c (.p (pI er2))] rfl rfl (by simp only [resultsD, go_sem, nZ, hF]) (by simp only [packD, purD, purVs, purV, purC_S hp1, purC_S hp2, purC_p]; rfl))
   have h0 : er2 = 0 := by simpa using hc
   rw [if_neg (by simpa using h0)] at hR
   have c2 : ((sw : Int) ≤ (s2.length : Int)) = True := by simp; omega
   have hd2 : (s2.drop sw).length ≤ t.length := by simp; omega
   refine Wc.skip (Wc.seq ?_)
   refine gR fun K F => ?_; simp only [go_sem, nZ, hF, c2, slice_from, Int.le_refl]; apply F; clear F K
   generalize s2.drop sw = s3 at *
   have hw : IntKind.i64.wrap ((n : Int) - (Lc.length : Int)) = ((n - Lc.length : Nat) : Int) := by rw [wi64]; omega
   refine Wc.seqR (fun y => (0 < m ∧ m ≤ n - Lc.length) ∧ y.ds = [] ∧ Fs y.e 105 [(0, P' (.str s3)), (1, P' (pI a)), (2, P' (pI n)), (9, .v (.c xh)), (10, .v (.c lc)), (15, P' (pI v)), (18, P' (pI m))] ∧ OA y.s.nx y.s [(1, .v (.c xh), H.length, H.map pI), (1, .v (.c lc), Lc.length, Lc.map pI)] []) ?_ ?_
   ·refine Wc.seq ?_
    by_cases hm0 : m = 0
    ·have k0 : ((m : Int) == 0) = true := by simp; omega
     rw [if_pos (.inl (by omega))] at hR
     simp only [List.append_nil] at hR
     rw [← hR] at hNM
     simp only [if_pos (show (12 : Int) ≠ 0 by decide), show ¬ ((12 : Int) = 0) by decide, not_false_eq_true, if_true] at hNM
     subst hNM
     refine gR fun K F => ?_; simp only [go_sem, nZ, hF, k0]; apply F; clear F K
     refine gT (by simp only [go_sem, nZ, hF, k0]) ?_
     refine gS fun K F => ?_; simp only [go_sem, nZ, hF]; apply F; clear F K
     exact Wc.ret (Pf.ret [.tmp 6, .tmp 7, .tmp 8] [.c xh, .c lc, .c (.p (pI 12))] rfl rfl (by simp only [resultsD, go_sem, nZ, hF]) (by simp only [packD, purD, purVs, purV, purC_S hp1, purC_S hp2, purC_p]; rfl))
    have k0 : ((m : Int) == 0) = false := by simp; omega
    by_cases hm1 : n - Lc.length < m
    ·have k1 : (((n - Lc.length : Nat) : Int) < (m : Int)) = True := by simp; omega
     rw [if_pos (.inr (by omega))] at hR
     simp only [List.append_nil] at hR
     rw [← hR] at hNM
     simp only [if_pos (show (12 : Int) ≠ 0 by decide), show ¬ ((12 : Int) = 0) by decide, not_false_eq_true, if_true] at hNM
     subst hNM
     refine gR fun K F => ?_; simp only [go_sem, nZ, hF, k0, hlen, hw, k1]; apply F; clear F K
     refine gT (by simp only [go_sem, nZ, hF, k0, k1]) ?_
     refine gS fun K F => ?_; simp only [go_sem, nZ, hF]; apply F; clear F K
     exact Wc.ret (Pf.ret [.tmp 6, .tmp 7, .tmp 8] [.c xh, .c lc, .c (.p (pI 12))] rfl rfl (by simp only [resultsD, go_sem, nZ, hF]) (by simp only [packD, purD, purVs, purV, purC_S hp1, purC_S hp2, purC_p]; rfl))
    have k1 : (((n - Lc.length : Nat) : Int) < (m : Int)) = False := by simp; omega
    refine gR fun K F => ?_; simp only [go_sem, nZ, hF, k0, hlen, hw, k1]; apply F; clear F K
    refine gF (by simp only [go_sem, nZ, hF, k0, k1]) ?_
    exact ⟨⟨by omega, by omega⟩, rfl, by simp only [Fs, nZ, go_sem, nZ, hF], by (try simp only [St.nx_put, St.nx_adv]); repeat (first | exact OA.mono ho (by omega) | refine OA.newB ?_ (by omega) rfl | refine OA.advB ?_)⟩
   clear hF ho e s1 hp1 hp2 ho2 hlen
   rintro ⟨e, ds, s1⟩ ⟨⟨hm0, hm1⟩, rfl, hF, ho⟩
   simp only [Fs] at hF ho
   rw [if_neg (by omega)] at hR
   refine gS fun K F => ?_; simp only [go_sem, nZ, hF]; apply F; clear F K
   refine Wc.block (Wc.loop (fun k y => ∃ (j : Nat) (lc : C), k = m - j ∧ j ≤ m ∧ y.ds = [] ∧ Fs y.e 105 [(0, P' (.str s3)), (1, P' (pI a)), (2, P' (pI n)), (9, .v (.c xh)), (10, .v (.c lc)), (15, P' (pI v)), (18, P' (pI m)), (19, P' (pI j))] ∧ OA y.s.nx y.s [(1, .v (.c xh), H.length, H.map pI), (1, .v (.c lc), (Lc ++ List.replicate j v).length, (Lc ++ List.replicate j v).map pI)] []) ?_ (k := m) ⟨0, lc, rfl, by omega, rfl, by simp only [Fs, nZ, go_sem, nZ, hF], (by simp only [List.replicate_zero, List.append_nil]; exact by (try simp only [St.nx_put, St.nx_adv]); repeat (first | exact OA.mono ho (by omega) | refine OA.newB ?_ (by omega) rfl | refine OA.advB ?_))⟩)
   clear hF ho e s1 lc
   rintro k ⟨e, ds, s1⟩ ⟨j, lc, rfl, hj, rfl, hF, ho⟩
   simp only [Fs] at hF ho
   refine Wc.seq (Wc.seq ?_)
   refine gR fun K F => ?_; simp only [go_sem, nZ, hF]; apply F; clear F K
   refine Wc.cond (t := decide ((j : Int) < m)) (by simp only [go_sem, nZ, hF]) (fun hc => ?_) (fun hc => ?_)
   ·have hjl : j < m := by have := of_decide_eq_true hc; omega
    refine Wc.skip (Wc.seq (Wc.block ?_))
    refine gR fun K F => ?_; simp only [go_sem, nZ, hF]
    refine OA.app1 (L1 := [(1, .v (.c xh), H.length, H.map pI)]) (L2 := []) (M := []) (W := Lc ++ List.replicate j v) (v := v) ?_ (Nat.le_refl _) (by simp; omega) (by simp only [go_sem, nZ]) fun lc' s4 hs hnx => ?_
    ·exact by (try simp only [St.nx_put, St.nx_adv]); repeat (first | exact OA.mono ho (by omega) | refine OA.newB ?_ (by omega) rfl | refine OA.putB ?_ (by omega) | refine OA.advB ?_)
    simp only [go_sem, nZ, hF]; apply F; clear F K
    simp only [St.nx_put, St.nx_adv] at hnx
    refine gR fun K F => ?_; simp only [go_sem, nZ, hF, i64n j (by omega)]; apply F; clear F K
    have e1 : Lc ++ List.replicate j v ++ [v] = Lc ++ List.replicate (j + 1) v := by rw [List.append_assoc, ← List.replicate_succ']
    rw [e1] at hs
    exact ⟨m - (j + 1), by omega, j + 1, lc', rfl, by omega, rfl, by simp only [Fs, nZ, go_sem, nZ, hF], OA.mono hs.adv (by simp only [St.nx_adv]; omega)⟩
   ·have hjl : j = m := by have := of_decide_eq_false hc; omega
    subst hjl
    have hll : (Lc ++ List.replicate j v).length = Lc.length + j := by simp
    have e2 : n - (Lc ++ List.replicate j v).length = n - Lc.length - j := by rw [hll]; omega
    refine Wc.exit ⟨n - (Lc ++ List.replicate j v).length, by rw [hll]; omega, f, lc, Lc ++ List.replicate j v, s3, rfl, ⟨by rw [hll]; omega, by rw [hll]; omega, hd2, ?_⟩, rfl, by simp only [Fs, nZ, go_sem, nZ, hF], by (try simp only [St.nx_put, St.nx_adv]); repeat (first | exact OA.mono ho (by omega) | refine OA.newB ?_ (by omega) rfl | refine OA.advB ?_)⟩
    rw [e2, ← hR]
    simp
  ·have hil : n - Lc.length = 0 := by have := of_decide_eq_false hc; omega
   rw [hil] at hR
   have e1 : rnR f 0 s' = ([], s', 0) := by cases f <;> simp [rnR]
   rw [e1] at hR
   exact Wc.exit ⟨lc, Lc, s', ⟨by rw [← hR]; simp, hs'⟩, rfl, by simp only [Fs, nZ, go_sem, nZ, hF], by (try simp only [St.nx_put, St.nx_adv]); repeat (first | exact OA.mono ho (by omega) | refine OA.newB ?_ (by omega) rfl | refine OA.advB ?_)⟩
 clear hF ho e s1 hR0 lc hs' s'
 rintro ⟨e, ds, s1⟩ ⟨lc, Lc, s', ⟨rfl, hs'⟩, rfl, hF, ho⟩
 simp only [Fs] at hF ho
 have hp1 := (ho.own _ (List.mem_cons_self ..)).purS
 have hp2 := (ho.own (1, .v (.c lc), Lc.length, Lc.map pI) (by simp)).purS
 simp only [ne_eq, not_true_eq_false, if_false] at hNM
 refine Wc.seq (Wc.seq ?_)
 refine gR fun K F => ?_; simp only [go_sem, nZ, hF]; apply F; clear F K
 refine Wc.cond (t := decide ((0 : Int) < s'.length)) (by simp only [go_sem, nZ, hF]) (fun hc => ?_) (fun hc => ?_)
 ·have h0 : s' ≠ [] := by rintro rfl; simp at hc
  rw [if_pos h0] at hNM
  subst hNM
  refine gS fun K F => ?_; simp only [go_sem, nZ, hF]; apply F; clear F K
  exact Wc.ret (Pf.ret [.tmp 6, .tmp 7, .tmp 8] [.c xh, .c lc, .c (.p (pI 12))] rfl rfl (by simp only [resultsD, go_sem, nZ, hF]) (by simp only [packD, purD, purVs, purV, purC_S hp1, purC_S hp2, purC_p]; rfl))
 have h0 : s' = [] := by
  have := of_decide_eq_false hc
  exact List.length_eq_zero_iff.1 (by omega)
 rw [if_neg (by simpa using h0)] at hNM
 subst hNM
 refine Wc.skip (Wc.seq ?_)
 refine gR fun K F => ?_; simp only [go_sem, nZ, hF]; apply F; clear F K
 exact Wc.ret (Pf.ret [.tmp 6, .tmp 7, .tmp 8] [.c xh, .c lc, .c (.p (pI 0))] rfl rfl (by simp only [resultsD, go_sem, nZ, hF]) (by simp only [packD, purD, purVs, purV, purC_S hp1, purC_S hp2, purC_p]; rfl))
theorem hdR_ok : ∀ (k : Nat) (s : List UInt8), ((hdR k s).2.2 = 0 → (hdR k s).1.length = k) ∧ ∀ x ∈ (hdR k s).1, inR x = true
 | 0, s => ⟨fun _ => rfl, fun x hx => by cases hx⟩
 | k + 1, s => by
  rw [hdR]
  split
  ·rename_i h; exact ⟨fun h0 => absurd h0 h, fun x hx => by cases hx⟩
  ·obtain ⟨i1, i2⟩ := hdR_ok k (s.drop (rdS s).2.1)
   refine ⟨fun h0 => by simp only [List.length_cons, i1 h0], fun x hx => ?_⟩
   rcases List.mem_cons.1 hx with rfl | hx
   ·exact (rdS_le s).2.1
   ·exact i2 x hx
theorem rnR_ok : ∀ (f n : Nat) (s : List UInt8), (rnR f n s).1.length ≤ n ∧ ∀ x ∈ (rnR f n s).1, inR x = true
 | 0, n, s => ⟨by simp [rnR], fun x hx => by cases hx⟩
 | f + 1, n, s => by
  rw [rnR]
  split
  ·exact ⟨by simp, fun x hx => by cases hx⟩
  ·split
   ·exact ⟨by simp, fun x hx => by cases hx⟩
   ·simp only
    split
    ·exact ⟨by simp, fun x hx => by cases hx⟩
    ·split
     ·exact ⟨by simp, fun x hx => by cases hx⟩
     ·rename_i h
      obtain ⟨i1, i2⟩ := rnR_ok f (n - (rdV (s.drop (rdS s).2.1)).1.toNat) ((s.drop (rdS s).2.1).drop (rdV (s.drop (rdS s).2.1)).2.1)
      refine ⟨by simp only [List.length_append, List.length_replicate]; omega, fun x hx => ?_⟩
      rcases List.mem_append.1 hx with hx | hx
      ·rw [List.eq_of_mem_replicate hx]; exact (rdS_le s).2.1
      ·exact i2 x hx
theorem nmR_ok (s : List UInt8) (a n : Nat) : ((nmR s a n).2.2 = 0 → (nmR s a n).1.length = a) ∧ (∀ x ∈ (nmR s a n).1, inR x = true) ∧ (∀ x ∈ (nmR s a n).2.1, inR x = true) ∧ (nmR s a n).2.1.length ≤ n := by
 obtain ⟨i1, i2⟩ := hdR_ok a s
 obtain ⟨j1, j2⟩ := rnR_ok n n (hdR a s).2.1
 unfold nmR
 simp only
 split
 ·rename_i h; exact ⟨fun h0 => absurd h0 h, i2, fun x hx => (by cases hx), by simp⟩
 ·rename_i h
  have h' : (hdR a s).2.2 = 0 := by simpa using h
  split
  ·exact ⟨fun _ => i1 h', i2, j2, j1⟩
  ·split
   ·exact ⟨fun _ => i1 h', i2, j2, j1⟩
   ·exact ⟨fun _ => i1 h', i2, j2, j1⟩
theorem smR_ok : ∀ (l : List Int) (f : Int), inR f = true → (∀ x ∈ (smR f l).1, inR x = true) ∧ (smR f l).1.length ≤ l.length + 1
 | [], f, h => ⟨fun x hx => by rw [List.mem_singleton.1 hx]; exact h, by simp [smR]⟩
 | x :: r, f, h => by
  rw [smR]
  split
  ·exact ⟨fun y hy => by rw [List.mem_singleton.1 hy]; exact h, by simp⟩
  ·rename_i h2
   obtain ⟨i1, i2⟩ := smR_ok r (f + x) (by simpa using h2)
   refine ⟨fun y hy => ?_, by simp only [List.length_cons]; omega⟩
   rcases List.mem_cons.1 hy with rfl | hy
   ·exact h
   ·exact i1 y hy
theorem min_nat (N k : Nat) : (if ((k : Nat) : Int) < (N : Int) then ((k : Nat) : Int) else (N : Int)) = ((min N k : Nat) : Int) := by
 split <;> omega
theorem max_nat (N k : Nat) (h : N ≤ 20000) (hk : k ≤ 2) : (if (0 : Int) > IntKind.i64.wrap ((N : Int) - (k : Int)) then (0 : Int) else IntKind.i64.wrap ((N : Int) - (k : Int))) = ((N - k : Nat) : Int) := by
 have : IntKind.i64.wrap ((N : Int) - (k : Int)) = (N : Int) - k := by rw [wi64]; omega
 rw [this]
 split <;> omega
def clR (O : Option (List Int)) (d : D) : Prop := ∃ er : Int, (er = 0 ↔ O.isSome = true) ∧ d = .tup [.c (.p (.lst (O.getD []).length ((O.getD []).map pI))), .c (.p (pI er))]
theorem clR_none {er : Int} (h : er ≠ 0) : clR none (.tup [.c (.p (.lst 0 [])), .c (.p (pI er))]) := ⟨er, by simp [h], rfl⟩
theorem clR_some (l : List Int) : clR (some l) (.tup [.c (.p (.lst l.length (l.map pI))), .c (.p (pI 0))]) := ⟨0, by simp, rfl⟩
theorem Pf.retC {fn : Func} {x : Fr} {P : D → Prop} {er : Int} {y : Pd} (rs : List ResultVar) (hd : x.ds = []) (hrs : fn.results.toList = rs) (hr : ∃ c, resultsD E0 x.e x.s rs = some [.c c, .c (.p (pI er))] ∧ purS c = some y) (hP : P (.tup [.c (.p y), .c (.p (pI er))])) :
  bodyQ E0 fn (fun d0 s2 => ∃ d s3, purD s2 d0 = some (d, s3) ∧ P d) .ret x := by
 obtain ⟨c, h1, h2⟩ := hr
 exact Pf.retE rs _ hd hrs h1 (s3 := x.s) (by simp only [packD, purD, purVs, purV, purC_S h2, purC_p]) hP
theorem b12 : ((12 : Int) ≠ 0) := by decide
theorem pf207 (t : List UInt8) (ht : t.length < 2^40) : ∃ d, Pf E0 207 [.c (.p (.str t))] d ∧ clR (okR encV t (vlR t)) d := by
 refine Pf.bodyE (fn := Tryz.f207) (by kernel_rfl) rfl ?_; simp only [List.map_cons, List.map_nil, List.cons_append, List.nil_append, List.length_cons, List.length_nil, Tryz.ntmps207, List.replicate, Nat.reduceSub, Nat.reduceAdd]
 generalize hO : okR encV t (vlR t) = O
 unfold vlR at hO
 have p243 := pf243 t
 have p204 := pf204 t
 unfold cnR at p243
 obtain ⟨b1, b2, b3, b4⟩ := rdV_le t
 obtain ⟨N, hN⟩ : ∃ N : Nat, (rdV t).1 = (N : Int) := ⟨(rdV t).1.toNat, by omega⟩
 rw [hN] at hO p243 p204
 rw [Int.toNat_natCast] at hO
 generalize (rdV t).2.1 = sz at *
 generalize (rdV t).2.2 = er at *
 refine gS fun K F => ?_; simp only [go_sem, nZ]; apply F; clear F K
 by_cases hbad : er ≠ 0 ∨ 20000 < (N : Int)
 ·rw [if_pos hbad] at hO
  simp only [okR] at hO
  subst hO
  obtain ⟨q, hq, h0⟩ : ∃ q, (if er ≠ 0 then ((0 : Int), er) else if 20000 < (N : Int) then (0, 4) else ((N : Int), 0)) = (0, q) ∧ q ≠ 0 := by
   by_cases h : er ≠ 0
   ·exact ⟨er, if_pos h, h⟩
   ·exact ⟨4, by rw [if_neg h, if_pos (hbad.resolve_left h)], by decide⟩
  rw [hq] at p243
  have hF : (q != 0) = true := by simpa using h0
  refine gS fun K F => ?_; simp only [go_sem, nZ]
  refine gP (p243) (by kernel_rfl) (by kernel_rfl) rfl rfl ?_
  simp only [go_sem, nZ]; apply F; clear F K
  refine Wc.seq (Wc.seq ?_)
  refine gR fun K F => ?_; simp only [go_sem, nZ, hF]; apply F; clear F K
  refine gT (by simp only [go_sem, nZ, hF]) ?_
  refine gS fun K F => ?_; simp only [go_sem, nZ]; apply F; clear F K
  refine Wc.ret (thenD_ret ?_)
  exact (show bodyQ E0 Tryz.f207 _ .ret _ from Pf.retC (y := .lst 0 []) [.tmp 2, .tmp 3] rfl rfl (by simp only [resultsD, go_sem, nZ, hF]; exact ⟨_, rfl, rfl⟩) (clR_none h0))
 have he : er = 0 := by
  by_cases h : er = 0
  ·exact h
  ·exact absurd (.inl h) hbad
 have hN2 : N ≤ 20000 := by
  by_cases h : 20000 < (N : Int)
  ·exact absurd (.inr h) hbad
  ·omega
 rw [if_neg hbad] at hO
 dsimp only at hO
 rw [if_neg (by simpa using he), if_neg (by omega)] at p243
 simp only at p243
 have c1 : ((sz : Int) ≤ (t.length : Int)) = True := by simp; omega
 have hmn : minI (N : Int) 1 = ((min N 1 : Nat) : Int) := min_nat N 1
 have hmx : maxI (IntKind.i64.wrap ((N : Int) - 1)) 0 = ((N - 1 : Nat) : Int) := max_nat N 1 hN2 (by omega)
 have p244 := pf244 (t.drop sz) (min N 1) (N - 1) (by simp; omega) (by omega) (by omega)
 have hok := nmR_ok (t.drop sz) (min N 1) (N - 1)
 generalize nmR (t.drop sz) (min N 1) (N - 1) = Q at *
 obtain ⟨H, Lq, eq⟩ := Q
 simp only at p244 hok hO
 obtain ⟨ok1, ok2, ok3, ok4⟩ := hok
 refine gS fun K F => ?_; simp only [go_sem, nZ]
 refine gP (p243) (by kernel_rfl) (by kernel_rfl) rfl rfl ?_
 simp only [go_sem, nZ]; apply F; clear F K
 refine Wc.seq (Wc.seq ?_)
 refine gR fun K F => ?_; simp only [go_sem, nZ, b00]; apply F; clear F K
 refine gF (by simp only [go_sem, nZ, b00]) ?_
 refine gS fun K F => ?_; simp only [go_sem, nZ]
 refine gP (p204) (by kernel_rfl) (by kernel_rfl) rfl rfl ?_
 simp only [go_sem, nZ]; apply F; clear F K
 refine gS fun K F => ?_; simp only [go_sem, nZ, c1, slice_from, Int.le_refl, minB2, maxB2, hmn, hmx]
 refine gP (p244) (by kernel_rfl) (by kernel_rfl) rfl rfl ?_
 simp only [go_sem, nZ]; apply F; clear F K
 refine Wc.seq (Wc.seq ?_)
 refine gR fun K F => ?_; simp only [go_sem, nZ]; apply F; clear F K
 refine Wc.cond (t := eq != 0) (by simp only [go_sem, nZ]) (fun hc => ?_) (fun hc => ?_)
 ·have h0 : eq ≠ 0 := by simpa using hc
  rw [if_pos h0] at hO
  simp only [okR] at hO
  subst hO
  have hF := hc
  refine gS fun K F => ?_; simp only [go_sem, nZ]; apply F; clear F K
  refine Wc.ret (thenD_ret ?_)
  exact (show bodyQ E0 Tryz.f207 _ .ret _ from Pf.retC (y := .lst 0 []) [.tmp 2, .tmp 3] rfl rfl (by simp only [resultsD, go_sem, nZ, hF]; exact ⟨_, rfl, rfl⟩) (clR_none h0))
 have hq0 : eq = 0 := by simpa using hc
 rw [if_neg (by simpa using hq0)] at hO
 have hHl := ok1 hq0
 refine Wc.skip (Wc.seqA (fun y => ∃ xc, purS xc = some (.lst 0 []) ∧ y.ds = [] ∧ Fs y.e 75 [(0, P' (.str t)), (4, P' (pI N)), (9, P' (.lst H.length (H.map pI))), (10, P' (.lst Lq.length (Lq.map pI))), (11, .v (.c xc))]) ?_ ?_)
 ·refine gR fun K F => ?_; simp only [go_sem, nZ]; apply F; clear F K
  exact ⟨rfl, .own 0 [] 38, rfl, rfl, by simp only [Fs, nZ, go_sem, nZ]⟩
 rintro ⟨e, ds, s1⟩ ⟨xc, hxc, rfl, hF⟩
 simp only [Fs] at hF
 refine Wc.seqR (fun y => ∃ xc l, (purS xc = some (.lst l.length (l.map pI)) ∧ l.length ≤ 20001 ∧ okR encV t (some l) = O) ∧ y.ds = [] ∧ Fs y.e 75 [(0, P' (.str t)), (11, .v (.c xc))]) ?_ ?_
 ·refine gS fun K F => ?_; simp only [go_sem, nZ, hF]; apply F; clear F K
  refine Wc.cond (t := decide ((0 : Int) < N)) (by simp only [go_sem, nZ, hF]) (fun hc => ?_) (fun hc => ?_)
  ·have hN0 : N ≠ 0 := by have := of_decide_eq_true hc; omega
   rw [if_neg hN0] at hO
   have hm1 : min N 1 = 1 := by omega
   rw [hm1] at hHl
   obtain ⟨x, rfl⟩ : ∃ x, H = [x] := by
    match H, hHl with
    | [x], _ => exact ⟨x, rfl⟩
   have hix := ixA ti175 rfl ti3 (j := 0) (m := 1) (cs := [pI x]) (by decide) rfl (by decide)
   have hca := rpA (off := 0) (cs := [pI x]) (pre := [pI x]) (rest := []) rfl (by simp)
   have p245 := pf245 x Lq (by omega) (ok2 x (by simp)) ok3
   have hsm := smR_ok Lq x (ok2 x (by simp))
   rw [show ([x] : List Int).headD 0 = x from rfl] at hO
   generalize smR x Lq = Z at *
   obtain ⟨l, okz⟩ := Z
   simp only at p245 hO hsm
   simp only [nZ, Nat.zero_mul] at hix
   refine gS fun K F => ?_; simp only [go_sem, nZ, hF]; apply F; clear F K
   refine gS fun K F => ?_; simp only [go_sem, nZ, hF, hix, hca]
   refine gP (p245) (by kernel_rfl) (by kernel_rfl) rfl rfl ?_
   simp only [go_sem, nZ, hF]; apply F; clear F K
   refine gS fun K F => ?_; simp only [go_sem, nZ, hF]; apply F; clear F K
   cases okz with
   | false =>
    rw [if_neg (by decide)] at hO
    simp only [okR] at hO
    subst hO
    have h0 := b12
    refine gT (by simp only [go_sem, nZ, hF]) ?_
    refine gS fun K F => ?_; simp only [go_sem, nZ, hF]; apply F; clear F K
    refine Wc.ret (thenD_ret ?_)
    exact (show bodyQ E0 Tryz.f207 _ .ret _ from Pf.retC (y := .lst 0 []) [.tmp 2, .tmp 3] rfl rfl (by simp only [resultsD, go_sem, nZ, hF]; exact ⟨_, rfl, rfl⟩) (clR_none h0))
   | true =>
    rw [if_pos rfl] at hO
    refine gF (by simp only [go_sem, nZ, hF]) ?_
    exact ⟨.p (.lst l.length (l.map pI)), l, ⟨rfl, by omega, hO⟩, rfl, by simp only [Fs, nZ, go_sem, nZ, hF]⟩
  ·have hN0 : N = 0 := by have := of_decide_eq_false hc; omega
   rw [if_pos hN0] at hO
   exact Wc.skip ⟨xc, [], ⟨hxc, by simp, hO⟩, rfl, by simp only [Fs, nZ, go_sem, nZ, hF]⟩
 clear hF hO hxc e s1 xc
 rintro ⟨e, ds, s1⟩ ⟨xc, l, ⟨hxc, hl, hO⟩, rfl, hF⟩
 simp only [Fs] at hF
 have p197 := pf197 l (by omega)
 simp only [okR] at hO
 generalize encV l = E at *
 obtain ⟨d, ed⟩ := E
 simp only at p197 hO
 refine Wc.seqR (fun y => O = some l ∧ y.ds = [] ∧ Fs y.e 75 [(11, .v (.c xc))]) ?_ ?_
 ·refine gS fun K F => ?_; simp only [go_sem, nZ, hF]
  refine wpCall.pf p197 (by kernel_rfl) (by kernel_rfl) rfl (purVs_c1 hxc) ?_
  simp only [go_sem, nZ, hF]; apply F; clear F K
  refine Wc.seq ?_
  have h0 := b12
  by_cases he : ed = 0
  ·have k0 : (ed != 0) = false := by simpa using he
   refine gR fun K F => ?_; simp only [go_sem, nZ, hF, k0]; apply F; clear F K
   refine Wc.cond (t := !(d == t)) (by simp only [go_sem, nZ, hF]) (fun hc => ?_) (fun hc => ?_)
   ·have hne : d ≠ t := by simpa using hc
    rw [if_neg (fun h => hne h.2)] at hO
    subst hO
    refine gS fun K F => ?_; simp only [go_sem, nZ, hF]; apply F; clear F K
    refine Wc.ret (thenD_ret ?_)
    exact (show bodyQ E0 Tryz.f207 _ .ret _ from Pf.retC (y := .lst 0 []) [.tmp 2, .tmp 3] rfl rfl (by simp only [resultsD, go_sem, nZ, hF]; exact ⟨_, rfl, rfl⟩) (clR_none h0))
   ·have hd : d = t := by simpa using hc
    rw [if_pos ⟨he, hd⟩] at hO
    exact Wc.skip ⟨hO.symm, rfl, by simp only [Fs, nZ, go_sem, nZ, hF]⟩
  ·have k0 : (ed != 0) = true := by simpa using he
   rw [if_neg (fun h => he h.1)] at hO
   subst hO
   refine gR fun K F => ?_; simp only [go_sem, nZ, hF, k0]; apply F; clear F K
   refine gT (by simp only [go_sem, nZ, hF, k0]) ?_
   refine gS fun K F => ?_; simp only [go_sem, nZ, hF]; apply F; clear F K
   refine Wc.ret (thenD_ret ?_)
   exact (show bodyQ E0 Tryz.f207 _ .ret _ from Pf.retC (y := .lst 0 []) [.tmp 2, .tmp 3] rfl rfl (by simp only [resultsD, go_sem, nZ, hF]; exact ⟨_, rfl, rfl⟩) (clR_none h0))
 clear hF e s1
 rintro ⟨e, ds, s1⟩ ⟨rfl, rfl, hF⟩
 simp only [Fs] at hF
 refine gS fun K F => ?_; simp only [go_sem, nZ, hF]; apply F; clear F K
 exact Wc.ret (Pf.retC [.tmp 2, .tmp 3] rfl rfl (by simp only [resultsD, go_sem, nZ, hF]; exact ⟨_, rfl, hxc⟩) (clR_some l))
end Go.Proofs.YtedcnhbblgmdnaaGreat.Ab
