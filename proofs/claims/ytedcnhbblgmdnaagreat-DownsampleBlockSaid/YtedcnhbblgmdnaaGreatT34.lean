/- A part of the proof. -/
import Derived.Test.YtedcnhbblgmdnaaGreatT33
import Derived.Test.YtedcnhbblgmdnaaGreatT30
namespace Go.Proofs.YtedcnhbblgmdnaaGreat.Ab
set_option maxHeartbeats 8000000
set_option maxRecDepth 10000
set_option linter.unusedSimpArgs false
set_option linter.unusedVariables false
theorem pf38 (b : Blk) (hl : b.cs.length < 2^20) (hz : ∀ c ∈ b.cs, Cz c) : Pf E0 38 [.agg (b.pd.map .p)] (resS (ofbS b) (ofbE b)) := by
 have hfl := fK b.cs
 have p63 := pf66 b (by omega) hz
 generalize hE : ofbE b = V
 generalize hB : ofbS b = B
 unfold ofbS at hB
 rw [hE] at hB
 unfold ofbE at hE
 generalize blkC b = W at *
 refine Pf.body (fn := Tryz.f38) (by kernel_rfl) rfl ?_; simp only [List.map_cons, List.map_nil, List.cons_append, List.nil_append, List.length_cons, List.length_nil, Tryz.ntmps38, List.replicate, Nat.reduceSub, Nat.reduceAdd]
 refine gS fun K F => ?_; simp only [go_sem, nZ]; apply F; clear F K
 refine Wc.seq (Wc.seq ?_)
 by_cases hW : W = 0
 case neg =>
  rw [if_pos hW] at hE
  subst hE
  rw [if_neg (by decide)] at hB
  subst hB
  have d0 : (W != 0) = true := by simpa using hW
  refine gR fun K F => ?_; simp only [go_sem, nZ]
  refine gP (p63) (by kernel_rfl) (by kernel_rfl) rfl rfl ?_
  simp only [go_sem, nZ, d0]; apply F; clear F K
  refine gT (by simp only [go_sem, nZ, d0]) ?_
  refine gS fun K F => ?_; simp only [go_sem, nZ]; apply F; clear F K
  exact Wc.ret (Pf.ret [.cell 2 62, .tmp 3] [.agg [.p (pI 0), .p (pI 0), .nils], .c (.p (pI 1))] rfl rfl (by simp only [resultsD, go_sem, nZ]) rfl)
 subst hW
 rw [if_neg (by decide)] at hE
 refine gR fun K F => ?_; simp only [go_sem, nZ]
 refine gP (p63) (by kernel_rfl) (by kernel_rfl) rfl rfl ?_
 simp only [go_sem, nZ, b00]; apply F; clear F K
 refine gF (by simp only [go_sem, nZ, b00]) ?_
 refine Wc.seq (Wc.seq ?_)
 by_cases hw : b.w = 0
 ·rw [if_pos hw] at hE
  subst hE
  rw [if_neg (by decide)] at hB
  subst hB
  have d0 : (b.w == 0) = true := by simpa using hw
  refine gR fun K F => ?_; simp only [go_sem, nZ, d0]; apply F; clear F K
  refine gT (by simp only [go_sem, nZ, d0]) ?_
  refine gS fun K F => ?_; simp only [go_sem, nZ]; apply F; clear F K
  exact Wc.ret (Pf.ret [.cell 2 62, .tmp 3] [.agg [.p (pI 0), .p (pI 0), .nils], .c (.p (pI 8))] rfl rfl (by simp only [resultsD, go_sem, nZ]) rfl)
 rw [if_neg hw] at hE
 have d0 : (b.w == 0) = false := by simpa using hw
 refine gR fun K F => ?_; simp only [go_sem, nZ, d0]; apply F; clear F K
 refine gF (by simp only [go_sem, nZ, d0]) ?_
 refine Wc.seqA (fun y => ∃ k4 xc, y.ds = [] ∧ Fs y.e 66 [(1, .v (.c (.ref 0 0))), (2, .v (.c (.ref 1 0))), (4, .v (.c (.ref k4 0)))] ∧ OA y.s.nx y.s [(4, .v (.c xc), 0, [])] [(k4, .cells [.p (pI b.w), .p (pI b.fr), xc] false), (1, .cells [.p (pI 0), .p (pI 0), .nils] false), (0, .cells (b.pd.map .p) false)]) ?_ ?_
 ·refine gR fun K F => ?_; simp only [go_sem, nZ]; apply F; clear F K
  exact ⟨rfl, 14, .nils, rfl, by simp only [Fs, nZ, go_sem, nZ], OA.nil (by (try simp only [St.put_adv, St.adv_adv, St.put_put, St.nx_put, St.nx_adv]); repeat (first | exact OA.mono s00_oa (by omega) | refine OA.newB ?_ (by omega) rfl | refine OA.putB ?_ (by omega) | refine OA.advB ?_))⟩
 rintro ⟨e, ds, s1⟩ ⟨k4, xc, rfl, hF, ho⟩
 simp only [Fs] at hF ho
 have hR0 : dAllE (b.cs.drop 0) = dAllE b.cs := rfl
 generalize dAllE b.cs = R at hR0 hE
 refine Wc.seqR (fun y => ∃ k4 xc T, (R = 0 ∧ T = b.cs.map dcX) ∧ y.ds = [] ∧ Fs y.e 66 [(1, .v (.c (.ref 0 0))), (2, .v (.c (.ref 1 0))), (4, .v (.c (.ref k4 0)))] ∧ OA y.s.nx y.s [(4, .v (.c xc), T.length, T.flatMap Rlp.pd)] [(k4, .cells [.p (pI b.w), .p (pI b.fr), xc] false), (1, .cells [.p (pI 0), .p (pI 0), .nils] false), (0, .cells (b.pd.map .p) false)]) ?_ ?_
 ·refine gS fun K F => ?_; simp only [go_sem, nZ, hF]; apply F; clear F K
  refine Wc.block (Wc.loop (fun k y => ∃ (i k4 : Nat) (xc : C) (T : List Rlp), k = b.cs.length - i ∧ (i ≤ b.cs.length ∧ T = (b.cs.take i).map dcX ∧ dAllE (b.cs.drop i) = R) ∧ y.ds = [] ∧ Fs y.e 66 [(1, .v (.c (.ref 0 0))), (2, .v (.c (.ref 1 0))), (4, .v (.c (.ref k4 0))), (5, P' (pI i))] ∧ OA y.s.nx y.s [(4, .v (.c xc), T.length, T.flatMap Rlp.pd)] [(k4, .cells [.p (pI b.w), .p (pI b.fr), xc] false), (1, .cells [.p (pI 0), .p (pI 0), .nils] false), (0, .cells (b.pd.map .p) false)]) ?_ (k := b.cs.length) ⟨0, k4, xc, [], rfl, ⟨by omega, rfl, hR0⟩, rfl, by simp only [Fs, nZ, go_sem, nZ, hF], by (try simp only [St.nx_put, St.nx_adv]); repeat (first | exact OA.mono ho (by omega) | refine OA.newB ?_ (by omega) rfl | refine OA.advB ?_)⟩)
  clear hF ho e s1 hR0 xc k4
  rintro k ⟨e, ds, s1⟩ ⟨i, k4, xc, T, rfl, ⟨hi, hT, hR⟩, rfl, hF, ho⟩
  simp only [Fs] at hF ho
  have hTl : T.length = i := by rw [hT, List.length_map, List.length_take]; omega
  have g0 := ho.at_ (0, .cells (b.pd.map .p) false) (by simp)
  simp only [List.map_cons, List.map_nil] at g0
  refine Wc.seq (Wc.seq ?_)
  refine gR fun K F => ?_; simp only [go_sem, nZ, hF, g0]; apply F; clear F K
  refine Wc.cond (t := decide ((i : Int) < b.cs.length)) (by simp only [go_sem, nZ, hF]) (fun hc => ?_) (fun hc => ?_)
  ·have hil : i < b.cs.length := by have := of_decide_eq_true hc; omega
   obtain ⟨c, hcc⟩ : ∃ c, b.cs[i]? = some c := ⟨b.cs[i], List.getElem?_eq_getElem hil⟩
   have zc := hz c (List.mem_of_getElem? hcc)
   rw [dAllE_step hcc] at hR
   have hix := ixA ti65 rfl ti96 (j := i) (m := b.cs.length) (cs := b.cs.flatMap Chk.pd) hil hfl (by decide)
   have hca := rpK hcc
   have p69 := pf70 c zc
   have hT1 : T ++ [dcX c] = (b.cs.take (i + 1)).map dcX := by rw [take_snoc hcc, List.map_append, ← hT]; rfl
   generalize dcX c = X at *
   generalize dcE c = EC at *
   refine Wc.skip (Wc.seq (Wc.block (Wc.seqA (fun y => ∃ k7, y.ds = [] ∧ Fs y.e 66 [(1, .v (.c (.ref 0 0))), (2, .v (.c (.ref 1 0))), (4, .v (.c (.ref k4 0))), (5, P' (pI i)), (6, .v (.c (.ref k7 0))), (7, P' (pI EC))] ∧ OA y.s.nx y.s [(4, .v (.c xc), T.length, T.flatMap Rlp.pd)] ((k7, .cells (X.pd.map .p) false) :: [(k4, .cells [.p (pI b.w), .p (pI b.fr), xc] false), (1, .cells [.p (pI 0), .p (pI 0), .nils] false), (0, .cells (b.pd.map .p) false)])) ?_ ?_)))
   ·refine gR fun K F => ?_; simp only [go_sem, nZ, hF, g0, hix, hca]
    refine gP (p69) (by kernel_rfl) (by kernel_rfl) rfl rfl ?_
    simp only [go_sem, nZ, hF]; apply F; clear F K
    exact ⟨rfl, s1.nx + 14, rfl, by simp only [Fs, nZ, go_sem, nZ, hF], by (try simp only [St.put_adv, St.adv_adv, St.put_put, St.nx_put, St.nx_adv]); repeat (first | exact OA.mono ho (by omega) | refine OA.newB ?_ (by omega) rfl | refine OA.putB ?_ (by omega) | refine OA.advB ?_)⟩
   clear hF ho g0 e s1 p69
   rintro ⟨e, ds, s1⟩ ⟨k7, rfl, hF, ho⟩
   simp only [Fs] at hF ho
   have g7 := ho.at_ (k7, .cells (X.pd.map .p) false) (by simp)
   have g4 := ho.at_ (k4, .cells [.p (pI b.w), .p (pI b.fr), xc] false) (by simp)
   have g1 := ho.at_ (1, .cells [.p (pI 0), .p (pI 0), .nils] false) (by simp)
   simp only [List.map_cons, List.map_nil] at g7
   refine Wc.seq (Wc.seq ?_)
   refine gR fun K F => ?_; simp only [go_sem, nZ, hF]; apply F; clear F K
   refine Wc.cond (t := EC != 0) (by simp only [go_sem, nZ, hF]) (fun hc => ?_) (fun hc => ?_)
   ·have hn : EC ≠ 0 := by simpa using hc
    rw [if_pos hn] at hR
    subst hR
    rw [if_pos hn] at hE
    subst hE
    rw [if_neg hn] at hB
    subst hB
    refine gS fun K F => ?_; simp only [go_sem, nZ, hF, g1]; apply F; clear F K
    exact Wc.ret (Pf.ret [.cell 2 62, .tmp 3] [.agg [.p (pI 0), .p (pI 0), .nils], .c (.p (pI EC))] rfl rfl (by simp only [resultsD, go_sem, nZ, hF]) rfl)
   have hn : EC = 0 := by simpa using hc
   rw [if_neg (by simpa using hn)] at hR
   refine Wc.skip ?_
   refine gR fun K F => ?_; simp only [go_sem, nZ, hF, g4, g7]
   refine OA.app (L1 := []) (L2 := []) (by_ := 64) (n := T.length) (m := 1) (ys := X.pd) (cs := T.flatMap Rlp.pd) (b := s1.nx + 6) (M := (k7, .cells (X.pd.map .p) false) :: [(k4, .cells [.p (pI b.w), .p (pI b.fr), xc] false), (1, .cells [.p (pI 0), .p (pI 0), .nils] false), (0, .cells (b.pd.map .p) false)]) ?_ (Nat.le_refl _) ⟨_, ti60, rfl⟩ ti31 rfl rfl rfl (by decide) (by decide) (by simp only [go_sem, nZ]) rfl (by omega) fun x' s3 hs hnx => ?_
   ·exact by (try simp only [St.nx_put, St.nx_adv]); repeat (first | exact OA.mono ho (by omega) | refine OA.newB ?_ (by omega) rfl | refine OA.putB ?_ (by omega) | refine OA.advB ?_)
   obtain ⟨xc', rfl⟩ := (hs.own _ (List.mem_cons_self ..)).v
   have g4' := hs.at_ (k4, .cells [.p (pI b.w), .p (pI b.fr), xc] false) (by simp)
   simp only [go_sem, nZ, hF, g4']; apply F; clear F K
   have h5 := OA.set (M1 := []) (o' := .cells [.p (pI b.w), .p (pI b.fr), xc'] false) (OA.sub (M1 := [(k4, .cells [.p (pI b.w), .p (pI b.fr), xc] false), (1, .cells [.p (pI 0), .p (pI 0), .nils] false), (0, .cells (b.pd.map .p) false)]) hs (List.Sublist.refl _) (List.sublist_cons_self _ _)) rfl
   simp only [St.nx_put, St.nx_adv] at hnx
   refine gR fun K F => ?_; simp only [go_sem, nZ, hF, i64n i (by omega)]; apply F; clear F K
   refine ⟨b.cs.length - (i + 1), by omega, i + 1, k4, xc', T ++ [X], rfl, ⟨by omega, hT1, hR⟩, rfl, by simp only [Fs, nZ, go_sem, nZ, hF], ?_⟩
   have e1 : (T ++ [X]).length = T.length + 1 := by simp
   have e2 : (T ++ [X]).flatMap Rlp.pd = T.flatMap Rlp.pd ++ X.pd := by simp
   rw [e1, e2]
   exact OA.mono h5.adv (by simp only [St.nx_put, St.nx_adv]; omega)
  ·have hil : i = b.cs.length := by have := of_decide_eq_false hc; omega
   rw [hil, List.drop_length, dAllE] at hR
   rw [hil, List.take_length] at hT
   exact Wc.exit ⟨k4, xc, T, ⟨hR.symm, hT⟩, rfl, by simp only [Fs, nZ, go_sem, nZ, hF], by (try simp only [St.nx_put, St.nx_adv]); repeat (first | exact OA.mono ho (by omega) | refine OA.newB ?_ (by omega) rfl | refine OA.advB ?_)⟩
 clear hF ho e s1 hR0 xc k4
 rintro ⟨e, ds, s1⟩ ⟨k4, xc, T, ⟨rfl, hT⟩, rfl, hF, ho⟩
 simp only [Fs] at hF ho
 rw [if_neg (by decide), ← hT] at hE
 rw [← hT] at hB
 have hTl : T.length < 2^20 := by rw [hT, List.length_map]; exact hl
 clear hT p63
 have hown := ho.own _ (List.mem_cons_self ..)
 have hpu := hown.purS
 have hlen : lenD E0 60 (.v (.c xc)) = some (P' (.int .i64 T.length)) := hown.len ti60 rfl
 have hixs : ∀ j, j < T.length → indexAddrD E0 60 (.v (.c xc)) (.v (.c (.p (.int .i64 (j : Int))))) = some (.v (.c (.rp (T.flatMap Rlp.pd) (j * 4)))) := fun j hj => hown.ix ti60 rfl ti31 rfl hj (show 0 < 4 by decide)
 have hA0 : (T.drop 0).any (fun r => r.w != b.w) = T.any (fun r => r.w != b.w) := rfl
 generalize T.any (fun r => r.w != b.w) = A at hA0 hE
 refine Wc.seqR (fun y => A = false ∧ y.ds = [] ∧ Fs y.e 66 [(1, .v (.c (.ref 0 0))), (2, .v (.c (.ref 1 0))), (4, .v (.c (.ref k4 0)))] ∧ OA y.s.nx y.s [] [(k4, .cells [.p (pI b.w), .p (pI b.fr), xc] false), (1, .cells [.p (pI 0), .p (pI 0), .nils] false), (0, .cells (b.pd.map .p) false)]) ?_ ?_
 ·refine gS fun K F => ?_; simp only [go_sem, nZ, hF]; apply F; clear F K
  refine Wc.block (Wc.loop (fun k y => ∃ i : Nat, k = T.length - i ∧ (i ≤ T.length ∧ (T.drop i).any (fun r => r.w != b.w) = A) ∧ y.ds = [] ∧ Fs y.e 66 [(1, .v (.c (.ref 0 0))), (2, .v (.c (.ref 1 0))), (4, .v (.c (.ref k4 0))), (8, P' (pI i))] ∧ OA y.s.nx y.s [] [(k4, .cells [.p (pI b.w), .p (pI b.fr), xc] false), (1, .cells [.p (pI 0), .p (pI 0), .nils] false), (0, .cells (b.pd.map .p) false)]) ?_ (k := T.length) ⟨0, rfl, ⟨by omega, hA0⟩, rfl, by simp only [Fs, nZ, go_sem, nZ, hF], OA.mono (OA.sub ho (List.nil_sublist _) (List.Sublist.refl _)).adv (by simp only [St.nx_adv]; omega)⟩)
  clear hF ho e s1 hA0 hown
  rintro k ⟨e, ds, s1⟩ ⟨i, rfl, ⟨hi, hA⟩, rfl, hF, ho⟩
  simp only [Fs] at hF ho
  have g0 := ho.at_ (0, .cells (b.pd.map .p) false) (by simp)
  have g1 := ho.at_ (1, .cells [.p (pI 0), .p (pI 0), .nils] false) (by simp)
  have g4 := ho.at_ (k4, .cells [.p (pI b.w), .p (pI b.fr), xc] false) (by simp)
  simp only [List.map_cons, List.map_nil] at g0
  refine Wc.seq (Wc.seq ?_)
  refine gR fun K F => ?_; simp only [go_sem, nZ, hF, g4, hlen]; apply F; clear F K
  refine Wc.cond (t := decide ((i : Int) < T.length)) (by simp only [go_sem, nZ, hF]) (fun hc => ?_) (fun hc => ?_)
  ·have hil : i < T.length := by have := of_decide_eq_true hc; omega
   obtain ⟨c, hcc⟩ : ∃ c, T[i]? = some c := ⟨T[i], List.getElem?_eq_getElem hil⟩
   obtain ⟨h1, h2⟩ := List.getElem?_eq_some_iff.1 hcc
   rw [List.drop_eq_getElem_cons h1, h2, List.any_cons] at hA
   have hix := hixs i hil
   have hc2 : ∀ s, cellsAt s (.v (.c (.rp (T.flatMap Rlp.pd) (i * 4 + 2)))) = _ := rpA (off := i * 4 + 2) (pre := [pI c.w, .lst c.bs.length (c.bs.flatMap Bkt.pd)]) (rest := (T.drop (i + 1)).flatMap Rlp.pd) (by rw [← List.drop_drop, drop_flat (f := Rlp.pd) (k := 4) (fun _ => rfl) hcc]; rfl) (by rw [fRl]; omega)
   refine Wc.skip (Wc.seq (Wc.block (Wc.seq ?_)))
   refine Wc.regT fun K F => ?_; simp only [go_sem, nZ, hF, g4, hix, hc2, g0]; refine ⟨by rw [trOK_eq3]; rfl, F _ _ ?_⟩; clear F K
   refine Wc.cond (t := c.w != b.w) (by simp only [go_sem, nZ, hF]) (fun hc => ?_) (fun hc => ?_)
   ·rw [hc, Bool.true_or] at hA
    subst hA
    rw [if_pos rfl] at hE
    subst hE
    rw [if_neg (by decide)] at hB
    subst hB
    refine gS fun K F => ?_; simp only [go_sem, nZ, hF, g1]; apply F; clear F K
    exact Wc.ret (Pf.ret [.cell 2 62, .tmp 3] [.agg [.p (pI 0), .p (pI 0), .nils], .c (.p (pI 10))] rfl rfl (by simp only [resultsD, go_sem, nZ, hF]) rfl)
   rw [hc, Bool.false_or] at hA
   refine Wc.skip ?_
   refine gR fun K F => ?_; simp only [go_sem, nZ, hF, i64n i (by omega)]; apply F; clear F K
   exact ⟨T.length - (i + 1), by omega, i + 1, rfl, ⟨by omega, hA⟩, rfl, by simp only [Fs, nZ, go_sem, nZ, hF], by (try simp only [St.nx_put, St.nx_adv]); repeat (first | exact OA.mono ho (by omega) | refine OA.newB ?_ (by omega) rfl | refine OA.advB ?_)⟩
  ·have hil : i = T.length := by have := of_decide_eq_false hc; omega
   rw [hil, List.drop_length, List.any_nil] at hA
   exact Wc.exit ⟨hA.symm, rfl, by simp only [Fs, nZ, go_sem, nZ, hF], by (try simp only [St.nx_put, St.nx_adv]); repeat (first | exact OA.mono ho (by omega) | refine OA.newB ?_ (by omega) rfl | refine OA.advB ?_)⟩
 clear hF ho e s1 hA0 hown
 rintro ⟨e, ds, s1⟩ ⟨rfl, rfl, hF, ho⟩
 simp only [Fs] at hF ho
 rw [if_neg (by decide)] at hE
 subst hE
 rw [if_pos rfl] at hB
 subst hB
 have g4 := ho.at_ (k4, .cells [.p (pI b.w), .p (pI b.fr), xc] false) (by simp)
 have g1 := ho.at_ (1, .cells [.p (pI 0), .p (pI 0), .nils] false) (by simp)
 refine gS fun K F => ?_; simp only [go_sem, nZ, hF, g4, g1]; apply F; clear F K
 exact Wc.ret (Pf.ret [.cell 2 62, .tmp 3] [.agg [.p (pI b.w), .p (pI b.fr), xc], .c (.p (pI 0))] rfl rfl (by simp only [resultsD, go_sem, nZ, hF]) (by simp only [packD, purD, purVs, purV, purCs, purC_S hpu, purC_p]; rfl))
theorem o67 : E0.opn 67 = false := by kernel_rfl
theorem x67 : E0.xt 67 = none := by kernel_rfl
theorem cmpC_self (c : Chk) : cmpC c c = 0 := by
 unfold cmpC cmpI
 rw [if_neg (Int.lt_irrefl _), if_neg (Int.lt_irrefl _), if_neg (by decide)]
 exact cmpL_zero.2 rfl
theorem pf67 (c : Chk) (z : Cz c) : Pf E0 67 [.agg (c.pd.map .p), .agg (c.pd.map .p)] (P' (.bool true)) := by
 have p126 := pf126g c c z z
 rw [cmpC_self] at p126
 have b0e : ((0 : Int) == 0) = true := rfl
 refine Pf.body (fn := Tryz.f67) (by kernel_rfl) rfl ?_; simp only [List.map_cons, List.map_nil, List.cons_append, List.nil_append, List.length_cons, List.length_nil, Tryz.ntmps67, List.replicate, Nat.reduceSub, Nat.reduceAdd]
 refine gS fun K F => ?_; simp only [go_sem, nZ]; apply F; clear F K
 refine gS fun K F => ?_; simp only [go_sem, nZ]
 refine gP (p126) (by kernel_rfl) (by kernel_rfl) rfl rfl ?_
 simp only [go_sem, nZ, b0e, eqL, eqS, beq_self_eq_true, Bool.and_self]; apply F; clear F K
 exact Wc.ret (Pf.ret [.tmp 4] [.c (.p (.bool true))] rfl rfl (by simp only [resultsD, go_sem, nZ]) rfl)
theorem pf34 (b : Blk) (hl : b.cs.length < 2^40) (hz : ∀ c ∈ b.cs, Cz c) : Pf E0 34 [.agg (b.pd.map .p), .agg (b.pd.map .p)] (P' (.bool true)) := by
 have hfl := fK b.cs
 refine Pf.body (fn := Tryz.f34) (by kernel_rfl) rfl ?_; simp only [List.map_cons, List.map_nil, List.cons_append, List.nil_append, List.length_cons, List.length_nil, Tryz.ntmps34, List.replicate, Nat.reduceSub, Nat.reduceAdd]
 refine gS fun K F => ?_; simp only [go_sem, nZ]; apply F; clear F K
 refine Wc.seq (Wc.seq ?_)
 refine gR fun K F => ?_; simp only [go_sem, nZ, bne_self_eq_false]; apply F; clear F K
 refine gF (by simp only [go_sem, nZ]) ?_
 refine Wc.seqR (fun y => y.ds = [] ∧ Fs y.e 53 []) ?_ ?_
 ·refine gS fun K F => ?_; simp only [go_sem, nZ]; apply F; clear F K
  refine Wc.block (Wc.loop (fun q y => ∃ i : Nat, q = b.cs.length - i ∧ i ≤ b.cs.length ∧ y.ds = [] ∧ Fs y.e 53 [(2, .v (.c (.ref 0 0))), (3, .v (.c (.ref 1 0))), (5, P' (pI i))] ∧ OA y.s.nx y.s [] [(1, .cells (b.pd.map .p) false), (0, .cells (b.pd.map .p) false)]) ?_ (k := b.cs.length) ⟨0, rfl, by omega, rfl, by simp only [Fs, nZ, go_sem, nZ], by (try simp only [St.put_adv, St.adv_adv, St.put_put, St.nx_put, St.nx_adv]); repeat (first | exact OA.mono s00_oa (by omega) | refine OA.newB ?_ (by omega) rfl | refine OA.putB ?_ (by omega) | refine OA.advB ?_)⟩)
  rintro q ⟨e, ds, s1⟩ ⟨i, rfl, hi, rfl, hF, ho⟩
  simp only [Fs] at hF ho
  have g0 := ho.at_ (0, .cells (b.pd.map .p) false) (by simp)
  have g1 := ho.at_ (1, .cells (b.pd.map .p) false) (by simp)
  simp only [List.map_cons, List.map_nil] at g0 g1
  refine Wc.seq (Wc.seq ?_)
  refine gR fun K F => ?_; simp only [go_sem, nZ, hF, g0]; apply F; clear F K
  refine Wc.cond (t := decide ((i : Int) < b.cs.length)) (by simp only [go_sem, nZ, hF]) (fun hc => ?_) (fun hc => ?_)
  ·have hil : i < b.cs.length := by have := of_decide_eq_true hc; omega
   obtain ⟨c, hcc⟩ : ∃ c, b.cs[i]? = some c := ⟨b.cs[i], List.getElem?_eq_getElem hil⟩
   have hix := ixA ti65 rfl ti96 (j := i) (m := b.cs.length) (cs := b.cs.flatMap Chk.pd) hil hfl (by decide)
   have hca := rpK hcc
   have p67 := pf67 c (hz c (List.mem_of_getElem? hcc))
   refine Wc.skip (Wc.seq (Wc.block (Wc.seq ?_)))
   refine Wc.regT fun K F => ?_; simp only [go_sem, nZ, hF, g0, g1, hix, hca]
   refine gP (p67) (by kernel_rfl) (by kernel_rfl) rfl rfl ?_
   simp only [go_sem, nZ, hF, o67, x67]; refine ⟨by rw [trOK_eq3]; rfl, F _ _ ?_⟩; clear F K
   refine gX (by simp only [go_sem, nZ, hF]) ?_
   refine Wc.skip ?_
   refine gR fun K F => ?_; simp only [go_sem, nZ, hF, i64n i (by omega)]; apply F; clear F K
   exact ⟨b.cs.length - (i + 1), by omega, i + 1, rfl, by omega, rfl, by simp only [Fs, nZ, go_sem, nZ, hF], by (try simp only [St.put_adv, St.adv_adv, St.put_put, St.nx_put, St.nx_adv]); repeat (first | exact OA.mono ho (by omega) | refine OA.newB ?_ (by omega) rfl | refine OA.putB ?_ (by omega) | refine OA.advB ?_)⟩
  ·exact Wc.exit ⟨rfl, by simp only [Fs, nZ, go_sem, nZ, hF]⟩
 rintro ⟨e, ds, s1⟩ ⟨rfl, hF⟩
 simp only [Fs] at hF
 refine gS fun K F => ?_; simp only [go_sem, nZ, hF]; apply F; clear F K
 exact Wc.ret (Pf.ret [.tmp 4] [.c (.p (.bool true))] rfl rfl (by simp only [resultsD, go_sem, nZ, hF]) rfl)
def grK (c : Chk) : Bool := lbsG c.lb || decide (600 < (c.d.length : Int))
def grB (b : Blk) : Bool := b.cs.any grK || decide (8 < (b.cs.length : Int))
theorem pf36 (b : Blk) (hl : b.cs.length < 2^60) (hb : ∀ c ∈ b.cs, c.lb.length < 2^60) : Pf E0 36 [.agg (b.pd.map .p)] (P' (.bool (grB b))) := by
 have hfl := fK b.cs
 have hR0 : ((b.cs.drop 0).any grK || decide (8 < (b.cs.length : Int))) = grB b := rfl
 generalize grB b = R at hR0 ⊢
 refine Pf.body (fn := Tryz.f36) (by kernel_rfl) rfl ?_; simp only [List.map_cons, List.map_nil, List.cons_append, List.nil_append, List.length_cons, List.length_nil, Tryz.ntmps36, List.replicate, Nat.reduceSub, Nat.reduceAdd]
 refine gS fun K F => ?_; simp only [go_sem, nZ]; apply F; clear F K
 refine Wc.seqR (fun y => decide (8 < (b.cs.length : Int)) = R ∧ y.ds = [] ∧ Fs y.e 32 [(1, .v (.c (.ref 0 0)))] ∧ OA y.s.nx y.s [] [(0, .cells (b.pd.map .p) false)]) ?_ ?_
 ·refine gS fun K F => ?_; simp only [go_sem, nZ]; apply F; clear F K
  refine Wc.block (Wc.loop (fun q y => ∃ i : Nat, q = b.cs.length - i ∧ (i ≤ b.cs.length ∧ ((b.cs.drop i).any grK || decide (8 < (b.cs.length : Int))) = R) ∧ y.ds = [] ∧ Fs y.e 32 [(1, .v (.c (.ref 0 0))), (3, P' (pI i))] ∧ OA y.s.nx y.s [] [(0, .cells (b.pd.map .p) false)]) ?_ (k := b.cs.length) ⟨0, rfl, ⟨by omega, hR0⟩, rfl, by simp only [Fs, nZ, go_sem, nZ], by (try simp only [St.put_adv, St.adv_adv, St.put_put, St.nx_put, St.nx_adv]); repeat (first | exact OA.mono s00_oa (by omega) | refine OA.newB ?_ (by omega) rfl | refine OA.putB ?_ (by omega) | refine OA.advB ?_)⟩)
  rintro q ⟨e, ds, s1⟩ ⟨i, rfl, ⟨hi, hR⟩, rfl, hF, ho⟩
  simp only [Fs] at hF ho
  have g0 := ho.at_ (0, .cells (b.pd.map .p) false) (by simp)
  simp only [List.map_cons, List.map_nil] at g0
  refine Wc.seq (Wc.seq ?_)
  refine gR fun K F => ?_; simp only [go_sem, nZ, hF, g0]; apply F; clear F K
  refine Wc.cond (t := decide ((i : Int) < b.cs.length)) (by simp only [go_sem, nZ, hF]) (fun hc => ?_) (fun hc => ?_)
  ·have hil : i < b.cs.length := by have := of_decide_eq_true hc; omega
   obtain ⟨c, hcc⟩ : ∃ c, b.cs[i]? = some c := ⟨b.cs[i], List.getElem?_eq_getElem hil⟩
   obtain ⟨h1, h2⟩ := List.getElem?_eq_some_iff.1 hcc
   rw [List.drop_eq_getElem_cons h1, h2, List.any_cons] at hR
   have hix := ixA ti65 rfl ti96 (j := i) (m := b.cs.length) (cs := b.cs.flatMap Chk.pd) hil hfl (by decide)
   have hd0 : (b.cs.flatMap Chk.pd).drop (i * 16) = c.pd ++ (b.cs.drop (i + 1)).flatMap Chk.pd := drop_flat (f := Chk.pd) (k := 16) (fun _ => rfl) hcc
   have hc1 : ∀ s, cellsAt s (.v (.c (.rp (b.cs.flatMap Chk.pd) (i * 16 + 1)))) = some ((c.pd.drop 1 ++ (b.cs.drop (i + 1)).flatMap Chk.pd).map .p) := fun s => rpA (off := i * 16 + 1) (by rw [← List.drop_drop, hd0]; rfl) (by rw [hfl]; omega) s
   have hc15 : ∀ s, cellsAt s (.v (.c (.rp (b.cs.flatMap Chk.pd) (i * 16 + 15)))) = some ((c.pd.drop 15 ++ (b.cs.drop (i + 1)).flatMap Chk.pd).map .p) := fun s => rpA (off := i * 16 + 15) (by rw [← List.drop_drop, hd0]; rfl) (by rw [hfl]; omega) s
   simp only [Chk.pd, List.drop_succ_cons, List.drop_zero] at hc1 hc15
   have p39 := pf39 c.lb (hb c (List.mem_of_getElem? hcc))
   have hg : grK c = (lbsG c.lb || decide (600 < (c.d.length : Int))) := rfl
   refine Wc.skip (Wc.seq (Wc.block (Wc.seq ?_)))
   cases k1 : lbsG c.lb with
   | true =>
    rw [k1] at p39
    rw [hg, k1, Bool.true_or, Bool.true_or, Bool.true_or] at hR
    subst hR
    refine gR fun K F => ?_; simp only [go_sem, nZ, hF, g0, hix, hc1]
    refine gP (p39) (by kernel_rfl) (by kernel_rfl) rfl rfl ?_
    simp only [go_sem, nZ, hF]; apply F; clear F K
    refine gT (by simp only [go_sem, nZ, hF]) ?_
    refine gS fun K F => ?_; simp only [go_sem, nZ, hF]; apply F; clear F K
    exact Wc.ret (Pf.ret [.tmp 2] [.c (.p (.bool true))] rfl rfl (by simp only [resultsD, go_sem, nZ, hF]) rfl)
   | false =>
    rw [k1] at p39
    rw [hg, k1, Bool.false_or] at hR
    refine gR fun K F => ?_; simp only [go_sem, nZ, hF, g0, hix, hc1]
    refine gP (p39) (by kernel_rfl) (by kernel_rfl) rfl rfl ?_
    simp only [go_sem, nZ, hF, g0, hix, hc15]; apply F; clear F K
    refine Wc.cond (t := decide (600 < (c.d.length : Int))) (by simp only [go_sem, nZ, hF]) (fun hc => ?_) (fun hc => ?_)
    ·rw [hc, Bool.true_or, Bool.true_or] at hR
     subst hR
     refine gS fun K F => ?_; simp only [go_sem, nZ, hF]; apply F; clear F K
     exact Wc.ret (Pf.ret [.tmp 2] [.c (.p (.bool true))] rfl rfl (by simp only [resultsD, go_sem, nZ, hF]) rfl)
    rw [hc, Bool.false_or] at hR
    refine Wc.skip ?_
    refine gR fun K F => ?_; simp only [go_sem, nZ, hF, i64n i (by omega)]; apply F; clear F K
    exact ⟨b.cs.length - (i + 1), by omega, i + 1, rfl, ⟨by omega, hR⟩, rfl, by simp only [Fs, nZ, go_sem, nZ, hF], by (try simp only [St.put_adv, St.adv_adv, St.put_put, St.nx_put, St.nx_adv]); repeat (first | exact OA.mono ho (by omega) | refine OA.newB ?_ (by omega) rfl | refine OA.putB ?_ (by omega) | refine OA.advB ?_)⟩
  ·have hil : i = b.cs.length := by have := of_decide_eq_false hc; omega
   rw [hil, List.drop_length, List.any_nil, Bool.false_or] at hR
   exact Wc.exit ⟨hR, rfl, by simp only [Fs, nZ, go_sem, nZ, hF], by (try simp only [St.nx_put, St.nx_adv]); repeat (first | exact OA.mono ho (by omega) | refine OA.newB ?_ (by omega) rfl | refine OA.advB ?_)⟩
 rintro ⟨e, ds, s1⟩ ⟨rfl, rfl, hF, ho⟩
 simp only [Fs] at hF ho
 have g0 := ho.at_ (0, .cells (b.pd.map .p) false) (by simp)
 simp only [List.map_cons, List.map_nil] at g0
 refine gS fun K F => ?_; simp only [go_sem, nZ, hF, g0]; apply F; clear F K
 exact Wc.ret (Pf.ret [.tmp 2] [.c (.p (.bool (decide (8 < (b.cs.length : Int)))))] rfl rfl (by simp only [resultsD, go_sem, nZ, hF]) rfl)
theorem grB_z {b : Blk} (h : grB b = false) : b.cs.length ≤ 8 ∧ ∀ c ∈ b.cs, Cz c := by
 unfold grB at h
 rw [Bool.or_eq_false_iff, List.any_eq_false, decide_eq_false_iff_not] at h
 refine ⟨by omega, fun c hc => ?_⟩
 have := h.1 c hc
 simp only [grK, Bool.or_eq_true, decide_eq_true_eq, not_or, Bool.not_eq_true] at this
 obtain ⟨h1, h2⟩ := lbsG_sz this.1
 exact ⟨h1, h2, by omega⟩
set_option maxHeartbeats 8000000
set_option maxRecDepth 10000
set_option linter.unusedSimpArgs false
set_option linter.unusedVariables false
theorem encAll_dec : ∀ {l : List Rlp} {cs : List Chk}, encAll l = some cs → dAllE cs = 0 ∧ cs.map dcX = l ∧ (∀ r ∈ l, Rz r → True) ∧ cs.length = l.length
 | [], cs, h => by simp only [encAll, Option.some.injEq] at h; subst h; exact ⟨rfl, rfl, fun _ _ _ => trivial, rfl⟩
 | r :: t, cs, h => by
  rw [encAll] at h
  cases he : encLo r with
  | none => rw [encCk, he] at h; cases h
  | some d =>
   rw [encCk, he] at h
   simp only [Option.map_some] at h
   cases ht : encAll t with
   | none => rw [ht] at h; cases h
   | some q =>
    rw [ht] at h
    simp only [Option.map_some, Option.some.injEq] at h
    subst h
    obtain ⟨i1, i2, _, i3⟩ := encAll_dec ht
    have hd := decL_enc he
    refine ⟨?_, ?_, fun _ _ _ => trivial, by simp [i3]⟩
    ·have : dcE ⟨6, r.lb, (rlpZ r.bs).g, d⟩ = 0 := by
      unfold dcE
      simp only [if_pos, hd, Option.isSome_some]
     rw [dAllE, this, if_neg (by decide), i1]
    ·have : dcX ⟨6, r.lb, (rlpZ r.bs).g, d⟩ = r := by
      unfold dcX dcR
      simp only [if_pos, hd, Option.getD_some]
     rw [List.map_cons, this, i2]
theorem encAll_z {l : List Rlp} {cs : List Chk} (h : encAll l = some cs) (hz : ∀ r ∈ l, Rz r) : ∀ c ∈ cs, Cz c := by
 induction l generalizing cs with
 | nil => simp only [encAll, Option.some.injEq] at h; subst h; intro c hc; cases hc
 | cons r t ih =>
  rw [encAll] at h
  cases he : encCk r with
  | none => rw [he] at h; cases h
  | some d =>
   rw [he] at h
   simp only at h
   cases ht : encAll t with
   | none => rw [ht] at h; cases h
   | some q =>
    rw [ht] at h
    simp only [Option.map_some, Option.some.injEq] at h
    subst h
    intro c hc
    rcases List.mem_cons.1 hc with rfl | hc
    ·exact encCk_z (hz r (by simp)) he
    ·exact ih ht (fun r hr => hz r (by simp [hr])) c hc
theorem blk_of {x : RSet} {id : Int} (h : blkE x id = 0) (hz : ∀ r ∈ x.rs, Rz r) : ofbE (blkB x id) = 0 ∧ ofbS (blkB x id) = x ∧ (blkB x id).id = id ∧ (blkB x id).w = x.w ∧ (∀ c ∈ (blkB x id).cs, Cz c) ∧ (blkB x id).cs.length = x.rs.length := by
 have h' := h
 unfold blkE at h'
 split at h'
 ·cases h'
 ·rename_i hs
  have hs' : setOK x = true := by simpa using hs
  cases he : encAll x.rs with
  | none => rw [he] at h'; cases h'
  | some cs =>
   rw [he] at h'
   simp only at h'
   have e : blkB x id = ⟨id, x.w, x.fr, cs⟩ := by unfold blkB; rw [if_pos h, he]
   obtain ⟨i1, i2, _, i3⟩ := encAll_dec he
   unfold setOK at hs'
   simp only [Bool.and_eq_true, Bool.not_eq_true', Bool.or_eq_false_iff, decide_eq_false_iff_not] at hs'
   have hm := rsOK_mem hs'.2
   have hw : x.w ≠ 0 := by have := hs'.1.1; omega
   have ha : (cs.map dcX).any (fun r => r.w != x.w) = false := by
    rw [i2, List.any_eq_false]
    intro r hr
    have := (hm r hr).1
    simp [this]
   have e2 : ofbE ⟨id, x.w, x.fr, cs⟩ = 0 := by
    unfold ofbE
    rw [if_neg (by simpa using h')]
    simp only
    rw [if_neg hw, i1, if_neg (by decide), ha, if_neg (by decide)]
   rw [e]
   refine ⟨e2, ?_, rfl, rfl, encAll_z he hz, i3⟩
   unfold ofbS
   rw [if_pos e2]
   simp only [i2]
theorem blk_ne {x : RSet} {id : Int} (h : blkE x id ≠ 0) : blkB x id = zBlk := by unfold blkB; rw [if_neg h]
theorem blkB_z {x : RSet} {id : Int} (hl : x.rs.length ≤ 8) (hz : ∀ r ∈ x.rs, Rz r) : (blkB x id).cs.length ≤ 8 ∧ ∀ c ∈ (blkB x id).cs, Cz c := by
 by_cases h : blkE x id = 0
 ·obtain ⟨_, _, _, _, o5, o6⟩ := blk_of h hz
  exact ⟨by omega, o5⟩
 ·rw [blk_ne h]
  exact ⟨Nat.zero_le _, fun c hc => by cases hc⟩
theorem ofbS_z {b : Blk} (hl : b.cs.length ≤ 8) (hz : ∀ c ∈ b.cs, Cz c) : (ofbS b).rs.length ≤ 8 ∧ ∀ r ∈ (ofbS b).rs, Rz r := by
 unfold ofbS
 split
 ·refine ⟨by simpa using hl, fun r hr => ?_⟩
  obtain ⟨c, hc, rfl⟩ := List.mem_map.1 hr
  exact dcX_z (hz c hc)
 ·exact ⟨Nat.zero_le _, fun r hr => by cases hr⟩
theorem law9 (x : RSet) (id : Int) (b : Blk) (hl : x.rs.length < 2^60) (hlb : ∀ r ∈ x.rs, r.lb.length < 2^60) (hbl : b.cs.length < 2^60) (hbb : ∀ c ∈ b.cs, c.lb.length < 2^60) : ∃ s', Ev E0 (.o 9) [.agg (x.pd.map .p), .c (.p (pI id)), .agg (b.pd.map .p)] s00 (P' (.bool true)) s' := by
 have main : Wc E0 none (Tryz.f9.body.get rfl) { e := [V.agg (x.pd.map .p), .c (.p (pI id)), .agg (b.pd.map .p)].map .v ++ List.replicate (Tryz.f9.ntmps - 3) (.tup []), ds := [], s := s00 } (bodyQ E0 Tryz.f9 fun d _ => d = P' (.bool true)) := by
  show Wc E0 none _ _ _
  simp only [List.map_cons, List.map_nil, List.cons_append, List.nil_append, Tryz.ntmps9, List.replicate, Nat.reduceSub, Nat.reduceAdd, s00]
  have p35 := pf35 x hl hlb
  have p36 := pf36 b hbl hbb
  refine gS fun K F => ?_; simp only [go_sem, nZ]; apply F; clear F K
  refine Wc.seq (Wc.seq ?_)
  cases k1 : grT x with
  | true =>
   rw [k1] at p35
   refine gR fun K F => ?_; simp only [go_sem, nZ]
   refine gP (p35) (by kernel_rfl) (by kernel_rfl) rfl rfl ?_
   simp only [go_sem, nZ]; apply F; clear F K
   refine gT (by simp only [go_sem, nZ]) ?_
   refine gS fun K F => ?_; simp only [go_sem, nZ]
   refine gP (pf12) (by kernel_rfl) (by kernel_rfl) rfl rfl ?_
   simp only [go_sem, nZ]; apply F; clear F K
   refine Wc.ret (thenD_ret ?_)
   exact Op.ret [.tmp 6] [.c (.p (.bool true))] rfl rfl (by simp only [resultsD, go_sem, nZ]) rfl
  | false =>
  rw [k1] at p35
  cases k2 : grB b with
  | true =>
   rw [k2] at p36
   refine gR fun K F => ?_; simp only [go_sem, nZ]
   refine gP (p35) (by kernel_rfl) (by kernel_rfl) rfl rfl ?_
   simp only [go_sem, nZ]
   refine gP (p36) (by kernel_rfl) (by kernel_rfl) rfl rfl ?_
   simp only [go_sem, nZ]; apply F; clear F K
   refine gT (by simp only [go_sem, nZ]) ?_
   refine gS fun K F => ?_; simp only [go_sem, nZ]
   refine gP (pf12) (by kernel_rfl) (by kernel_rfl) rfl rfl ?_
   simp only [go_sem, nZ]; apply F; clear F K
   refine Wc.ret (thenD_ret ?_)
   exact Op.ret [.tmp 6] [.c (.p (.bool true))] rfl rfl (by simp only [resultsD, go_sem, nZ]) rfl
  | false =>
  rw [k2] at p36
  refine gR fun K F => ?_; simp only [go_sem, nZ]
  refine gP (p35) (by kernel_rfl) (by kernel_rfl) rfl rfl ?_
  simp only [go_sem, nZ]
  refine gP (p36) (by kernel_rfl) (by kernel_rfl) rfl rfl ?_
  simp only [go_sem, nZ]; apply F; clear F K
  refine gF (by simp only [go_sem, nZ]) ?_
  clear p35 p36 hl hlb hbl hbb
  obtain ⟨hx8, hxz⟩ := grT_z k1
  obtain ⟨hb8, hbz⟩ := grB_z k2
  clear k1 k2
  have p31 := pf31 x id (by omega) hxz
  have p32 := pf32 x id (by omega) hxz
  have p37 := pf37 b (by omega) hbz
  have p38 := pf38 b (by omega) hbz
  obtain ⟨hB8, hBz⟩ := blkB_z (id := id) hx8 hxz
  obtain ⟨hS8, hSz⟩ := ofbS_z hb8 hbz
  generalize blkB x id = B at *
  generalize blkE x id = E at *
  generalize ofbS b = S at *
  generalize ofbE b = U at *
  have p34 := pf34 B (by omega) hBz
  have p33 := pf33 S (by omega) hSz
  clear hx8 hxz hb8 hbz hB8 hBz hS8 hSz
  simp only [resB] at p31 p32
  simp only [resS] at p37 p38
  have d1 : (E == E) = true := beq_self_eq_true E
  have d2 : (U == U) = true := beq_self_eq_true U
  refine gS fun K F => ?_; simp only [go_sem, nZ]
  refine gP (p31) (by kernel_rfl) (by kernel_rfl) rfl rfl ?_
  simp only [go_sem, nZ]; apply F; clear F K
  refine gS fun K F => ?_; simp only [go_sem, nZ]
  refine gP (p32) (by kernel_rfl) (by kernel_rfl) rfl rfl ?_
  simp only [go_sem, nZ]; apply F; clear F K
  refine gS fun K F => ?_; simp only [go_sem, nZ]
  refine gP (p37) (by kernel_rfl) (by kernel_rfl) rfl rfl ?_
  simp only [go_sem, nZ]; apply F; clear F K
  refine gS fun K F => ?_; simp only [go_sem, nZ]
  refine gP (p38) (by kernel_rfl) (by kernel_rfl) rfl rfl ?_
  simp only [go_sem, nZ]; apply F; clear F K
  refine gS fun K F => ?_; simp only [go_sem, nZ, d1, d2]
  refine gP (p34) (by kernel_rfl) (by kernel_rfl) rfl rfl ?_
  simp only [go_sem, nZ, d1, d2]
  refine gP (p33) (by kernel_rfl) (by kernel_rfl) rfl rfl ?_
  simp only [go_sem, nZ, d1, d2]
  refine gP (pf12) (by kernel_rfl) (by kernel_rfl) rfl rfl ?_
  simp only [go_sem, nZ]; apply F; clear F K
  exact Wc.ret (Op.ret [.tmp 6] [.c (.p (.bool true))] rfl rfl (by simp only [resultsD, go_sem, nZ]) rfl)
 obtain ⟨n, d, s', h1, h2⟩ := Ev.body (g := 9) (args := [V.agg (x.pd.map .p), .c (.p (pI id)), .agg (b.pd.map .p)]) (by kernel_rfl) rfl main
 subst h2
 exact ⟨s', n + 1, h1⟩
end Go.Proofs.YtedcnhbblgmdnaaGreat.Ab
