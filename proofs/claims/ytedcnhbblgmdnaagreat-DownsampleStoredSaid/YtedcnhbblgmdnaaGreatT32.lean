/- A part of the proof: an evaluator of the code, its contracts, the law. No condition. -/
import Derived.Test.YtedcnhbblgmdnaaGreatT31
namespace Go.Proofs.YtedcnhbblgmdnaaGreat.Ab
set_option maxHeartbeats 8000000
set_option maxRecDepth 10000
set_option linter.unusedSimpArgs false
set_option linter.unusedVariables false
/-- Why chunks are no rollups. -/
def dAllE : List Chk → Int
  | [] => 0
  | c :: t => if dcE c ≠ 0 then dcE c else dAllE t
theorem dAllE_step {l : List Chk} {i : Nat} {c : Chk} (h : l[i]? = some c) : dAllE (l.drop i) = if dcE c ≠ 0 then dcE c else dAllE (l.drop (i + 1)) := by
  obtain ⟨h1, h2⟩ := List.getElem?_eq_some_iff.1 h
  rw [List.drop_eq_getElem_cons h1, h2, dAllE]
def zRS : RSet := ⟨0, 0, []⟩
/-- The set of a block: why not, the set. -/
def ofbE (b : Blk) : Int := if blkC b ≠ 0 then 1 else if b.w = 0 then 8 else if dAllE b.cs ≠ 0 then dAllE b.cs else if (b.cs.map dcX).any (fun r => r.w != b.w) then 10 else 0
def ofbS (b : Blk) : RSet := if ofbE b = 0 then ⟨b.w, b.fr, b.cs.map dcX⟩ else zRS
def resS (x : RSet) (e : Int) : D := .tup [.agg (x.pd.map .p), .c (.p (pI e))]
theorem Own.ix {t e : Nat} {i ie : TI} {s : St} {es n j : Nat} {c : C} {cs : List Pd} (h : Own s es (.v (.c c)) n cs) (ht : E0.ti t = some i) (hk : i.kn = .slice e) (he : E0.ti e = some ie) (hs : ie.size = es) (hj : j < n) (h0 : 0 < es) :
    indexAddrD E0 t (.v (.c c)) (.v (.c (.p (.int .i64 (j : Int))))) = some (.v (.c (.rp cs (j * es)))) := by
  obtain ⟨hl, ⟨h1, h2⟩ | ⟨id, h1, _⟩⟩ := h
  · omega
  · simp only [D.v.injEq, V.c.injEq] at h1
    subst h1 hs
    have hm : (j + 1) * ie.size ≤ n * ie.size := Nat.mul_le_mul_right _ (by omega)
    unfold indexAddrD
    rw [ht]
    simp only [D.int?, hk, he, Int.toNat_natCast]
    rw [if_pos ⟨Int.natCast_nonneg j, by omega, by omega, h0⟩]
/-- 37: OfBlock -/
theorem pf37 (b : Blk) (hl : b.cs.length < 2^20) (hz : ∀ c ∈ b.cs, Cz c) : Pf E0 37 [.agg (b.pd.map .p)] (resS (ofbS b) (ofbE b)) := by
  have hfl := fK b.cs
  have p63 := pf63 b (by omega) hz
  generalize hE : ofbE b = V
  generalize hB : ofbS b = B
  unfold ofbS at hB
  rw [hE] at hB
  unfold ofbE at hE
  generalize blkC b = W at *
  refine Pf.body (fn := Tryz.f37) (by kernel_rfl) rfl ?_; simp only [List.map_cons, List.map_nil, List.cons_append, List.nil_append, List.length_cons, List.length_nil, Tryz.ntmps37, List.replicate, Nat.reduceSub, Nat.reduceAdd]
  refine Wc.seq ?_
  refine Wc.reg fun K hK => ?_; simp only [go_sem, ti3, ti4, ti5, ti9, ti32, ti22, ti29, ti31, ti60, ti62, ti65, ti67, ti94, ti96, Int.natCast_zero]; refine hK _ _ ?_; clear hK K
  refine Wc.seq (Wc.seq ?_)
  by_cases hW : W = 0
  case neg =>
    rw [if_pos hW] at hE
    subst hE
    rw [if_neg (by decide)] at hB
    subst hB
    have d0 : (W != 0) = true := by simpa using hW
    refine Wc.reg fun K hK => ?_; simp only [go_sem, ti3, ti4, ti5, ti9, ti32, ti22, ti29, ti31, ti60, ti62, ti65, ti67, ti94, ti96, Int.natCast_zero]
    refine wpCall.pf (p63) (by kernel_rfl) (by kernel_rfl) rfl rfl ?_
    simp only [go_sem, ti3, ti4, ti5, ti9, ti32, ti22, ti29, ti31, ti60, ti62, ti65, ti67, ti94, ti96, Int.natCast_zero, d0]; refine hK _ _ ?_; clear hK K
    refine Wc.cond (t := true) (by simp only [go_sem, ti3, ti4, ti5, ti9, ti32, ti22, ti29, ti31, ti60, ti62, ti65, ti67, ti94, ti96, Int.natCast_zero, d0]) (fun _ => ?_) (fun hc => by cases hc)
    refine Wc.seq ?_
    refine Wc.reg fun K hK => ?_; simp only [go_sem, ti3, ti4, ti5, ti9, ti32, ti22, ti29, ti31, ti60, ti62, ti65, ti67, ti94, ti96, Int.natCast_zero]; refine hK _ _ ?_; clear hK K
    exact Wc.ret (Pf.ret [.cell 2 62, .tmp 3] [.agg [.p (pI 0), .p (pI 0), .nils], .c (.p (pI 1))] rfl rfl (by simp only [resultsD, go_sem, ti3, ti4, ti5, ti9, ti32, ti22, ti29, ti31, ti60, ti62, ti65, ti67, ti94, ti96, Int.natCast_zero]) rfl)
  subst hW
  rw [if_neg (by decide)] at hE
  refine Wc.reg fun K hK => ?_; simp only [go_sem, ti3, ti4, ti5, ti9, ti32, ti22, ti29, ti31, ti60, ti62, ti65, ti67, ti94, ti96, Int.natCast_zero]
  refine wpCall.pf (p63) (by kernel_rfl) (by kernel_rfl) rfl rfl ?_
  simp only [go_sem, ti3, ti4, ti5, ti9, ti32, ti22, ti29, ti31, ti60, ti62, ti65, ti67, ti94, ti96, Int.natCast_zero, b00]; refine hK _ _ ?_; clear hK K
  refine Wc.cond (t := false) (by simp only [go_sem, ti3, ti4, ti5, ti9, ti32, ti22, ti29, ti31, ti60, ti62, ti65, ti67, ti94, ti96, Int.natCast_zero, b00]) (fun hc => by cases hc) (fun _ => Wc.skip ?_)
  refine Wc.seq (Wc.seq ?_)
  by_cases hw : b.w = 0
  · rw [if_pos hw] at hE
    subst hE
    rw [if_neg (by decide)] at hB
    subst hB
    have d0 : (b.w == 0) = true := by simpa using hw
    refine Wc.reg fun K hK => ?_; simp only [go_sem, ti3, ti4, ti5, ti9, ti32, ti22, ti29, ti31, ti60, ti62, ti65, ti67, ti94, ti96, Int.natCast_zero, d0]; refine hK _ _ ?_; clear hK K
    refine Wc.cond (t := true) (by simp only [go_sem, ti3, ti4, ti5, ti9, ti32, ti22, ti29, ti31, ti60, ti62, ti65, ti67, ti94, ti96, Int.natCast_zero, d0]) (fun _ => ?_) (fun hc => by cases hc)
    refine Wc.seq ?_
    refine Wc.reg fun K hK => ?_; simp only [go_sem, ti3, ti4, ti5, ti9, ti32, ti22, ti29, ti31, ti60, ti62, ti65, ti67, ti94, ti96, Int.natCast_zero]; refine hK _ _ ?_; clear hK K
    exact Wc.ret (Pf.ret [.cell 2 62, .tmp 3] [.agg [.p (pI 0), .p (pI 0), .nils], .c (.p (pI 8))] rfl rfl (by simp only [resultsD, go_sem, ti3, ti4, ti5, ti9, ti32, ti22, ti29, ti31, ti60, ti62, ti65, ti67, ti94, ti96, Int.natCast_zero]) rfl)
  rw [if_neg hw] at hE
  have d0 : (b.w == 0) = false := by simpa using hw
  refine Wc.reg fun K hK => ?_; simp only [go_sem, ti3, ti4, ti5, ti9, ti32, ti22, ti29, ti31, ti60, ti62, ti65, ti67, ti94, ti96, Int.natCast_zero, d0]; refine hK _ _ ?_; clear hK K
  refine Wc.cond (t := false) (by simp only [go_sem, ti3, ti4, ti5, ti9, ti32, ti22, ti29, ti31, ti60, ti62, ti65, ti67, ti94, ti96, Int.natCast_zero, d0]) (fun hc => by cases hc) (fun _ => Wc.skip ?_)
  refine Wc.seqA (fun y => ∃ k4 xc, y.ds = [] ∧ Fs y.e 62 [(1, .v (.c (.ref 0 0))), (2, .v (.c (.ref 1 0))), (4, .v (.c (.ref k4 0)))] ∧ OA y.s.nx y.s [(4, .v (.c xc), 0, [])] [(k4, .cells [.p (pI b.w), .p (pI b.fr), xc] false), (1, .cells [.p (pI 0), .p (pI 0), .nils] false), (0, .cells (b.pd.map .p) false)]) ?_ ?_
  · refine Wc.reg fun K hK => ?_; simp only [go_sem, ti3, ti4, ti5, ti9, ti32, ti22, ti29, ti31, ti60, ti62, ti65, ti67, ti94, ti96, Int.natCast_zero]; refine hK _ _ ?_; clear hK K
    exact ⟨rfl, 14, .nils, rfl, by simp only [Fs, Int.natCast_zero, go_sem, ti3, ti4, ti5, ti9, ti32, ti22, ti29, ti31, ti60, ti62, ti65, ti67, ti94, ti96, Int.natCast_zero], OA.nil (by (try simp only [St.put_adv, St.adv_adv, St.put_put, St.nx_put, St.nx_adv]); repeat (first | exact OA.mono s00_oa (by omega) | refine OA.newB ?_ (by omega) rfl | refine OA.putB ?_ (by omega) | refine OA.advB ?_))⟩
  rintro ⟨e, ds, s1⟩ ⟨k4, xc, rfl, hF, ho⟩
  simp only [Fs] at hF ho
  have hR0 : dAllE (b.cs.drop 0) = dAllE b.cs := rfl
  generalize dAllE b.cs = R at hR0 hE
  refine Wc.seqR (fun y => ∃ k4 xc T, (R = 0 ∧ T = b.cs.map dcX) ∧ y.ds = [] ∧ Fs y.e 62 [(1, .v (.c (.ref 0 0))), (2, .v (.c (.ref 1 0))), (4, .v (.c (.ref k4 0)))] ∧ OA y.s.nx y.s [(4, .v (.c xc), T.length, T.flatMap Rlp.pd)] [(k4, .cells [.p (pI b.w), .p (pI b.fr), xc] false), (1, .cells [.p (pI 0), .p (pI 0), .nils] false), (0, .cells (b.pd.map .p) false)]) ?_ ?_
  · have g0 := ho.at_ (0, .cells (b.pd.map .p) false) (by simp)
    simp only [List.map_cons, List.map_nil] at g0
    refine Wc.seq ?_
    refine Wc.reg fun K hK => ?_; simp only [go_sem, ti3, ti4, ti5, ti9, ti32, ti22, ti29, ti31, ti60, ti62, ti65, ti67, ti94, ti96, Int.natCast_zero, hF, g0]; refine hK _ _ ?_; clear hK K
    refine Wc.block (Wc.loop (fun k y => ∃ (i k4 : Nat) (xc : C) (T : List Rlp), k = b.cs.length - i ∧ (i ≤ b.cs.length ∧ T = (b.cs.take i).map dcX ∧ dAllE (b.cs.drop i) = R) ∧ y.ds = [] ∧ Fs y.e 62 [(1, .v (.c (.ref 0 0))), (2, .v (.c (.ref 1 0))), (4, .v (.c (.ref k4 0))), (25, P' (.lst b.cs.length (b.cs.flatMap Chk.pd))), (26, P' (pI b.cs.length)), (27, P' (pI i))] ∧ OA y.s.nx y.s [(4, .v (.c xc), T.length, T.flatMap Rlp.pd)] [(k4, .cells [.p (pI b.w), .p (pI b.fr), xc] false), (1, .cells [.p (pI 0), .p (pI 0), .nils] false), (0, .cells (b.pd.map .p) false)]) ?_ (k := b.cs.length) ⟨0, k4, xc, [], rfl, ⟨by omega, rfl, hR0⟩, rfl, by simp only [Fs, Int.natCast_zero, go_sem, ti3, ti4, ti5, ti9, ti32, ti22, ti29, ti31, ti60, ti62, ti65, ti67, ti94, ti96, Int.natCast_zero, hF], by (try simp only [St.nx_put, St.nx_adv]); repeat (first | exact OA.mono ho (by omega) | refine OA.newB ?_ (by omega) rfl | refine OA.advB ?_)⟩)
    clear hF ho g0 e s1 hR0 xc k4
    rintro k ⟨e, ds, s1⟩ ⟨i, k4, xc, T, rfl, ⟨hi, hT, hR⟩, rfl, hF, ho⟩
    simp only [Fs] at hF ho
    have hTl : T.length = i := by rw [hT, List.length_map, List.length_take]; omega
    refine Wc.seq ?_
    refine Wc.reg fun K hK => ?_; simp only [go_sem, ti3, ti4, ti5, ti9, ti32, ti22, ti29, ti31, ti60, ti62, ti65, ti67, ti94, ti96, Int.natCast_zero, hF]; refine hK _ _ ?_; clear hK K
    refine Wc.seq ?_
    refine Wc.cond (t := decide ((i : Int) < b.cs.length)) (by simp only [go_sem, ti3, ti4, ti5, ti9, ti32, ti22, ti29, ti31, ti60, ti62, ti65, ti67, ti94, ti96, Int.natCast_zero, hF]) (fun hc => ?_) (fun hc => ?_)
    · have hil : i < b.cs.length := by have := of_decide_eq_true hc; omega
      obtain ⟨c, hcc⟩ : ∃ c, b.cs[i]? = some c := ⟨b.cs[i], List.getElem?_eq_getElem hil⟩
      have zc := hz c (List.mem_of_getElem? hcc)
      rw [dAllE_step hcc] at hR
      have hix := ixA ti65 rfl ti96 (j := i) (m := b.cs.length) (cs := b.cs.flatMap Chk.pd) hil hfl (by decide)
      have hca := rpK hcc
      have p69 := pf69 c zc
      have hT1 : T ++ [dcX c] = (b.cs.take (i + 1)).map dcX := by rw [take_snoc hcc, List.map_append, ← hT]; rfl
      generalize dcX c = X at *
      generalize dcE c = EC at *
      refine Wc.skip (Wc.seq (Wc.block (Wc.seqA (fun y => ∃ k6, y.ds = [] ∧ Fs y.e 62 [(1, .v (.c (.ref 0 0))), (2, .v (.c (.ref 1 0))), (4, .v (.c (.ref k4 0))), (25, P' (.lst b.cs.length (b.cs.flatMap Chk.pd))), (26, P' (pI b.cs.length)), (27, P' (pI i)), (6, .v (.c (.ref k6 0)))] ∧ OA y.s.nx y.s [(4, .v (.c xc), T.length, T.flatMap Rlp.pd)] ((k6, .cells (c.pd.map .p) false) :: [(k4, .cells [.p (pI b.w), .p (pI b.fr), xc] false), (1, .cells [.p (pI 0), .p (pI 0), .nils] false), (0, .cells (b.pd.map .p) false)])) ?_ ?_)))
      · refine Wc.reg fun K hK => ?_; simp only [go_sem, ti3, ti4, ti5, ti9, ti32, ti22, ti29, ti31, ti60, ti62, ti65, ti67, ti94, ti96, Int.natCast_zero, hF, hix, hca]; refine hK _ _ ?_; clear hK K
        exact ⟨rfl, s1.nx + 3, rfl, by simp only [Fs, Int.natCast_zero, go_sem, ti3, ti4, ti5, ti9, ti32, ti22, ti29, ti31, ti60, ti62, ti65, ti67, ti94, ti96, Int.natCast_zero, hF], by (try simp only [St.put_adv, St.adv_adv, St.put_put, St.nx_put, St.nx_adv]); repeat (first | exact OA.mono ho (by omega) | refine OA.newB ?_ (by omega) rfl | refine OA.putB ?_ (by omega) | refine OA.advB ?_)⟩
      clear hF ho e s1
      rintro ⟨e, ds, s1⟩ ⟨k6, rfl, hF, ho⟩
      simp only [Fs] at hF ho
      have g6 := ho.at_ (k6, .cells (c.pd.map .p) false) (by simp)
      simp only [List.map_cons, List.map_nil] at g6
      refine Wc.seqA (fun y => ∃ k7, y.ds = [] ∧ Fs y.e 62 [(1, .v (.c (.ref 0 0))), (2, .v (.c (.ref 1 0))), (4, .v (.c (.ref k4 0))), (25, P' (.lst b.cs.length (b.cs.flatMap Chk.pd))), (26, P' (pI b.cs.length)), (27, P' (pI i)), (7, .v (.c (.ref k7 0))), (8, P' (pI EC))] ∧ OA y.s.nx y.s [(4, .v (.c xc), T.length, T.flatMap Rlp.pd)] ((k7, .cells (X.pd.map .p) false) :: [(k4, .cells [.p (pI b.w), .p (pI b.fr), xc] false), (1, .cells [.p (pI 0), .p (pI 0), .nils] false), (0, .cells (b.pd.map .p) false)])) ?_ ?_
      · refine Wc.reg fun K hK => ?_; simp only [go_sem, ti3, ti4, ti5, ti9, ti32, ti22, ti29, ti31, ti60, ti62, ti65, ti67, ti94, ti96, Int.natCast_zero, hF, g6]
        refine wpCall.pf (p69) (by kernel_rfl) (by kernel_rfl) rfl rfl ?_
        simp only [go_sem, ti3, ti4, ti5, ti9, ti32, ti22, ti29, ti31, ti60, ti62, ti65, ti67, ti94, ti96, Int.natCast_zero, hF]; refine hK _ _ ?_; clear hK K
        exact ⟨rfl, s1.nx + 5, rfl, by simp only [Fs, Int.natCast_zero, go_sem, ti3, ti4, ti5, ti9, ti32, ti22, ti29, ti31, ti60, ti62, ti65, ti67, ti94, ti96, Int.natCast_zero, hF], by (try simp only [St.put_adv, St.adv_adv, St.put_put, St.nx_put, St.nx_adv]); repeat (first | exact OA.mono (ho.sub (List.Sublist.refl _) (List.sublist_cons_self _ _)) (by omega) | refine OA.newB ?_ (by omega) rfl | refine OA.putB ?_ (by omega) | refine OA.advB ?_)⟩
      clear hF ho g6 e s1 p69
      rintro ⟨e, ds, s1⟩ ⟨k7, rfl, hF, ho⟩
      simp only [Fs] at hF ho
      have g7 := ho.at_ (k7, .cells (X.pd.map .p) false) (by simp)
      have g4 := ho.at_ (k4, .cells [.p (pI b.w), .p (pI b.fr), xc] false) (by simp)
      have g1 := ho.at_ (1, .cells [.p (pI 0), .p (pI 0), .nils] false) (by simp)
      simp only [List.map_cons, List.map_nil] at g7
      refine Wc.seq (Wc.seq ?_)
      refine Wc.reg fun K hK => ?_; simp only [go_sem, ti3, ti4, ti5, ti9, ti32, ti22, ti29, ti31, ti60, ti62, ti65, ti67, ti94, ti96, Int.natCast_zero, hF]; refine hK _ _ ?_; clear hK K
      refine Wc.cond (t := EC != 0) (by simp only [go_sem, ti3, ti4, ti5, ti9, ti32, ti22, ti29, ti31, ti60, ti62, ti65, ti67, ti94, ti96, Int.natCast_zero, hF]) (fun hc => ?_) (fun hc => ?_)
      · have hn : EC ≠ 0 := by simpa using hc
        rw [if_pos hn] at hR
        subst hR
        rw [if_pos hn] at hE
        subst hE
        rw [if_neg hn] at hB
        subst hB
        refine Wc.seq ?_
        refine Wc.reg fun K hK => ?_; simp only [go_sem, ti3, ti4, ti5, ti9, ti32, ti22, ti29, ti31, ti60, ti62, ti65, ti67, ti94, ti96, Int.natCast_zero, hF, g1]; refine hK _ _ ?_; clear hK K
        exact Wc.ret (Pf.ret [.cell 2 62, .tmp 3] [.agg [.p (pI 0), .p (pI 0), .nils], .c (.p (pI EC))] rfl rfl (by simp only [resultsD, go_sem, ti3, ti4, ti5, ti9, ti32, ti22, ti29, ti31, ti60, ti62, ti65, ti67, ti94, ti96, Int.natCast_zero, hF]) rfl)
      have hn : EC = 0 := by simpa using hc
      rw [if_neg (by simpa using hn)] at hR
      refine Wc.skip ?_
      refine Wc.reg fun K hK => ?_; simp only [go_sem, ti3, ti4, ti5, ti9, ti32, ti22, ti29, ti31, ti60, ti62, ti65, ti67, ti94, ti96, Int.natCast_zero, hF, g4, g7]
      refine OA.app (L1 := []) (L2 := []) (by_ := 64) (n := T.length) (m := 1) (ys := X.pd) (cs := T.flatMap Rlp.pd) (b := s1.nx + 6) (M := (k7, .cells (X.pd.map .p) false) :: [(k4, .cells [.p (pI b.w), .p (pI b.fr), xc] false), (1, .cells [.p (pI 0), .p (pI 0), .nils] false), (0, .cells (b.pd.map .p) false)]) ?_ (Nat.le_refl _) ⟨_, ti60, rfl⟩ ti31 rfl rfl rfl (by decide) (by decide) (by simp only [go_sem, ti3, ti4, ti5, ti9, ti32, ti22, ti29, ti31, ti60, ti62, ti65, ti67, ti94, ti96, Int.natCast_zero]) rfl (by omega) fun x' s3 hs hnx => ?_
      · exact by (try simp only [St.nx_put, St.nx_adv]); repeat (first | exact OA.mono ho (by omega) | refine OA.newB ?_ (by omega) rfl | refine OA.putB ?_ (by omega) | refine OA.advB ?_)
      obtain ⟨xc', rfl⟩ := (hs.own _ (List.mem_cons_self ..)).v
      have g4' := hs.at_ (k4, .cells [.p (pI b.w), .p (pI b.fr), xc] false) (by simp)
      simp only [go_sem, ti3, ti4, ti5, ti9, ti32, ti22, ti29, ti31, ti60, ti62, ti65, ti67, ti94, ti96, Int.natCast_zero, hF, g4']; refine hK _ _ ?_; clear hK K
      have h5 := OA.set (M1 := []) (o' := .cells [.p (pI b.w), .p (pI b.fr), xc'] false) (OA.sub (M1 := [(k4, .cells [.p (pI b.w), .p (pI b.fr), xc] false), (1, .cells [.p (pI 0), .p (pI 0), .nils] false), (0, .cells (b.pd.map .p) false)]) hs (List.Sublist.refl _) (List.sublist_cons_self _ _)) rfl
      simp only [St.nx_put, St.nx_adv] at hnx
      refine Wc.reg fun K hK => ?_; simp only [go_sem, ti3, ti4, ti5, ti9, ti32, ti22, ti29, ti31, ti60, ti62, ti65, ti67, ti94, ti96, Int.natCast_zero, hF, i64n i (by omega)]; refine hK _ _ ?_; clear hK K
      refine ⟨b.cs.length - (i + 1), by omega, i + 1, k4, xc', T ++ [X], rfl, ⟨by omega, hT1, hR⟩, rfl, by simp only [Fs, Int.natCast_zero, go_sem, ti3, ti4, ti5, ti9, ti32, ti22, ti29, ti31, ti60, ti62, ti65, ti67, ti94, ti96, Int.natCast_zero, hF], ?_⟩
      have e1 : (T ++ [X]).length = T.length + 1 := by simp
      have e2 : (T ++ [X]).flatMap Rlp.pd = T.flatMap Rlp.pd ++ X.pd := by simp
      rw [e1, e2]
      exact OA.mono h5.adv (by simp only [St.nx_put, St.nx_adv]; omega)
    · have hil : i = b.cs.length := by have := of_decide_eq_false hc; omega
      rw [hil, List.drop_length, dAllE] at hR
      rw [hil, List.take_length] at hT
      exact Wc.exit ⟨k4, xc, T, ⟨hR.symm, hT⟩, rfl, by simp only [Fs, Int.natCast_zero, go_sem, ti3, ti4, ti5, ti9, ti32, ti22, ti29, ti31, ti60, ti62, ti65, ti67, ti94, ti96, Int.natCast_zero, hF], by (try simp only [St.nx_put, St.nx_adv]); repeat (first | exact OA.mono ho (by omega) | refine OA.newB ?_ (by omega) rfl | refine OA.advB ?_)⟩
  clear hF ho e s1 hR0 xc k4
  rintro ⟨e, ds, s1⟩ ⟨k4, xc, T, ⟨rfl, hT⟩, rfl, hF, ho⟩
  simp only [Fs] at hF ho
  rw [if_neg (by decide), ← hT] at hE
  rw [← hT] at hB
  have hTl : T.length < 2^20 := by rw [hT, List.length_map]; exact hl
  clear hT p63
  have hown := ho.own _ (List.mem_cons_self ..)
  have hpu := hown.purS
  have hlen : lenD E0 60 (.v (.c xc)) = some (P' (.int .i64 T.length)) := hown.len ti60 rfl
  have hixs : ∀ j, j < T.length → indexAddrD E0 60 (.v (.c xc)) (.v (.c (.p (.int .i64 (j : Int))))) = some (.v (.c (.rp (T.flatMap Rlp.pd) (j * 4)))) := fun j hj => hown.ix ti60 rfl ti31 rfl hj (show 0 < 4 by decide)
  have hA0 : (T.drop 0).any (fun r => r.w != b.w) = T.any (fun r => r.w != b.w) := rfl
  generalize T.any (fun r => r.w != b.w) = A at hA0 hE
  refine Wc.seqR (fun y => A = false ∧ y.ds = [] ∧ Fs y.e 62 [(1, .v (.c (.ref 0 0))), (2, .v (.c (.ref 1 0))), (4, .v (.c (.ref k4 0)))] ∧ OA y.s.nx y.s [] [(k4, .cells [.p (pI b.w), .p (pI b.fr), xc] false), (1, .cells [.p (pI 0), .p (pI 0), .nils] false), (0, .cells (b.pd.map .p) false)]) ?_ ?_
  · have g4 := ho.at_ (k4, .cells [.p (pI b.w), .p (pI b.fr), xc] false) (by simp)
    refine Wc.seq ?_
    refine Wc.reg fun K hK => ?_; simp only [go_sem, ti3, ti4, ti5, ti9, ti32, ti22, ti29, ti31, ti60, ti62, ti65, ti67, ti94, ti96, Int.natCast_zero, hF, g4, hlen]; refine hK _ _ ?_; clear hK K
    refine Wc.block (Wc.loop (fun k y => ∃ i : Nat, k = T.length - i ∧ (i ≤ T.length ∧ (T.drop i).any (fun r => r.w != b.w) = A) ∧ y.ds = [] ∧ Fs y.e 62 [(1, .v (.c (.ref 0 0))), (2, .v (.c (.ref 1 0))), (4, .v (.c (.ref k4 0))), (48, .v (.c xc)), (49, P' (pI T.length)), (50, P' (pI i))] ∧ OA y.s.nx y.s [] [(k4, .cells [.p (pI b.w), .p (pI b.fr), xc] false), (1, .cells [.p (pI 0), .p (pI 0), .nils] false), (0, .cells (b.pd.map .p) false)]) ?_ (k := T.length) ⟨0, rfl, ⟨by omega, hA0⟩, rfl, by simp only [Fs, Int.natCast_zero, go_sem, ti3, ti4, ti5, ti9, ti32, ti22, ti29, ti31, ti60, ti62, ti65, ti67, ti94, ti96, Int.natCast_zero, hF], OA.mono (OA.sub ho (List.nil_sublist _) (List.Sublist.refl _)).adv (by simp only [St.nx_adv]; omega)⟩)
    clear hF ho g4 e s1 hA0 hown
    rintro k ⟨e, ds, s1⟩ ⟨i, rfl, ⟨hi, hA⟩, rfl, hF, ho⟩
    simp only [Fs] at hF ho
    refine Wc.seq ?_
    refine Wc.reg fun K hK => ?_; simp only [go_sem, ti3, ti4, ti5, ti9, ti32, ti22, ti29, ti31, ti60, ti62, ti65, ti67, ti94, ti96, Int.natCast_zero, hF]; refine hK _ _ ?_; clear hK K
    refine Wc.seq ?_
    refine Wc.cond (t := decide ((i : Int) < T.length)) (by simp only [go_sem, ti3, ti4, ti5, ti9, ti32, ti22, ti29, ti31, ti60, ti62, ti65, ti67, ti94, ti96, Int.natCast_zero, hF]) (fun hc => ?_) (fun hc => ?_)
    · have hil : i < T.length := by have := of_decide_eq_true hc; omega
      obtain ⟨c, hcc⟩ : ∃ c, T[i]? = some c := ⟨T[i], List.getElem?_eq_getElem hil⟩
      obtain ⟨h1, h2⟩ := List.getElem?_eq_some_iff.1 hcc
      rw [List.drop_eq_getElem_cons h1, h2, List.any_cons] at hA
      have hix := hixs i hil
      have hca := rpRl hcc
      refine Wc.skip (Wc.seq (Wc.block (Wc.seqA (fun y => ∃ k10, y.ds = [] ∧ Fs y.e 62 [(1, .v (.c (.ref 0 0))), (2, .v (.c (.ref 1 0))), (4, .v (.c (.ref k4 0))), (48, .v (.c xc)), (49, P' (pI T.length)), (50, P' (pI i)), (10, .v (.c (.ref k10 0)))] ∧ OA y.s.nx y.s [] ((k10, .cells (c.pd.map .p) false) :: [(k4, .cells [.p (pI b.w), .p (pI b.fr), xc] false), (1, .cells [.p (pI 0), .p (pI 0), .nils] false), (0, .cells (b.pd.map .p) false)])) ?_ ?_)))
      · refine Wc.reg fun K hK => ?_; simp only [go_sem, ti3, ti4, ti5, ti9, ti32, ti22, ti29, ti31, ti60, ti62, ti65, ti67, ti94, ti96, Int.natCast_zero, hF, hix, hca]; refine hK _ _ ?_; clear hK K
        exact ⟨rfl, s1.nx + 3, rfl, by simp only [Fs, Int.natCast_zero, go_sem, ti3, ti4, ti5, ti9, ti32, ti22, ti29, ti31, ti60, ti62, ti65, ti67, ti94, ti96, Int.natCast_zero, hF], by (try simp only [St.put_adv, St.adv_adv, St.put_put, St.nx_put, St.nx_adv]); repeat (first | exact OA.mono ho (by omega) | refine OA.newB ?_ (by omega) rfl | refine OA.putB ?_ (by omega) | refine OA.advB ?_)⟩
      clear hF ho e s1
      rintro ⟨e, ds, s1⟩ ⟨k10, rfl, hF, ho⟩
      simp only [Fs] at hF ho
      have g10 := ho.at_ (k10, .cells (c.pd.map .p) false) (by simp)
      have g0 := ho.at_ (0, .cells (b.pd.map .p) false) (by simp)
      have g1 := ho.at_ (1, .cells [.p (pI 0), .p (pI 0), .nils] false) (by simp)
      simp only [List.map_cons, List.map_nil] at g10 g0
      refine Wc.seq ?_
      refine Wc.reg fun K hK => ?_; simp only [go_sem, ti3, ti4, ti5, ti9, ti32, ti22, ti29, ti31, ti60, ti62, ti65, ti67, ti94, ti96, Int.natCast_zero, hF, g10, g0]; refine hK _ _ ?_; clear hK K
      refine Wc.cond (t := c.w != b.w) (by simp only [go_sem, ti3, ti4, ti5, ti9, ti32, ti22, ti29, ti31, ti60, ti62, ti65, ti67, ti94, ti96, Int.natCast_zero, hF]) (fun hc => ?_) (fun hc => ?_)
      · rw [hc, Bool.true_or] at hA
        subst hA
        rw [if_pos rfl] at hE
        subst hE
        rw [if_neg (by decide)] at hB
        subst hB
        refine Wc.seq ?_
        refine Wc.reg fun K hK => ?_; simp only [go_sem, ti3, ti4, ti5, ti9, ti32, ti22, ti29, ti31, ti60, ti62, ti65, ti67, ti94, ti96, Int.natCast_zero, hF, g1]; refine hK _ _ ?_; clear hK K
        exact Wc.ret (Pf.ret [.cell 2 62, .tmp 3] [.agg [.p (pI 0), .p (pI 0), .nils], .c (.p (pI 10))] rfl rfl (by simp only [resultsD, go_sem, ti3, ti4, ti5, ti9, ti32, ti22, ti29, ti31, ti60, ti62, ti65, ti67, ti94, ti96, Int.natCast_zero, hF]) rfl)
      rw [hc, Bool.false_or] at hA
      refine Wc.skip ?_
      refine Wc.reg fun K hK => ?_; simp only [go_sem, ti3, ti4, ti5, ti9, ti32, ti22, ti29, ti31, ti60, ti62, ti65, ti67, ti94, ti96, Int.natCast_zero, hF, i64n i (by omega)]; refine hK _ _ ?_; clear hK K
      exact ⟨T.length - (i + 1), by omega, i + 1, rfl, ⟨by omega, hA⟩, rfl, by simp only [Fs, Int.natCast_zero, go_sem, ti3, ti4, ti5, ti9, ti32, ti22, ti29, ti31, ti60, ti62, ti65, ti67, ti94, ti96, Int.natCast_zero, hF], by (try simp only [St.nx_put, St.nx_adv]); repeat (first | exact OA.mono (ho.sub (List.Sublist.refl _) (List.sublist_cons_self _ _)) (by omega) | refine OA.newB ?_ (by omega) rfl | refine OA.advB ?_)⟩
    · have hil : i = T.length := by have := of_decide_eq_false hc; omega
      rw [hil, List.drop_length, List.any_nil] at hA
      exact Wc.exit ⟨hA.symm, rfl, by simp only [Fs, Int.natCast_zero, go_sem, ti3, ti4, ti5, ti9, ti32, ti22, ti29, ti31, ti60, ti62, ti65, ti67, ti94, ti96, Int.natCast_zero, hF], by (try simp only [St.nx_put, St.nx_adv]); repeat (first | exact OA.mono ho (by omega) | refine OA.newB ?_ (by omega) rfl | refine OA.advB ?_)⟩
  clear hF ho e s1 hA0 hown
  rintro ⟨e, ds, s1⟩ ⟨rfl, rfl, hF, ho⟩
  simp only [Fs] at hF ho
  rw [if_neg (by decide)] at hE
  subst hE
  rw [if_pos rfl] at hB
  subst hB
  have g4 := ho.at_ (k4, .cells [.p (pI b.w), .p (pI b.fr), xc] false) (by simp)
  have g1 := ho.at_ (1, .cells [.p (pI 0), .p (pI 0), .nils] false) (by simp)
  refine Wc.seq ?_
  refine Wc.reg fun K hK => ?_; simp only [go_sem, ti3, ti4, ti5, ti9, ti32, ti22, ti29, ti31, ti60, ti62, ti65, ti67, ti94, ti96, Int.natCast_zero, hF, g4, g1]; refine hK _ _ ?_; clear hK K
  exact Wc.ret (Pf.ret [.cell 2 62, .tmp 3] [.agg [.p (pI b.w), .p (pI b.fr), xc], .c (.p (pI 0))] rfl rfl (by simp only [resultsD, go_sem, ti3, ti4, ti5, ti9, ti32, ti22, ti29, ti31, ti60, ti62, ti65, ti67, ti94, ti96, Int.natCast_zero, hF]) (by simp only [packD, purD, purVs, purV, purCs, purC_S hpu, purC_p]; rfl))
end Go.Proofs.YtedcnhbblgmdnaaGreat.Ab
namespace Go.Proofs.YtedcnhbblgmdnaaGreat.Ab
set_option maxHeartbeats 8000000
set_option maxRecDepth 10000
set_option linter.unusedSimpArgs false
set_option linter.unusedVariables false
theorem encAll_dec : ∀ {l : List Rlp} {cs : List Chk}, encAll l = some cs → dAllE cs = 0 ∧ cs.map dcX = l ∧ (∀ r ∈ l, Rz r → True) ∧ cs.length = l.length
  | [], cs, h => by simp only [encAll, Option.some.injEq] at h; subst h; exact ⟨rfl, rfl, fun _ _ _ => trivial, rfl⟩
  | r :: t, cs, h => by
    rw [encAll] at h
    cases he : encLo r with
    | none => rw [encCk, he] at h; cases h
    | some d =>
      rw [encCk, he] at h
      simp only [Option.map_some] at h
      cases ht : encAll t with
      | none => rw [ht] at h; cases h
      | some q =>
        rw [ht] at h
        simp only [Option.map_some, Option.some.injEq] at h
        subst h
        obtain ⟨i1, i2, _, i3⟩ := encAll_dec ht
        have hd := decL_enc he
        refine ⟨?_, ?_, fun _ _ _ => trivial, by simp [i3]⟩
        · have : dcE ⟨6, r.lb, (rlpZ r.bs).g, d⟩ = 0 := by
            unfold dcE
            simp only [if_pos, hd, Option.isSome_some]
          rw [dAllE, this, if_neg (by decide), i1]
        · have : dcX ⟨6, r.lb, (rlpZ r.bs).g, d⟩ = r := by
            unfold dcX dcR
            simp only [if_pos, hd, Option.getD_some]
          rw [List.map_cons, this, i2]
theorem encAll_z {l : List Rlp} {cs : List Chk} (h : encAll l = some cs) (hz : ∀ r ∈ l, Rz r) : ∀ c ∈ cs, Cz c := by
  induction l generalizing cs with
  | nil => simp only [encAll, Option.some.injEq] at h; subst h; intro c hc; cases hc
  | cons r t ih =>
    rw [encAll] at h
    cases he : encCk r with
    | none => rw [he] at h; cases h
    | some d =>
      rw [he] at h
      simp only at h
      cases ht : encAll t with
      | none => rw [ht] at h; cases h
      | some q =>
        rw [ht] at h
        simp only [Option.map_some, Option.some.injEq] at h
        subst h
        intro c hc
        rcases List.mem_cons.1 hc with rfl | hc
        · exact encCk_z (hz r (by simp)) he
        · exact ih ht (fun r hr => hz r (by simp [hr])) c hc
/-- What was stored can be read. -/
theorem blk_of {x : RSet} {id : Int} (h : blkE x id = 0) (hz : ∀ r ∈ x.rs, Rz r) : ofbE (blkB x id) = 0 ∧ ofbS (blkB x id) = x ∧ (blkB x id).id = id ∧ (blkB x id).w = x.w ∧ (∀ c ∈ (blkB x id).cs, Cz c) ∧ (blkB x id).cs.length = x.rs.length := by
  have h' := h
  unfold blkE at h'
  split at h'
  · cases h'
  · rename_i hs
    have hs' : setOK x = true := by simpa using hs
    cases he : encAll x.rs with
    | none => rw [he] at h'; cases h'
    | some cs =>
      rw [he] at h'
      simp only at h'
      have e : blkB x id = ⟨id, x.w, x.fr, cs⟩ := by unfold blkB; rw [if_pos h, he]
      obtain ⟨i1, i2, _, i3⟩ := encAll_dec he
      unfold setOK at hs'
      simp only [Bool.and_eq_true, Bool.not_eq_true', Bool.or_eq_false_iff, decide_eq_false_iff_not] at hs'
      have hm := rsOK_mem hs'.2
      have hw : x.w ≠ 0 := by have := hs'.1.1; omega
      have ha : (cs.map dcX).any (fun r => r.w != x.w) = false := by
        rw [i2, List.any_eq_false]
        intro r hr
        have := (hm r hr).1
        simp [this]
      have e2 : ofbE ⟨id, x.w, x.fr, cs⟩ = 0 := by
        unfold ofbE
        rw [if_neg (by simpa using h')]
        simp only
        rw [if_neg hw, i1, if_neg (by decide), ha, if_neg (by decide)]
      rw [e]
      refine ⟨e2, ?_, rfl, rfl, encAll_z he hz, i3⟩
      unfold ofbS
      rw [if_pos e2]
      simp only [i2]
theorem blk_ne {x : RSet} {id : Int} (h : blkE x id ≠ 0) : blkB x id = zBlk := by unfold blkB; rw [if_neg h]
/-- 10: DownsampleStored -/
theorem law10 (x : RSet) (id : Int) (hl : x.rs.length < 2^60) (hlb : ∀ r ∈ x.rs, r.lb.length < 2^60) : ∃ s', Ev E0 (.o 10) [.agg (x.pd.map .p), .c (.p (pI id))] s00 (P' (.bool true)) s' := by
  have main : Wc E0 none (Tryz.f10.body.get rfl) { e := [V.agg (x.pd.map .p), .c (.p (pI id))].map .v ++ List.replicate (Tryz.f10.ntmps - 2) (.tup []), ds := [], s := s00 } (bodyQ E0 Tryz.f10 fun d _ => d = P' (.bool true)) := by
    show Wc E0 none _ _ _
    simp only [List.map_cons, List.map_nil, List.cons_append, List.nil_append, Tryz.ntmps10, List.replicate, Nat.reduceSub, Nat.reduceAdd, s00]
    refine Wc.seq ?_
    refine Wc.reg fun K hK => ?_; simp only [go_sem, ti3, ti4, ti5, ti9, ti32, ti22, ti29, ti31, ti60, ti62, ti65, ti67, ti94, ti96, Int.natCast_zero]; refine hK _ _ ?_; clear hK K
    refine Wc.seq (Wc.seq ?_)
    refine Wc.reg fun K hK => ?_; simp only [go_sem, ti3, ti4, ti5, ti9, ti32, ti22, ti29, ti31, ti60, ti62, ti65, ti67, ti94, ti96, Int.natCast_zero]
    refine wpCall.pf (pf35 x hl hlb) (by kernel_rfl) (by kernel_rfl) rfl rfl ?_
    simp only [go_sem, ti3, ti4, ti5, ti9, ti32, ti22, ti29, ti31, ti60, ti62, ti65, ti67, ti94, ti96, Int.natCast_zero]; refine hK _ _ ?_; clear hK K
    refine Wc.cond (t := grT x) (by simp only [go_sem, ti3, ti4, ti5, ti9, ti32, ti22, ti29, ti31, ti60, ti62, ti65, ti67, ti94, ti96, Int.natCast_zero]) (fun hc => ?_) (fun hc => ?_)
    · refine Wc.seq ?_
      refine Wc.reg fun K hK => ?_; simp only [go_sem, ti3, ti4, ti5, ti9, ti32, ti22, ti29, ti31, ti60, ti62, ti65, ti67, ti94, ti96, Int.natCast_zero]
      refine wpCall.pf (pf12) (by kernel_rfl) (by kernel_rfl) rfl rfl ?_
      simp only [go_sem, ti3, ti4, ti5, ti9, ti32, ti22, ti29, ti31, ti60, ti62, ti65, ti67, ti94, ti96, Int.natCast_zero]; refine hK _ _ ?_; clear hK K
      refine Wc.ret (thenD_ret ?_)
      exact Op.ret [.tmp 4] [.c (.p (.bool true))] rfl rfl (by simp only [resultsD, go_sem, ti3, ti4, ti5, ti9, ti32, ti22, ti29, ti31, ti60, ti62, ti65, ti67, ti94, ti96, Int.natCast_zero]) rfl
    obtain ⟨hl8, hz⟩ := grT_z hc
    have p31 := pf31 x id (by omega) hz
    have p33 := pf33 x (by omega) hz
    by_cases hE : blkE x id = 0
    case neg =>
      rw [blk_ne hE] at p31
      simp only [resB, zBlk] at p31
      have hne : (blkE x id != 0) = true := by simpa using hE
      generalize blkE x id = E at *
      refine Wc.skip (Wc.seq ?_)
      refine Wc.reg fun K hK => ?_; simp only [go_sem, ti3, ti4, ti5, ti9, ti32, ti22, ti29, ti31, ti60, ti62, ti65, ti67, ti94, ti96, Int.natCast_zero]
      refine wpCall.pf (p31) (by kernel_rfl) (by kernel_rfl) rfl rfl ?_
      simp only [go_sem, ti3, ti4, ti5, ti9, ti32, ti22, ti29, ti31, ti60, ti62, ti65, ti67, ti94, ti96, Int.natCast_zero]; refine hK _ _ ?_; clear hK K
      refine Wc.seq (Wc.seq ?_)
      refine Wc.reg fun K hK => ?_; simp only [go_sem, ti3, ti4, ti5, ti9, ti32, ti22, ti29, ti31, ti60, ti62, ti65, ti67, ti94, ti96, Int.natCast_zero, hne]; refine hK _ _ ?_; clear hK K
      refine Wc.cond (t := true) (by simp only [go_sem, ti3, ti4, ti5, ti9, ti32, ti22, ti29, ti31, ti60, ti62, ti65, ti67, ti94, ti96, Int.natCast_zero, hne]) (fun _ => ?_) (fun hc => by cases hc)
      refine Wc.seq ?_
      have b0e : ((0 : Int) == 0) = true := rfl
      refine Wc.reg fun K hK => ?_; simp only [go_sem, ti3, ti4, ti5, ti9, ti32, ti22, ti29, ti31, ti60, ti62, ti65, ti67, ti94, ti96, Int.natCast_zero, b0e]
      refine wpCall.pf (pf12) (by kernel_rfl) (by kernel_rfl) rfl rfl ?_
      simp only [go_sem, ti3, ti4, ti5, ti9, ti32, ti22, ti29, ti31, ti60, ti62, ti65, ti67, ti94, ti96, Int.natCast_zero]; refine hK _ _ ?_; clear hK K
      refine Wc.ret (thenD_ret ?_)
      exact Op.ret [.tmp 4] [.c (.p (.bool true))] rfl rfl (by simp only [resultsD, go_sem, ti3, ti4, ti5, ti9, ti32, ti22, ti29, ti31, ti60, ti62, ti65, ti67, ti94, ti96, Int.natCast_zero]) rfl
    obtain ⟨o1, o2, o3, o4, o5, o6⟩ := blk_of hE hz
    rw [hE] at p31
    generalize blkB x id = B at *
    have p37 := pf37 B (by omega) o5
    rw [o1, o2] at p37
    clear o1 o2
    simp only [resB] at p31
    simp only [resS] at p37
    have b0e : ((0 : Int) == 0) = true := rfl
    refine Wc.skip (Wc.seq ?_)
    refine Wc.reg fun K hK => ?_; simp only [go_sem, ti3, ti4, ti5, ti9, ti32, ti22, ti29, ti31, ti60, ti62, ti65, ti67, ti94, ti96, Int.natCast_zero]
    refine wpCall.pf (p31) (by kernel_rfl) (by kernel_rfl) rfl rfl ?_
    simp only [go_sem, ti3, ti4, ti5, ti9, ti32, ti22, ti29, ti31, ti60, ti62, ti65, ti67, ti94, ti96, Int.natCast_zero]; refine hK _ _ ?_; clear hK K
    refine Wc.seq (Wc.seq ?_)
    refine Wc.reg fun K hK => ?_; simp only [go_sem, ti3, ti4, ti5, ti9, ti32, ti22, ti29, ti31, ti60, ti62, ti65, ti67, ti94, ti96, Int.natCast_zero, b00]; refine hK _ _ ?_; clear hK K
    refine Wc.cond (t := false) (by simp only [go_sem, ti3, ti4, ti5, ti9, ti32, ti22, ti29, ti31, ti60, ti62, ti65, ti67, ti94, ti96, Int.natCast_zero, b00]) (fun hc => by cases hc) (fun _ => Wc.skip ?_)
    refine Wc.seq ?_
    refine Wc.reg fun K hK => ?_; simp only [go_sem, ti3, ti4, ti5, ti9, ti32, ti22, ti29, ti31, ti60, ti62, ti65, ti67, ti94, ti96, Int.natCast_zero]
    refine wpCall.pf (p37) (by kernel_rfl) (by kernel_rfl) rfl rfl ?_
    simp only [go_sem, ti3, ti4, ti5, ti9, ti32, ti22, ti29, ti31, ti60, ti62, ti65, ti67, ti94, ti96, Int.natCast_zero]; refine hK _ _ ?_; clear hK K
    refine Wc.seq ?_
    refine Wc.reg fun K hK => ?_; simp only [go_sem, ti3, ti4, ti5, ti9, ti32, ti22, ti29, ti31, ti60, ti62, ti65, ti67, ti94, ti96, Int.natCast_zero, b0e]
    refine wpCall.pf (p33) (by kernel_rfl) (by kernel_rfl) rfl rfl ?_
    simp only [go_sem, ti3, ti4, ti5, ti9, ti32, ti22, ti29, ti31, ti60, ti62, ti65, ti67, ti94, ti96, Int.natCast_zero, o3, o4, beq_self_eq_true]
    refine wpCall.pf (pf12) (by kernel_rfl) (by kernel_rfl) rfl rfl ?_
    simp only [go_sem, ti3, ti4, ti5, ti9, ti32, ti22, ti29, ti31, ti60, ti62, ti65, ti67, ti94, ti96, Int.natCast_zero]; refine hK _ _ ?_; clear hK K
    exact Wc.ret (Op.ret [.tmp 4] [.c (.p (.bool true))] rfl rfl (by simp only [resultsD, go_sem, ti3, ti4, ti5, ti9, ti32, ti22, ti29, ti31, ti60, ti62, ti65, ti67, ti94, ti96, Int.natCast_zero]) rfl)
  obtain ⟨n, d, s', h1, h2⟩ := Ev.body (g := 10) (args := [V.agg (x.pd.map .p), .c (.p (pI id))]) (by kernel_rfl) rfl main
  subst h2
  exact ⟨s', n + 1, h1⟩
end Go.Proofs.YtedcnhbblgmdnaaGreat.Ab
