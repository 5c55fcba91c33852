/- A part of the proof: an evaluator of the code, its contracts, the law. No condition. -/
import Derived.Test.YtedcnhbblgmdnaaGreatT19
namespace Go.Proofs.YtedcnhbblgmdnaaGreat.Ab
set_option maxHeartbeats 8000000
set_option maxRecDepth 10000
set_option linter.unusedSimpArgs false
set_option linter.unusedVariables false
/-- Why a list is no list of buckets, behind an index. -/
def bck (last : Int) : Int → List I2 → Int
  | _, [] => 0
  | p, b :: r => if b.1 < 0 ∨ last < b.1 ∨ b.2 < 1 ∨ 1048576 < b.2 then 2 else if b.1 ≤ p then 9 else bck last b.1 r
def prevB (l : List I2) (i : Nat) : Int := if i = 0 then -1 else ((l[i - 1]?).map (·.1)).getD 0
theorem bck_step {last : Int} {l : List I2} {i : Nat} {b : I2} (h : l[i]? = some b) : bck last (prevB l i) (l.drop i) = if b.1 < 0 ∨ last < b.1 ∨ b.2 < 1 ∨ 1048576 < b.2 then 2 else if b.1 ≤ prevB l i then 9 else bck last (prevB l (i + 1)) (l.drop (i + 1)) := by
  have hi := (List.getElem?_eq_some_iff.1 h).1
  have hx := (List.getElem?_eq_some_iff.1 h).2
  have hp : prevB l (i + 1) = b.1 := by simp [prevB, h]
  rw [List.drop_eq_getElem_cons hi, hx, hp]
  rfl
theorem bck_ok {last : Int} : ∀ {l : List I2} {p : Int}, bck last p l = 0 → (∀ b ∈ l, p < b.1 ∧ 0 ≤ b.1 ∧ b.1 ≤ last ∧ 1 ≤ b.2 ∧ b.2 ≤ 1048576) ∧ ∀ (i j : Nat) (b c : I2), i < j → l[i]? = some b → l[j]? = some c → b.1 < c.1
  | [], p, h => ⟨fun b hb => by (cases hb), fun i j b c _ h1 _ => by simp at h1⟩
  | x :: r, p, h => by
    simp only [bck] at h
    split at h
    · cases h
    · split at h
      · cases h
      · rename_i h1 h2
        obtain ⟨a1, a2⟩ := bck_ok h
        refine ⟨fun b hb => ?_, fun i j b c hij hi hj => ?_⟩
        · rcases List.mem_cons.1 hb with rfl | hb
          · omega
          · have := a1 b hb; omega
        · cases j with
          | zero => omega
          | succ j =>
            simp only [List.getElem?_cons_succ] at hj
            cases i with
            | zero =>
              simp at hi; subst hi
              exact (a1 c (List.mem_of_getElem? hj)).1
            | succ i =>
              simp only [List.getElem?_cons_succ] at hi
              exact a2 i j b c (by omega) hi hj
/-- Why a histogram is not valid. -/
def hck (h : Hst) : Int := if h.p < 0 ∨ 8 < h.p then 2 else if 500 < h.bs.length then 4 else if bck (ix h.p.toNat 1099511627776) (-1) h.bs ≠ 0 then bck (ix h.p.toNat 1099511627776) (-1) h.bs else if 1048576 < cnt h.bs then 4 else if agrB h h.p.toNat (cnt h.bs) = false then 10 else 0
theorem bck_bs {q : Nat} {bs : List I2} (hq : q ≤ 8) (h : bck (ix q 1099511627776) (-1) bs = 0) : BsOK q bs := by
  obtain ⟨a1, a2⟩ := bck_ok h
  rw [ix_last q hq] at a1
  exact ⟨fun b hb => ⟨(a1 b hb).2.1, (a1 b hb).2.2.1⟩, fun b hb => (a1 b hb).2.2.2.1, a2⟩
/-- 84: loghist.Check -/
theorem pf136 (h : Hst) (hl : h.bs.length < 2^60) : Pf E0 136 [.agg (h.pd.map .p)] (P' (pI (hck h))) := by
  have hfl : (h.bs.flatMap p2).length = h.bs.length * 2 := flat_len (k := 2) (fun _ => rfl) _
  refine Pf.body (fn := Tryz.f136) (by kernel_rfl) rfl ?_; simp only [List.map_cons, List.map_nil, List.cons_append, List.nil_append, List.length_cons, List.length_nil, Tryz.ntmps136, List.replicate, Nat.reduceSub, Nat.reduceAdd]
  refine Wc.seq ?_
  refine Wc.reg fun K hK => ?_; simp only [go_sem, ti3, ti9, ti5, ti4, ti32, ti148, ti150, ti205]; refine hK _ _ ?_; clear hK K
  refine Wc.seq (Wc.seq ?_)
  refine Wc.reg fun K hK => ?_; simp only [go_sem, ti3, ti9, ti5, ti4, ti32, ti148, ti150, ti205]
  refine wpCall.pf (pf210 h.p) (by kernel_rfl) (by kernel_rfl) rfl rfl ?_
  simp only [go_sem, ti3, ti9, ti5, ti4, ti32, ti148, ti150, ti205]; refine hK _ _ ?_; clear hK K
  refine Wc.cond (t := !(decide (0 ≤ h.p ∧ h.p ≤ 8))) (by simp only [go_sem, ti3, ti9, ti5, ti4, ti32, ti148, ti150, ti205]) (fun hc => ?_) (fun hc => ?_)
  · have hp : h.p < 0 ∨ 8 < h.p := by simp at hc; omega
    have e : hck h = 2 := by unfold hck; rw [if_pos hp]
    rw [e]
    refine Wc.seq ?_
    refine Wc.reg fun K hK => ?_; simp only [go_sem, ti3, ti9, ti5, ti4, ti32, ti148, ti150, ti205]; refine hK _ _ ?_; clear hK K
    exact Wc.ret (Pf.ret [.tmp 2] [.c (.p (pI 2))] rfl rfl (by simp only [resultsD, go_sem, ti3, ti9, ti5, ti4, ti32, ti148, ti150, ti205]) rfl)
  have hp : 0 ≤ h.p ∧ h.p ≤ 8 := by simpa using hc
  obtain ⟨q, hq⟩ : ∃ q : Nat, h.p = (q : Int) := ⟨h.p.toNat, by omega⟩
  have hq8 : q ≤ 8 := by omega
  have eq0 : h.p.toNat = q := by omega
  have e1 : hck h = if 500 < h.bs.length then 4 else if bck (ix q 1099511627776) (-1) h.bs ≠ 0 then bck (ix q 1099511627776) (-1) h.bs else if 1048576 < cnt h.bs then 4 else if agrB h q (cnt h.bs) = false then 10 else 0 := by
    unfold hck; rw [if_neg (by omega), eq0]
  refine Wc.skip (Wc.seq (Wc.seq ?_))
  refine Wc.reg fun K hK => ?_; simp only [go_sem, ti3, ti9, ti5, ti4, ti32, ti148, ti150, ti205]; refine hK _ _ ?_; clear hK K
  refine Wc.cond (t := decide ((500 : Int) < h.bs.length)) (by simp only [go_sem, ti3, ti9, ti5, ti4, ti32, ti148, ti150, ti205]) (fun hc => ?_) (fun hc => ?_)
  · have h5 : 500 < h.bs.length := by have : (500 : Int) < h.bs.length := by simpa using hc
                                      omega
    rw [e1, if_pos h5]
    refine Wc.seq ?_
    refine Wc.reg fun K hK => ?_; simp only [go_sem, ti3, ti9, ti5, ti4, ti32, ti148, ti150, ti205]; refine hK _ _ ?_; clear hK K
    exact Wc.ret (Pf.ret [.tmp 2] [.c (.p (pI 4))] rfl rfl (by simp only [resultsD, go_sem, ti3, ti9, ti5, ti4, ti32, ti148, ti150, ti205]) rfl)
  have h5 : ¬ 500 < h.bs.length := by have : ¬ (500 : Int) < h.bs.length := by simpa using hc
                                      omega
  rw [if_neg h5] at e1
  refine Wc.skip (Wc.seq ?_)
  refine Wc.reg fun K hK => ?_; simp only [go_sem, ti3, ti9, ti5, ti4, ti32, ti148, ti150, ti205]; refine hK _ _ ?_; clear hK K
  refine Wc.seq ?_
  refine Wc.reg fun K hK => ?_; simp only [go_sem, ti3, ti9, ti5, ti4, ti32, ti148, ti150, ti205, Int.natCast_zero]; refine hK _ _ ?_; clear hK K
  refine Wc.seq ?_
  refine Wc.reg fun K hK => ?_; simp only [go_sem, ti3, ti9, ti5, ti4, ti32, ti148, ti150, ti205, hq]
  refine wpCall.pf (pf211 q hq8) (by kernel_rfl) (by kernel_rfl) rfl rfl ?_
  simp only [go_sem, ti3, ti9, ti5, ti4, ti32, ti148, ti150, ti205]; refine hK _ _ ?_; clear hK K
  have e2 : bck (ix q 1099511627776) (-1) h.bs = bck (ix q 1099511627776) (prevB h.bs 0) (h.bs.drop 0) := rfl
  refine Wc.seqR (fun y => bck (ix q 1099511627776) (-1) h.bs = 0 ∧ y.ds = [] ∧ y.e.length = 62 ∧ y.e.getD 1 .junk = .v (.c (.ref 0 0)) ∧ y.e.getD 4 .junk = P' (pI (cnt h.bs)) ∧ OA y.s.nx y.s [] [(0, .cells (h.pd.map .p) false)]) ?_ ?_
  · refine Wc.seq ?_
    refine Wc.reg fun K hK => ?_; simp only [go_sem, ti3, ti9, ti5, ti4, ti32, ti148, ti150, ti205, Int.natCast_zero]; refine hK _ _ ?_; clear hK K
    refine Wc.block (Wc.loop (fun k y => ∃ i : Nat, k = h.bs.length - i ∧ i ≤ h.bs.length ∧ y.ds = [] ∧ y.e.length = 62 ∧ y.e.getD 1 .junk = .v (.c (.ref 0 0)) ∧ y.e.getD 3 .junk = P' (pI (prevB h.bs i)) ∧ y.e.getD 4 .junk = P' (pI (cnt (h.bs.take i))) ∧ y.e.getD 5 .junk = P' (pI (ix q 1099511627776)) ∧ y.e.getD 20 .junk = P' (.lst h.bs.length (h.bs.flatMap p2)) ∧ y.e.getD 21 .junk = P' (pI h.bs.length) ∧ y.e.getD 22 .junk = P' (pI i) ∧
      OA y.s.nx y.s [] [(0, .cells (h.pd.map .p) false)] ∧ (0 ≤ cnt (h.bs.take i) ∧ cnt (h.bs.take i) ≤ i * 1048576) ∧ bck (ix q 1099511627776) (-1) h.bs = bck (ix q 1099511627776) (prevB h.bs i) (h.bs.drop i)) ?_ (k := h.bs.length) ?_)
    · rintro k ⟨e, ds, s1⟩ ⟨i, rfl, hi, rfl, hlen, h1, h3, h4, h5', h20, h21, h22, ho, hcn, hch⟩
      simp only at hlen h1 h3 h4 h5' h20 h21 h22 ho
      refine Wc.seq ?_
      refine Wc.reg fun K hK => ?_; simp only [go_sem, ti3, ti9, ti5, ti4, ti32, ti148, ti150, ti205, hlen, h1, h3, h4, h5', h20, h21, h22]; refine hK _ _ ?_; clear hK K
      refine Wc.seq (Wc.cond (t := decide ((i : Int) < h.bs.length)) (by simp only [go_sem, ti3, ti9, ti5, ti4, ti32, ti148, ti150, ti205, hlen]) (fun hc => ?_) (fun hc => ?_))
      · have hil : i < h.bs.length := by have : (i : Int) < h.bs.length := by simpa using hc
                                         omega
        obtain ⟨b, hb⟩ : ∃ b, h.bs[i]? = some b := ⟨h.bs[i], List.getElem?_eq_getElem hil⟩
        have hix := ixA ti148 rfl ti205 (j := i) (m := h.bs.length) (cs := h.bs.flatMap p2) hil hfl (by decide)
        have hca := rpA (off := i * 2) (drop_flat (f := p2) (k := 2) (fun _ => rfl) hb) (by rw [hfl]; omega)
        rw [bck_step hb] at hch
        have bad2 : (b.1 < 0 ∨ (ix q 1099511627776 : Int) < b.1 ∨ b.2 < 1 ∨ 1048576 < b.2) → hck h = 2 := fun hx => by
          rw [e1, hch, if_pos hx, if_pos (by decide)]
        refine Wc.skip (Wc.seq (Wc.block (Wc.seqA (fun y => ∃ k7, y.ds = [] ∧ y.e.length = 62 ∧ y.e.getD 1 .junk = .v (.c (.ref 0 0)) ∧ y.e.getD 3 .junk = P' (pI (prevB h.bs i)) ∧ y.e.getD 4 .junk = P' (pI (cnt (h.bs.take i))) ∧ y.e.getD 5 .junk = P' (pI (ix q 1099511627776)) ∧ y.e.getD 20 .junk = P' (.lst h.bs.length (h.bs.flatMap p2)) ∧ y.e.getD 21 .junk = P' (pI h.bs.length) ∧ y.e.getD 22 .junk = P' (pI i) ∧ y.e.getD 7 .junk = .v (.c (.ref k7 0)) ∧ OA y.s.nx y.s [] [(k7, .cells ((p2 b).map .p) false), (0, .cells (h.pd.map .p) false)]) ?_ ?_)))
        · refine Wc.reg fun K hK => ?_; simp only [go_sem, ti3, ti9, ti5, ti4, ti32, ti148, ti150, ti205, hlen, h1, h3, h4, h5', h20, h21, h22, hix, hca]; refine hK _ _ ?_; clear hK K
          refine ⟨rfl, s1.nx + 3, rfl, by simp only [go_sem, ti3, ti9, ti5, ti4, ti32, ti148, ti150, ti205, hlen], by simp only [go_sem, ti3, ti9, ti5, ti4, ti32, ti148, ti150, ti205, hlen, h1], by simp only [go_sem, ti3, ti9, ti5, ti4, ti32, ti148, ti150, ti205, hlen, h3], by simp only [go_sem, ti3, ti9, ti5, ti4, ti32, ti148, ti150, ti205, hlen, h4], by simp only [go_sem, ti3, ti9, ti5, ti4, ti32, ti148, ti150, ti205, hlen, h5'], by simp only [go_sem, ti3, ti9, ti5, ti4, ti32, ti148, ti150, ti205, hlen, h20], by simp only [go_sem, ti3, ti9, ti5, ti4, ti32, ti148, ti150, ti205, hlen, h21], by simp only [go_sem, ti3, ti9, ti5, ti4, ti32, ti148, ti150, ti205, hlen, h22], by simp only [go_sem, ti3, ti9, ti5, ti4, ti32, ti148, ti150, ti205, hlen], ?_⟩
          have q1 := OA.set (M1 := []) (o' := .cells ((p2 b).map .p) false) (((ho.adv (n := 1)).adv (n := 4)).new (k := s1.nx + 3) (o := .cells [.p (.int .i64 0), .p (.int .i64 0)] false) (by omega) rfl) rfl
          exact q1.mono (by simp only [St.nx_put, St.nx_adv]; omega)
        clear hlen h1 h3 h4 h5' h20 h21 h22 ho e s1 hc
        rintro ⟨e, ds, s1⟩ ⟨k7, rfl, hlen, h1, h3, h4, h5', h20, h21, h22, h7, ho⟩
        simp only at hlen h1 h3 h4 h5' h20 h21 h22 h7 ho
        have g7 := ho.at_ (k7, .cells ((p2 b).map .p) false) (by simp)
        simp only [List.map_cons, List.map_nil] at g7
        refine Wc.seqR (fun y => ¬ (b.1 < 0 ∨ (ix q 1099511627776 : Int) < b.1 ∨ b.2 < 1 ∨ 1048576 < b.2) ∧ y.ds = [] ∧ y.e.length = 62 ∧ y.e.getD 1 .junk = .v (.c (.ref 0 0)) ∧ y.e.getD 3 .junk = P' (pI (prevB h.bs i)) ∧ y.e.getD 4 .junk = P' (pI (cnt (h.bs.take i))) ∧ y.e.getD 5 .junk = P' (pI (ix q 1099511627776)) ∧ y.e.getD 20 .junk = P' (.lst h.bs.length (h.bs.flatMap p2)) ∧ y.e.getD 21 .junk = P' (pI h.bs.length) ∧ y.e.getD 22 .junk = P' (pI i) ∧ y.e.getD 7 .junk = .v (.c (.ref k7 0)) ∧ ∃ n, y.s = s1.adv n) ?_ ?_
        · refine Wc.seq ?_
          by_cases z1 : b.1 < 0
          · refine Wc.reg fun K hK => ?_; simp only [go_sem, ti3, ti9, ti5, ti4, ti32, ti148, ti150, ti205, hlen, h1, h3, h4, h5', h20, h21, h22, h7, g7, z1]; refine hK _ _ ?_; clear hK K
            refine Wc.cond (t := true) (by simp only [go_sem, ti3, ti9, ti5, ti4, ti32, ti148, ti150, ti205, hlen]) (fun _ => ?_) (fun hc => by cases hc)
            refine Wc.seq ?_
            refine Wc.reg fun K hK => ?_; simp only [go_sem, ti3, ti9, ti5, ti4, ti32, ti148, ti150, ti205, hlen]; refine hK _ _ ?_; clear hK K
            rw [bad2 (.inl z1)]
            exact Wc.ret (Pf.ret [.tmp 2] [.c (.p (pI 2))] rfl rfl (by simp only [resultsD, go_sem, ti3, ti9, ti5, ti4, ti32, ti148, ti150, ti205, hlen]) rfl)
          by_cases z2 : (ix q 1099511627776 : Int) < b.1
          · refine Wc.reg fun K hK => ?_; simp only [go_sem, ti3, ti9, ti5, ti4, ti32, ti148, ti150, ti205, hlen, h1, h3, h4, h5', h20, h21, h22, h7, g7, z1, z2]; refine hK _ _ ?_; clear hK K
            refine Wc.cond (t := true) (by simp only [go_sem, ti3, ti9, ti5, ti4, ti32, ti148, ti150, ti205, hlen]) (fun _ => ?_) (fun hc => by cases hc)
            refine Wc.seq ?_
            refine Wc.reg fun K hK => ?_; simp only [go_sem, ti3, ti9, ti5, ti4, ti32, ti148, ti150, ti205, hlen]; refine hK _ _ ?_; clear hK K
            rw [bad2 (.inr (.inl z2))]
            exact Wc.ret (Pf.ret [.tmp 2] [.c (.p (pI 2))] rfl rfl (by simp only [resultsD, go_sem, ti3, ti9, ti5, ti4, ti32, ti148, ti150, ti205, hlen]) rfl)
          by_cases z3 : b.2 < 1
          · refine Wc.reg fun K hK => ?_; simp only [go_sem, ti3, ti9, ti5, ti4, ti32, ti148, ti150, ti205, hlen, h1, h3, h4, h5', h20, h21, h22, h7, g7, z1, z2, z3]; refine hK _ _ ?_; clear hK K
            refine Wc.cond (t := true) (by simp only [go_sem, ti3, ti9, ti5, ti4, ti32, ti148, ti150, ti205, hlen]) (fun _ => ?_) (fun hc => by cases hc)
            refine Wc.seq ?_
            refine Wc.reg fun K hK => ?_; simp only [go_sem, ti3, ti9, ti5, ti4, ti32, ti148, ti150, ti205, hlen]; refine hK _ _ ?_; clear hK K
            rw [bad2 (.inr (.inr (.inl z3)))]
            exact Wc.ret (Pf.ret [.tmp 2] [.c (.p (pI 2))] rfl rfl (by simp only [resultsD, go_sem, ti3, ti9, ti5, ti4, ti32, ti148, ti150, ti205, hlen]) rfl)
          refine Wc.reg fun K hK => ?_; simp only [go_sem, ti3, ti9, ti5, ti4, ti32, ti148, ti150, ti205, hlen, h1, h3, h4, h5', h20, h21, h22, h7, g7, z1, z2, z3]; refine hK _ _ ?_; clear hK K
          refine Wc.cond (t := decide (1048576 < b.2)) (by simp only [go_sem, ti3, ti9, ti5, ti4, ti32, ti148, ti150, ti205, hlen]) (fun hc => ?_) (fun hc => ?_)
          · refine Wc.seq ?_
            refine Wc.reg fun K hK => ?_; simp only [go_sem, ti3, ti9, ti5, ti4, ti32, ti148, ti150, ti205, hlen]; refine hK _ _ ?_; clear hK K
            rw [bad2 (.inr (.inr (.inr (by simpa using hc))))]
            exact Wc.ret (Pf.ret [.tmp 2] [.c (.p (pI 2))] rfl rfl (by simp only [resultsD, go_sem, ti3, ti9, ti5, ti4, ti32, ti148, ti150, ti205, hlen]) rfl)
          · have z4 : ¬ 1048576 < b.2 := by simpa using hc
            exact Wc.skip ⟨by omega, rfl, by simp only [go_sem, ti3, ti9, ti5, ti4, ti32, ti148, ti150, ti205, hlen], by simp only [go_sem, ti3, ti9, ti5, ti4, ti32, ti148, ti150, ti205, hlen, h1], by simp only [go_sem, ti3, ti9, ti5, ti4, ti32, ti148, ti150, ti205, hlen, h3], by simp only [go_sem, ti3, ti9, ti5, ti4, ti32, ti148, ti150, ti205, hlen, h4], by simp only [go_sem, ti3, ti9, ti5, ti4, ti32, ti148, ti150, ti205, hlen, h5'], by simp only [go_sem, ti3, ti9, ti5, ti4, ti32, ti148, ti150, ti205, hlen, h20], by simp only [go_sem, ti3, ti9, ti5, ti4, ti32, ti148, ti150, ti205, hlen, h21], by simp only [go_sem, ti3, ti9, ti5, ti4, ti32, ti148, ti150, ti205, hlen, h22], by simp only [go_sem, ti3, ti9, ti5, ti4, ti32, ti148, ti150, ti205, hlen, h7], _, rfl⟩
        clear hlen h1 h3 h4 h5' h20 h21 h22 h7 e
        rintro ⟨e, ds, s2⟩ ⟨hz, rfl, hlen, h1, h3, h4, h5', h20, h21, h22, h7, n1, rfl⟩
        simp only at hlen h1 h3 h4 h5' h20 h21 h22 h7
        rw [if_neg hz] at hch
        refine Wc.seq (Wc.seq ?_)
        refine Wc.reg fun K hK => ?_; simp only [go_sem, ti3, ti9, ti5, ti4, ti32, ti148, ti150, ti205, hlen, h1, h3, h4, h5', h20, h21, h22, h7, g7]; refine hK _ _ ?_; clear hK K
        refine Wc.cond (t := decide (b.1 ≤ prevB h.bs i)) (by simp only [go_sem, ti3, ti9, ti5, ti4, ti32, ti148, ti150, ti205, hlen]) (fun hc => ?_) (fun hc => ?_)
        · have z5 : b.1 ≤ prevB h.bs i := by simpa using hc
          rw [if_pos z5] at hch
          refine Wc.seq ?_
          refine Wc.reg fun K hK => ?_; simp only [go_sem, ti3, ti9, ti5, ti4, ti32, ti148, ti150, ti205, hlen]; refine hK _ _ ?_; clear hK K
          rw [e1, hch, if_pos (by decide)]
          exact Wc.ret (Pf.ret [.tmp 2] [.c (.p (pI 9))] rfl rfl (by simp only [resultsD, go_sem, ti3, ti9, ti5, ti4, ti32, ti148, ti150, ti205, hlen]) rfl)
        have z5 : ¬ b.1 ≤ prevB h.bs i := by simpa using hc
        rw [if_neg z5] at hch
        have hcs : cnt (h.bs.take (i + 1)) = cnt (h.bs.take i) + b.2 := sumI_take hb
        have hpb : prevB h.bs (i + 1) = b.1 := by simp [prevB, hb]
        have w1 : IntKind.i64.wrap (cnt (h.bs.take i) + b.2) = cnt (h.bs.take (i + 1)) := by rw [wi64]; omega
        refine Wc.skip (Wc.seq ?_)
        refine Wc.reg fun K hK => ?_; simp only [go_sem, ti3, ti9, ti5, ti4, ti32, ti148, ti150, ti205, hlen, h1, h3, h4, h5', h20, h21, h22, h7, g7]; refine hK _ _ ?_; clear hK K
        refine Wc.reg fun K hK => ?_; simp only [go_sem, ti3, ti9, ti5, ti4, ti32, ti148, ti150, ti205, hlen, h1, h3, h4, h5', h20, h21, h22, h7, g7, w1]; refine hK _ _ ?_; clear hK K
        refine Wc.reg fun K hK => ?_; simp only [go_sem, ti3, ti9, ti5, ti4, ti32, ti148, ti150, ti205, hlen, h1, h3, h4, h5', h20, h21, h22, h7, g7, i64n i (by omega)]; refine hK _ _ ?_; clear hK K
        refine ⟨h.bs.length - (i + 1), by omega, i + 1, rfl, by omega, rfl, by simp only [go_sem, ti3, ti9, ti5, ti4, ti32, ti148, ti150, ti205, hlen], by simp only [go_sem, ti3, ti9, ti5, ti4, ti32, ti148, ti150, ti205, hlen, h1], by simp only [go_sem, ti3, ti9, ti5, ti4, ti32, ti148, ti150, ti205, hlen, hpb], by simp only [go_sem, ti3, ti9, ti5, ti4, ti32, ti148, ti150, ti205, hlen], by simp only [go_sem, ti3, ti9, ti5, ti4, ti32, ti148, ti150, ti205, hlen, h5'], by simp only [go_sem, ti3, ti9, ti5, ti4, ti32, ti148, ti150, ti205, hlen, h20], by simp only [go_sem, ti3, ti9, ti5, ti4, ti32, ti148, ti150, ti205, hlen, h21], by simp only [go_sem, ti3, ti9, ti5, ti4, ti32, ti148, ti150, ti205, hlen], ?_, by omega, hch⟩
        have q1 := ho.sub (List.Sublist.refl _) (List.sublist_cons_self _ _)
        refine OA.mono (b := s1.nx) ?_ (by simp only [St.nx_adv]; omega)
        repeat refine OA.adv ?_
        exact q1
      · have hil : i = h.bs.length := by have : ¬ (i : Int) < h.bs.length := by simpa using hc
                                         omega
        subst hil
        rw [List.drop_length] at hch
        rw [List.take_length] at h4
        exact Wc.exit ⟨hch, rfl, by simp only [go_sem, ti3, ti9, ti5, ti4, ti32, ti148, ti150, ti205, hlen], by simp only [go_sem, ti3, ti9, ti5, ti4, ti32, ti148, ti150, ti205, hlen, h1], by simp only [go_sem, ti3, ti9, ti5, ti4, ti32, ti148, ti150, ti205, hlen, h4], (ho.mono (Nat.le_add_right _ 1)).adv⟩
    · refine ⟨0, rfl, by omega, rfl, rfl, rfl, rfl, rfl, rfl, rfl, rfl, rfl, ?_, by simp [cnt, sumI], e2⟩
      have hH : Ob.cells [.p (pI q), .p (pI h.c), .p (pI h.s), .p (pI h.mn), .p (pI h.mx), .p (.lst h.bs.length (h.bs.flatMap p2))] false = .cells (h.pd.map .p) false := by rw [← hq]; rfl
      rw [hH]
      have o0 := (s00_oa.adv (n := 2)).new (k := 0) (o := .cells (h.pd.map .p) false) (Nat.le_refl _) rfl
      refine OA.mono (b := 0 + 1) ?_ (by simp only [St.nx_adv, St.nx_put]; omega)
      repeat refine OA.adv ?_
      exact o0
  rintro ⟨e, ds, s1⟩ ⟨hz, rfl, hlen, h1, h4, ho⟩
  simp only at hlen h1 h4 ho
  rw [if_neg (by rw [hz]; decide)] at e1
  have hbs := bck_bs hq8 hz
  refine Wc.seq (Wc.seq ?_)
  refine Wc.reg fun K hK => ?_; simp only [go_sem, ti3, ti9, ti5, ti4, ti32, ti148, ti150, ti205, hlen, h1, h4]; refine hK _ _ ?_; clear hK K
  refine Wc.cond (t := decide (1048576 < cnt h.bs)) (by simp only [go_sem, ti3, ti9, ti5, ti4, ti32, ti148, ti150, ti205, hlen]) (fun hc => ?_) (fun hc => ?_)
  · have z1 : 1048576 < cnt h.bs := by simpa using hc
    rw [e1, if_pos z1]
    refine Wc.seq ?_
    refine Wc.reg fun K hK => ?_; simp only [go_sem, ti3, ti9, ti5, ti4, ti32, ti148, ti150, ti205, hlen]; refine hK _ _ ?_; clear hK K
    exact Wc.ret (Pf.ret [.tmp 2] [.c (.p (pI 4))] rfl rfl (by simp only [resultsD, go_sem, ti3, ti9, ti5, ti4, ti32, ti148, ti150, ti205, hlen]) rfl)
  have z1 : ¬ 1048576 < cnt h.bs := by simpa using hc
  rw [if_neg z1] at e1
  have g0 := ho.at_ (0, .cells (h.pd.map .p) false) (by simp)
  simp only [List.map_cons, List.map_nil] at g0
  refine Wc.skip (Wc.seq (Wc.seq ?_))
  refine Wc.reg fun K hK => ?_; simp only [go_sem, ti3, ti9, ti5, ti4, ti32, ti148, ti150, ti205, hlen, h1, h4, g0]
  refine wpCall.pf (pf212 h (cnt h.bs) q hq8 hq hbs (by omega) rfl (by omega)) (by kernel_rfl) (by kernel_rfl) rfl rfl ?_
  simp only [go_sem, ti3, ti9, ti5, ti4, ti32, ti148, ti150, ti205, hlen, h1, h4, g0]; refine hK _ _ ?_; clear hK K
  refine Wc.cond (t := !(agrB h q (cnt h.bs))) (by simp only [go_sem, ti3, ti9, ti5, ti4, ti32, ti148, ti150, ti205, hlen]) (fun hc => ?_) (fun hc => ?_)
  · rw [e1, if_pos (by simpa using hc)]
    refine Wc.seq ?_
    refine Wc.reg fun K hK => ?_; simp only [go_sem, ti3, ti9, ti5, ti4, ti32, ti148, ti150, ti205, hlen]; refine hK _ _ ?_; clear hK K
    exact Wc.ret (Pf.ret [.tmp 2] [.c (.p (pI 10))] rfl rfl (by simp only [resultsD, go_sem, ti3, ti9, ti5, ti4, ti32, ti148, ti150, ti205, hlen]) rfl)
  · have z2 : agrB h q (cnt h.bs) = true := by simpa using hc
    rw [e1, if_neg (by rw [z2]; decide)]
    refine Wc.skip (Wc.seq ?_)
    refine Wc.reg fun K hK => ?_; simp only [go_sem, ti3, ti9, ti5, ti4, ti32, ti148, ti150, ti205, hlen]; refine hK _ _ ?_; clear hK K
    exact Wc.ret (Pf.ret [.tmp 2] [.c (.p (pI 0))] rfl rfl (by simp only [resultsD, go_sem, ti3, ti9, ti5, ti4, ti32, ti148, ti150, ti205, hlen]) rfl)
end Go.Proofs.YtedcnhbblgmdnaaGreat.Ab
namespace Go.Proofs.YtedcnhbblgmdnaaGreat.Ab
set_option maxHeartbeats 8000000
set_option maxRecDepth 10000
set_option linter.unusedSimpArgs false
set_option linter.unusedVariables false
theorem sumI_zero {f : Nat → Int × Int → Int} : ∀ {l : List (Int × Int)} {i : Nat}, (∀ (j : Nat) (b : Int × Int), l[j]? = some b → f (i + j) b = 0) → sumI f i l = 0
  | [], i, h => rfl
  | b :: r, i, h => by
    have h1 : f i b = 0 := h 0 b rfl
    have h2 : sumI f (i + 1) r = 0 := sumI_zero fun j c hj => by
      have h3 := h (j + 1) c (by simpa using hj)
      have e : i + 1 + j = i + (j + 1) := by omega
      rw [e]; exact h3
    simp only [sumI, h1, h2]; rfl
theorem o253 : E0.opn 253 = false := by kernel_rfl
theorem x253 : E0.xt 253 = none := by kernel_rfl
/-- What a histogram's reference functions ask. -/
structure HCx (h : Hst) (q : Nat) : Prop where
  q8 : q ≤ 8
  p : h.p = q
  bs : BsOK q h.bs
  n : h.bs.length ≤ 500
  c : cnt h.bs ≤ 1048576
  a : 0 ≤ h.mn
  b : h.mn ≤ h.mx
  d : h.mx ≤ 1099511627776
theorem HCx.cnt_take {h : Hst} {q : Nat} (x : HCx h q) (i : Nat) : 0 ≤ cnt (h.bs.take i) ∧ cnt (h.bs.take i) ≤ 1048576 := by
  have := cnt_le x.bs.cn i
  have := x.c
  omega
theorem HCx.lo {h : Hst} {q : Nat} (x : HCx h q) {b : I2} (hb : b ∈ h.bs) : b.1.toNat ≤ (41 - q) * 2 ^ q ∧ (Go.Proofs.YtedcnhbblgmdnaaGreat.Ab.lo q b.1.toNat : Int) ≤ 1099511627776 ∧ (hi q b.1.toNat : Int) ≤ 1099511627776 ∧ 1 ≤ b.2 ∧ 0 ≤ b.1 := by
  have h0 := x.bs.lo0 b hb
  have h1 : b.1.toNat ≤ (41 - q) * 2 ^ q := by omega
  have h2 := lo_last x.q8 h1
  have h3 : hi q b.1.toNat ≤ 1099511627776 := Nat.min_le_right _ _
  have h4 := x.bs.cn b hb
  omega
theorem HCx.lowR {h : Hst} {q : Nat} (x : HCx h q) {i : Nat} {b : I2} (hb : b ∈ h.bs) : 0 ≤ lowR q h.mn i b ∧ lowR q h.mn i b ≤ 1099511627776 := by
  have h1 := x.lo hb
  have := x.a; have := x.b; have := x.d
  unfold Go.Proofs.YtedcnhbblgmdnaaGreat.Ab.lowR
  split <;> omega
theorem HCx.highR {h : Hst} {q : Nat} (x : HCx h q) {i : Nat} {b : I2} (hb : b ∈ h.bs) : 0 ≤ highR q h.mx h.bs.length i b ∧ highR q h.mx h.bs.length i b ≤ 1099511627776 := by
  have h1 := x.lo hb
  have := x.a; have := x.b; have := x.d
  unfold Go.Proofs.YtedcnhbblgmdnaaGreat.Ab.highR
  split <;> omega
theorem HCx.mulB {h : Hst} {q : Nat} (x : HCx h q) {g : Nat → I2 → Int} (hg : ∀ (i : Nat) (b : I2), b ∈ h.bs → 0 ≤ g i b ∧ g i b ≤ 1099511627776) (i : Nat) : 0 ≤ sumI (fun i b => g i b * b.2) 0 (h.bs.take i) ∧ sumI (fun i b => g i b * b.2) 0 (h.bs.take i) ≤ 1099511627776 * cnt (h.bs.take i) := by
  refine sumI_bound (m := 1099511627776) fun j c hc => ?_
  have hcm := List.mem_of_mem_take (List.mem_of_getElem? hc)
  have h1 := hg (0 + j) c hcm
  have h2 := x.bs.cn c hcm
  exact ⟨Int.mul_nonneg h1.1 (by omega), Int.mul_le_mul_of_nonneg_right h1.2 (by omega)⟩
/-- 133: the reference's least -/
theorem pf222 (h : Hst) (q : Nat) (x : HCx h q) : Pf E0 222 [.agg (h.pd.map .p)] (P' (pI (leastR q h.mn h.mx h.bs))) := by
  have hfl : (h.bs.flatMap p2).length = h.bs.length * 2 := flat_len (k := 2) (fun _ => rfl) _
  have xa := x.a
  have xb := x.b
  have xd := x.d
  have xn := x.n
  have w0 : IntKind.i64.wrap (h.mx - h.mn) = (h.mx - h.mn) := by rw [wi64]; omega
  refine Pf.body (fn := Tryz.f222) (by kernel_rfl) rfl ?_; simp only [List.map_cons, List.map_nil, List.cons_append, List.nil_append, List.length_cons, List.length_nil, Tryz.ntmps222, List.replicate, Nat.reduceSub, Nat.reduceAdd]
  refine Wc.seq ?_
  refine Wc.reg fun K hK => ?_; simp only [go_sem, ti3, ti9, ti5, ti4, ti32, ti148, ti150, ti205, x.p]; refine hK _ _ ?_; clear hK K
  refine Wc.seq ?_
  refine Wc.reg fun K hK => ?_; simp only [go_sem, ti3, ti9, ti5, ti4, ti32, ti148, ti150, ti205, w0]; refine hK _ _ ?_; clear hK K
  refine Wc.seq (Wc.seq ?_)
  refine Wc.reg fun K hK => ?_; simp only [go_sem, ti3, ti9, ti5, ti4, ti32, ti148, ti150, ti205, Int.natCast_zero]; refine hK _ _ ?_; clear hK K
  refine Wc.block (Wc.loop (fun k y => ∃ (i : Nat) (o : Int), k = h.bs.length - i ∧ i ≤ h.bs.length ∧ y.ds = [] ∧ y.e.length = 58 ∧ y.e.getD 1 .junk = .v (.c (.ref 0 0)) ∧ y.e.getD 3 .junk = P' (pI o) ∧ y.e.getD 4 .junk = P' (pI i) ∧ y.s.get 0 = some (.cells [.p (pI q), .p (pI h.c), .p (pI h.s), .p (pI h.mn), .p (pI h.mx), .p (.lst h.bs.length (h.bs.flatMap p2))] false) ∧ o = (h.mx - h.mn) + sumI (termL q h.mn h.bs.length) 0 (h.bs.take i)) ?_ (k := h.bs.length) ?_)
  · rintro k ⟨e, ds, s1⟩ ⟨i, o, rfl, hi, rfl, hlen, h1, h3, h4, g0, ho⟩
    simp only at hlen h1 h3 h4 g0
    refine Wc.seq (Wc.seq ?_)
    refine Wc.reg fun K hK => ?_; simp only [go_sem, ti3, ti9, ti5, ti4, ti32, ti148, ti150, ti205, hlen, h1, h3, h4, g0]; refine hK _ _ ?_; clear hK K
    refine Wc.cond (t := decide ((i : Int) < h.bs.length)) (by simp only [go_sem, ti3, ti9, ti5, ti4, ti32, ti148, ti150, ti205, hlen]) (fun hc => ?_) (fun hc => ?_)
    · have hil : i < h.bs.length := by have : (i : Int) < h.bs.length := by simpa using hc
                                       omega
      obtain ⟨b, hb⟩ : ∃ b, h.bs[i]? = some b := ⟨h.bs[i], List.getElem?_eq_getElem hil⟩
      have hbm := List.mem_of_getElem? hb
      obtain ⟨b1, b2, b3, b4, b5⟩ := x.lo hbm
      have hbi : b.1 = ((b.1.toNat : Nat) : Int) := by omega
      have hix := ixA ti148 rfl ti205 (j := i) (m := h.bs.length) (cs := h.bs.flatMap p2) hil hfl (by decide)
      have hca := rpA (off := i * 2) (drop_flat (f := p2) (k := 2) (fun _ => rfl) hb) (by rw [hfl]; omega)
      have hce := rpA (off := i * 2 + 1) (cs := h.bs.flatMap p2) (pre := [pI b.2]) (rest := (h.bs.drop (i + 1)).flatMap p2) (by rw [← List.drop_drop, drop_flat (f := p2) (k := 2) (fun _ => rfl) hb]; rfl) (by rw [hfl]; omega)
      have el1 : IntKind.i64.wrap ((h.bs.length : Int) - 1) = ((h.bs.length - 1 : Nat) : Int) := by rw [wi64]; omega
      have c1 := x.cnt_take i
      have c2 := x.cnt_take (i + 1)
      have c3 : cnt (h.bs.take (i + 1)) = cnt (h.bs.take i) + b.2 := sumI_take hb
      have hR := x.lowR (i := i) hbm
      have sB := x.mulB (g := (lowR q h.mn)) (fun i b hb => x.lowR hb) i
      have sT : sumI (termL q h.mn h.bs.length) 0 (h.bs.take (i + 1)) = sumI (termL q h.mn h.bs.length) 0 (h.bs.take i) + (termL q h.mn h.bs.length i b) := sumI_take hb
      have sD : ∃ d, -1099511627776 ≤ d ∧ d ≤ 1099511627776 ∧ sumI (termL q h.mn h.bs.length) 0 (h.bs.take i) = sumI (fun i b => lowR q h.mn i b * b.2) 0 (h.bs.take i) + d := by
        have e9 : sumI (termL q h.mn h.bs.length) 0 (h.bs.take i) = sumI (fun i b => lowR q h.mn i b * b.2) 0 (h.bs.take i) + sumI (fun i b => if i + 1 = h.bs.length then h.mn - lowR q h.mn i b else 0) 0 (h.bs.take i) := sumI_add _ _ _ _
        rw [sumI_zero (f := fun i b => if i + 1 = h.bs.length then h.mn - lowR q h.mn i b else 0) fun j c hj => by
          have hj1 := (List.getElem?_eq_some_iff.1 hj).1
          simp only [List.length_take] at hj1
          rw [if_neg (by omega)]] at e9
        exact ⟨0, by decide, by decide, e9⟩
      obtain ⟨d, d1, d2, sD⟩ := sD
      have tB : (termL q h.mn h.bs.length i b) = (lowR q h.mn i b) * b.2 + (if i + 1 = h.bs.length then h.mn - (lowR q h.mn i b) else 0) := rfl
      have X0 : 0 ≤ (lowR q h.mn i b) * b.2 := Int.mul_nonneg (by omega) (by omega)
      have X1 : (lowR q h.mn i b) * b.2 ≤ 1099511627776 * b.2 := Int.mul_le_mul_of_nonneg_right (by omega) (by omega)
      refine Wc.skip (Wc.seq (Wc.block (Wc.seq ?_)))
      refine Wc.regD fun K hK => ?_; simp only [go_sem, ti3, ti9, ti5, ti4, ti32, ti148, ti150, ti205, hlen, h1, h3, h4, g0, hix, hca]
      refine ⟨by simp [o253, x253, plainD, plainV, plainC], ?_⟩
      rw [hbi]
      refine wpCall.pf (pf253 q b.1.toNat x.q8 b1) (by kernel_rfl) (by kernel_rfl) rfl rfl ?_
      rw [← hbi]
      simp only [go_sem, ti3, ti9, ti5, ti4, ti32, ti148, ti150, ti205, hlen, h1, h3, h4, g0, hix, hca]; refine hK _ _ ?_; clear hK K
      refine Wc.seqA (fun y => y.ds = [] ∧ y.e.length = 58 ∧ y.e.getD 1 .junk = .v (.c (.ref 0 0)) ∧ y.e.getD 3 .junk = P' (pI o) ∧ y.e.getD 4 .junk = P' (pI i) ∧ y.e.getD 5 .junk = P' (pI ((lowR q h.mn i b))) ∧ y.s.get 0 = some (.cells [.p (pI q), .p (pI h.c), .p (pI h.s), .p (pI h.mn), .p (pI h.mx), .p (.lst h.bs.length (h.bs.flatMap p2))] false)) ?_ ?_
      · refine Wc.seq ?_
        refine Wc.reg fun K hK => ?_; simp only [go_sem, ti3, ti9, ti5, ti4, ti32, ti148, ti150, ti205, hlen, h1, h3, h4, g0, el1]; refine hK _ _ ?_; clear hK K
        refine Wc.cond (t := ((i : Int) == 0)) (by simp only [go_sem, ti3, ti9, ti5, ti4, ti32, ti148, ti150, ti205, hlen]) (fun hc => ?_) (fun hc => ?_)
        · have hc1 : i = 0 := by simp at hc; omega
          refine Wc.reg fun K hK => ?_; simp only [go_sem, ti3, ti9, ti5, ti4, ti32, ti148, ti150, ti205, hlen, h1, h3, h4, g0]; refine hK _ _ ?_; clear hK K
          exact ⟨rfl, rfl, by simp only [go_sem, ti3, ti9, ti5, ti4, ti32, ti148, ti150, ti205, hlen], by simp only [go_sem, ti3, ti9, ti5, ti4, ti32, ti148, ti150, ti205, hlen, h1], by simp only [go_sem, ti3, ti9, ti5, ti4, ti32, ti148, ti150, ti205, hlen, h3], by simp only [go_sem, ti3, ti9, ti5, ti4, ti32, ti148, ti150, ti205, hlen, h4], by simp only [go_sem, ti3, ti9, ti5, ti4, ti32, ti148, ti150, ti205, hlen, lowR, if_pos hc1], g0⟩
        · have hc1 : ¬ (i = 0) := by simp at hc; omega
          exact Wc.skip ⟨rfl, rfl, by simp only [go_sem, ti3, ti9, ti5, ti4, ti32, ti148, ti150, ti205, hlen], by simp only [go_sem, ti3, ti9, ti5, ti4, ti32, ti148, ti150, ti205, hlen, h1], by simp only [go_sem, ti3, ti9, ti5, ti4, ti32, ti148, ti150, ti205, hlen, h3], by simp only [go_sem, ti3, ti9, ti5, ti4, ti32, ti148, ti150, ti205, hlen, h4], by simp only [go_sem, ti3, ti9, ti5, ti4, ti32, ti148, ti150, ti205, hlen, lowR, if_neg hc1], g0⟩
      clear hlen h1 h3 h4 g0 e s1 hc
      rintro ⟨e, ds, s1⟩ ⟨rfl, hlen, h1, h3, h4, h9, g0⟩
      simp only at hlen h1 h3 h4 h9 g0
      generalize hRR : (lowR q h.mn i b) = r at *
      have w1 : IntKind.i64.wrap (r * b.2) = r * b.2 := by rw [wi64]; omega
      have w2 : IntKind.i64.wrap (o + r * b.2) = o + r * b.2 := by rw [wi64, ho]; omega
      refine Wc.seq ?_
      refine Wc.reg fun K hK => ?_; simp only [go_sem, ti3, ti9, ti5, ti4, ti32, ti148, ti150, ti205, hlen, h1, h3, h4, h9, g0, hix, hce, w1, w2]; refine hK _ _ ?_; clear hK K
      refine Wc.mono (Q := fun ex y => ex = .normal ∧ y.ds = [] ∧ y.e.length = 58 ∧ y.e.getD 1 .junk = .v (.c (.ref 0 0)) ∧ y.e.getD 3 .junk = P' (pI ((h.mx - h.mn) + sumI (termL q h.mn h.bs.length) 0 (h.bs.take (i + 1)))) ∧ y.e.getD 4 .junk = P' (pI i) ∧ y.s.get 0 = some (.cells [.p (pI q), .p (pI h.c), .p (pI h.s), .p (pI h.mn), .p (pI h.mx), .p (.lst h.bs.length (h.bs.flatMap p2))] false)) ?_ ?_
      · refine Wc.seq ?_
        refine Wc.reg fun K hK => ?_; simp only [go_sem, ti3, ti9, ti5, ti4, ti32, ti148, ti150, ti205, hlen, h1, h3, h4, h9, g0, el1]; refine hK _ _ ?_; clear hK K
        refine Wc.cond (t := ((i : Int) == ((h.bs.length - 1 : Nat) : Int))) (by simp only [go_sem, ti3, ti9, ti5, ti4, ti32, ti148, ti150, ti205, hlen]) (fun hc => ?_) (fun hc => ?_)
        · have hc1 : i + 1 = h.bs.length := by simp at hc; omega
          rw [if_pos hc1] at tB
          have w3 : IntKind.i64.wrap (o + r * b.2 + h.mn) = o + r * b.2 + h.mn := by rw [wi64, ho]; omega
          have w4 : IntKind.i64.wrap (o + r * b.2 + h.mn - r) = (h.mx - h.mn) + sumI (termL q h.mn h.bs.length) 0 (h.bs.take (i + 1)) := by rw [wi64, sT, tB, ho]; omega
          refine Wc.reg fun K hK => ?_; simp only [go_sem, ti3, ti9, ti5, ti4, ti32, ti148, ti150, ti205, hlen, h1, h3, h4, h9, g0, w3, w4]; refine hK _ _ ?_; clear hK K
          exact ⟨rfl, rfl, by simp only [go_sem, ti3, ti9, ti5, ti4, ti32, ti148, ti150, ti205, hlen], by simp only [go_sem, ti3, ti9, ti5, ti4, ti32, ti148, ti150, ti205, hlen, h1], by simp only [go_sem, ti3, ti9, ti5, ti4, ti32, ti148, ti150, ti205, hlen], by simp only [go_sem, ti3, ti9, ti5, ti4, ti32, ti148, ti150, ti205, hlen, h4], g0⟩
        · have hc1 : ¬ (i + 1 = h.bs.length) := by simp at hc; omega
          rw [if_neg hc1] at tB
          have w4 : o + r * b.2 = (h.mx - h.mn) + sumI (termL q h.mn h.bs.length) 0 (h.bs.take (i + 1)) := by rw [sT, tB, ho]; omega
          exact Wc.skip ⟨rfl, rfl, by simp only [go_sem, ti3, ti9, ti5, ti4, ti32, ti148, ti150, ti205, hlen], by simp only [go_sem, ti3, ti9, ti5, ti4, ti32, ti148, ti150, ti205, hlen, h1], by simp only [go_sem, ti3, ti9, ti5, ti4, ti32, ti148, ti150, ti205, hlen, w4], by simp only [go_sem, ti3, ti9, ti5, ti4, ti32, ti148, ti150, ti205, hlen, h4], g0⟩
      clear hlen h1 h3 h4 h9 g0 e s1
      rintro ex ⟨e, ds, s1⟩ ⟨rfl, rfl, hlen, h1, h3, h4, g0⟩
      simp only at hlen h1 h3 h4 g0
      refine Wc.reg fun K hK => ?_; simp only [go_sem, ti3, ti9, ti5, ti4, ti32, ti148, ti150, ti205, hlen, h1, h3, h4, i64n i (by omega)]; refine hK _ _ ?_; clear hK K
      exact ⟨h.bs.length - (i + 1), by omega, i + 1, _, rfl, by omega, rfl, by simp only [go_sem, ti3, ti9, ti5, ti4, ti32, ti148, ti150, ti205, hlen], by simp only [go_sem, ti3, ti9, ti5, ti4, ti32, ti148, ti150, ti205, hlen, h1], by simp only [go_sem, ti3, ti9, ti5, ti4, ti32, ti148, ti150, ti205, hlen, h3], by simp only [go_sem, ti3, ti9, ti5, ti4, ti32, ti148, ti150, ti205, hlen], g0, rfl⟩
    · have hil : i = h.bs.length := by have : ¬ (i : Int) < h.bs.length := by simpa using hc
                                       omega
      subst hil
      rw [List.take_length] at ho
      have e9 : o = leastR q h.mn h.mx h.bs := ho
      subst e9
      refine Wc.exit (Wc.seq ?_)
      refine Wc.reg fun K hK => ?_; simp only [go_sem, ti3, ti9, ti5, ti4, ti32, ti148, ti150, ti205, hlen, h3]; refine hK _ _ ?_; clear hK K
      exact Wc.ret (Pf.ret [.tmp 2] [.c (.p (pI (leastR q h.mn h.mx h.bs)))] rfl rfl (by simp only [resultsD, go_sem, ti3, ti9, ti5, ti4, ti32, ti148, ti150, ti205, hlen]) rfl)
  · exact ⟨0, (h.mx - h.mn), rfl, by omega, rfl, rfl, rfl, rfl, rfl, by simp only [go_sem, ti3, ti9, ti5, ti4, ti32, ti148, ti150, ti205], by simp [sumI]⟩
/-- 134: the reference's most -/
theorem pf223 (h : Hst) (q : Nat) (x : HCx h q) : Pf E0 223 [.agg (h.pd.map .p)] (P' (pI (mostR q h.mn h.mx h.bs))) := by
  have hfl : (h.bs.flatMap p2).length = h.bs.length * 2 := flat_len (k := 2) (fun _ => rfl) _
  have xa := x.a
  have xb := x.b
  have xd := x.d
  have xn := x.n
  have w0 : IntKind.i64.wrap (h.mn - h.mx) = (h.mn - h.mx) := by rw [wi64]; omega
  refine Pf.body (fn := Tryz.f223) (by kernel_rfl) rfl ?_; simp only [List.map_cons, List.map_nil, List.cons_append, List.nil_append, List.length_cons, List.length_nil, Tryz.ntmps223, List.replicate, Nat.reduceSub, Nat.reduceAdd]
  refine Wc.seq ?_
  refine Wc.reg fun K hK => ?_; simp only [go_sem, ti3, ti9, ti5, ti4, ti32, ti148, ti150, ti205, x.p]; refine hK _ _ ?_; clear hK K
  refine Wc.seq ?_
  refine Wc.reg fun K hK => ?_; simp only [go_sem, ti3, ti9, ti5, ti4, ti32, ti148, ti150, ti205, w0]; refine hK _ _ ?_; clear hK K
  refine Wc.seq (Wc.seq ?_)
  refine Wc.reg fun K hK => ?_; simp only [go_sem, ti3, ti9, ti5, ti4, ti32, ti148, ti150, ti205, Int.natCast_zero]; refine hK _ _ ?_; clear hK K
  refine Wc.block (Wc.loop (fun k y => ∃ (i : Nat) (o : Int), k = h.bs.length - i ∧ i ≤ h.bs.length ∧ y.ds = [] ∧ y.e.length = 58 ∧ y.e.getD 1 .junk = .v (.c (.ref 0 0)) ∧ y.e.getD 3 .junk = P' (pI o) ∧ y.e.getD 4 .junk = P' (pI i) ∧ y.s.get 0 = some (.cells [.p (pI q), .p (pI h.c), .p (pI h.s), .p (pI h.mn), .p (pI h.mx), .p (.lst h.bs.length (h.bs.flatMap p2))] false) ∧ o = (h.mn - h.mx) + sumI (termM q h.mx h.bs.length) 0 (h.bs.take i)) ?_ (k := h.bs.length) ?_)
  · rintro k ⟨e, ds, s1⟩ ⟨i, o, rfl, hi, rfl, hlen, h1, h3, h4, g0, ho⟩
    simp only at hlen h1 h3 h4 g0
    refine Wc.seq (Wc.seq ?_)
    refine Wc.reg fun K hK => ?_; simp only [go_sem, ti3, ti9, ti5, ti4, ti32, ti148, ti150, ti205, hlen, h1, h3, h4, g0]; refine hK _ _ ?_; clear hK K
    refine Wc.cond (t := decide ((i : Int) < h.bs.length)) (by simp only [go_sem, ti3, ti9, ti5, ti4, ti32, ti148, ti150, ti205, hlen]) (fun hc => ?_) (fun hc => ?_)
    · have hil : i < h.bs.length := by have : (i : Int) < h.bs.length := by simpa using hc
                                       omega
      obtain ⟨b, hb⟩ : ∃ b, h.bs[i]? = some b := ⟨h.bs[i], List.getElem?_eq_getElem hil⟩
      have hbm := List.mem_of_getElem? hb
      obtain ⟨b1, b2, b3, b4, b5⟩ := x.lo hbm
      have hbi : b.1 = ((b.1.toNat : Nat) : Int) := by omega
      have hix := ixA ti148 rfl ti205 (j := i) (m := h.bs.length) (cs := h.bs.flatMap p2) hil hfl (by decide)
      have hca := rpA (off := i * 2) (drop_flat (f := p2) (k := 2) (fun _ => rfl) hb) (by rw [hfl]; omega)
      have hce := rpA (off := i * 2 + 1) (cs := h.bs.flatMap p2) (pre := [pI b.2]) (rest := (h.bs.drop (i + 1)).flatMap p2) (by rw [← List.drop_drop, drop_flat (f := p2) (k := 2) (fun _ => rfl) hb]; rfl) (by rw [hfl]; omega)
      have el1 : IntKind.i64.wrap ((h.bs.length : Int) - 1) = ((h.bs.length - 1 : Nat) : Int) := by rw [wi64]; omega
      have c1 := x.cnt_take i
      have c2 := x.cnt_take (i + 1)
      have c3 : cnt (h.bs.take (i + 1)) = cnt (h.bs.take i) + b.2 := sumI_take hb
      have hR := x.highR (i := i) hbm
      have sB := x.mulB (g := (highR q h.mx h.bs.length)) (fun i b hb => x.highR hb) i
      have sT : sumI (termM q h.mx h.bs.length) 0 (h.bs.take (i + 1)) = sumI (termM q h.mx h.bs.length) 0 (h.bs.take i) + (termM q h.mx h.bs.length i b) := sumI_take hb
      have sD : ∃ d, -1099511627776 ≤ d ∧ d ≤ 1099511627776 ∧ sumI (termM q h.mx h.bs.length) 0 (h.bs.take i) = sumI (fun i b => highR q h.mx h.bs.length i b * b.2) 0 (h.bs.take i) + d := by
        have e9 : sumI (termM q h.mx h.bs.length) 0 (h.bs.take i) = sumI (fun i b => highR q h.mx h.bs.length i b * b.2) 0 (h.bs.take i) + sumI (fun i b => if i = 0 then h.mx - highR q h.mx h.bs.length i b else 0) 0 (h.bs.take i) := sumI_add _ _ _ _
        refine ⟨_, ?_, ?_, e9⟩
        all_goals
          cases ht : h.bs.take i with
          | nil => simp [sumI]
          | cons c r =>
            have hcm : c ∈ h.bs := List.mem_of_mem_take (i := i) (by rw [ht]; simp)
            have h9 := x.highR (i := 0) hcm
            rw [sumI, sumI_firstT _ r (0 + 1) (by decide), if_pos rfl]; omega
      obtain ⟨d, d1, d2, sD⟩ := sD
      have tB : (termM q h.mx h.bs.length i b) = (highR q h.mx h.bs.length i b) * b.2 + (if i = 0 then h.mx - (highR q h.mx h.bs.length i b) else 0) := rfl
      have X0 : 0 ≤ (highR q h.mx h.bs.length i b) * b.2 := Int.mul_nonneg (by omega) (by omega)
      have X1 : (highR q h.mx h.bs.length i b) * b.2 ≤ 1099511627776 * b.2 := Int.mul_le_mul_of_nonneg_right (by omega) (by omega)
      refine Wc.skip (Wc.seq (Wc.block (Wc.seq ?_)))
      refine Wc.regD fun K hK => ?_; simp only [go_sem, ti3, ti9, ti5, ti4, ti32, ti148, ti150, ti205, hlen, h1, h3, h4, g0, hix, hca]
      refine ⟨by simp [o253, x253, plainD, plainV, plainC], ?_⟩
      rw [hbi]
      refine wpCall.pf (pf253 q b.1.toNat x.q8 b1) (by kernel_rfl) (by kernel_rfl) rfl rfl ?_
      rw [← hbi]
      simp only [go_sem, ti3, ti9, ti5, ti4, ti32, ti148, ti150, ti205, hlen, h1, h3, h4, g0, hix, hca]; refine hK _ _ ?_; clear hK K
      refine Wc.seqA (fun y => y.ds = [] ∧ y.e.length = 58 ∧ y.e.getD 1 .junk = .v (.c (.ref 0 0)) ∧ y.e.getD 3 .junk = P' (pI o) ∧ y.e.getD 4 .junk = P' (pI i) ∧ y.e.getD 6 .junk = P' (pI ((highR q h.mx h.bs.length i b))) ∧ y.s.get 0 = some (.cells [.p (pI q), .p (pI h.c), .p (pI h.s), .p (pI h.mn), .p (pI h.mx), .p (.lst h.bs.length (h.bs.flatMap p2))] false)) ?_ ?_
      · refine Wc.seq ?_
        refine Wc.reg fun K hK => ?_; simp only [go_sem, ti3, ti9, ti5, ti4, ti32, ti148, ti150, ti205, hlen, h1, h3, h4, g0, el1]; refine hK _ _ ?_; clear hK K
        refine Wc.cond (t := ((i : Int) == ((h.bs.length - 1 : Nat) : Int))) (by simp only [go_sem, ti3, ti9, ti5, ti4, ti32, ti148, ti150, ti205, hlen]) (fun hc => ?_) (fun hc => ?_)
        · have hc1 : i + 1 = h.bs.length := by simp at hc; omega
          refine Wc.reg fun K hK => ?_; simp only [go_sem, ti3, ti9, ti5, ti4, ti32, ti148, ti150, ti205, hlen, h1, h3, h4, g0]; refine hK _ _ ?_; clear hK K
          exact ⟨rfl, rfl, by simp only [go_sem, ti3, ti9, ti5, ti4, ti32, ti148, ti150, ti205, hlen], by simp only [go_sem, ti3, ti9, ti5, ti4, ti32, ti148, ti150, ti205, hlen, h1], by simp only [go_sem, ti3, ti9, ti5, ti4, ti32, ti148, ti150, ti205, hlen, h3], by simp only [go_sem, ti3, ti9, ti5, ti4, ti32, ti148, ti150, ti205, hlen, h4], by simp only [go_sem, ti3, ti9, ti5, ti4, ti32, ti148, ti150, ti205, hlen, highR, if_pos hc1], g0⟩
        · have hc1 : ¬ (i + 1 = h.bs.length) := by simp at hc; omega
          exact Wc.skip ⟨rfl, rfl, by simp only [go_sem, ti3, ti9, ti5, ti4, ti32, ti148, ti150, ti205, hlen], by simp only [go_sem, ti3, ti9, ti5, ti4, ti32, ti148, ti150, ti205, hlen, h1], by simp only [go_sem, ti3, ti9, ti5, ti4, ti32, ti148, ti150, ti205, hlen, h3], by simp only [go_sem, ti3, ti9, ti5, ti4, ti32, ti148, ti150, ti205, hlen, h4], by simp only [go_sem, ti3, ti9, ti5, ti4, ti32, ti148, ti150, ti205, hlen, highR, if_neg hc1], g0⟩
      clear hlen h1 h3 h4 g0 e s1 hc
      rintro ⟨e, ds, s1⟩ ⟨rfl, hlen, h1, h3, h4, h9, g0⟩
      simp only at hlen h1 h3 h4 h9 g0
      generalize hRR : (highR q h.mx h.bs.length i b) = r at *
      have w1 : IntKind.i64.wrap (r * b.2) = r * b.2 := by rw [wi64]; omega
      have w2 : IntKind.i64.wrap (o + r * b.2) = o + r * b.2 := by rw [wi64, ho]; omega
      refine Wc.seq ?_
      refine Wc.reg fun K hK => ?_; simp only [go_sem, ti3, ti9, ti5, ti4, ti32, ti148, ti150, ti205, hlen, h1, h3, h4, h9, g0, hix, hce, w1, w2]; refine hK _ _ ?_; clear hK K
      refine Wc.mono (Q := fun ex y => ex = .normal ∧ y.ds = [] ∧ y.e.length = 58 ∧ y.e.getD 1 .junk = .v (.c (.ref 0 0)) ∧ y.e.getD 3 .junk = P' (pI ((h.mn - h.mx) + sumI (termM q h.mx h.bs.length) 0 (h.bs.take (i + 1)))) ∧ y.e.getD 4 .junk = P' (pI i) ∧ y.s.get 0 = some (.cells [.p (pI q), .p (pI h.c), .p (pI h.s), .p (pI h.mn), .p (pI h.mx), .p (.lst h.bs.length (h.bs.flatMap p2))] false)) ?_ ?_
      · refine Wc.seq ?_
        refine Wc.reg fun K hK => ?_; simp only [go_sem, ti3, ti9, ti5, ti4, ti32, ti148, ti150, ti205, hlen, h1, h3, h4, h9, g0, el1]; refine hK _ _ ?_; clear hK K
        refine Wc.cond (t := ((i : Int) == 0)) (by simp only [go_sem, ti3, ti9, ti5, ti4, ti32, ti148, ti150, ti205, hlen]) (fun hc => ?_) (fun hc => ?_)
        · have hc1 : i = 0 := by simp at hc; omega
          rw [if_pos hc1] at tB
          have w3 : IntKind.i64.wrap (o + r * b.2 + h.mx) = o + r * b.2 + h.mx := by rw [wi64, ho]; omega
          have w4 : IntKind.i64.wrap (o + r * b.2 + h.mx - r) = (h.mn - h.mx) + sumI (termM q h.mx h.bs.length) 0 (h.bs.take (i + 1)) := by rw [wi64, sT, tB, ho]; omega
          refine Wc.reg fun K hK => ?_; simp only [go_sem, ti3, ti9, ti5, ti4, ti32, ti148, ti150, ti205, hlen, h1, h3, h4, h9, g0, w3, w4]; refine hK _ _ ?_; clear hK K
          exact ⟨rfl, rfl, by simp only [go_sem, ti3, ti9, ti5, ti4, ti32, ti148, ti150, ti205, hlen], by simp only [go_sem, ti3, ti9, ti5, ti4, ti32, ti148, ti150, ti205, hlen, h1], by simp only [go_sem, ti3, ti9, ti5, ti4, ti32, ti148, ti150, ti205, hlen], by simp only [go_sem, ti3, ti9, ti5, ti4, ti32, ti148, ti150, ti205, hlen, h4], g0⟩
        · have hc1 : ¬ (i = 0) := by simp at hc; omega
          rw [if_neg hc1] at tB
          have w4 : o + r * b.2 = (h.mn - h.mx) + sumI (termM q h.mx h.bs.length) 0 (h.bs.take (i + 1)) := by rw [sT, tB, ho]; omega
          exact Wc.skip ⟨rfl, rfl, by simp only [go_sem, ti3, ti9, ti5, ti4, ti32, ti148, ti150, ti205, hlen], by simp only [go_sem, ti3, ti9, ti5, ti4, ti32, ti148, ti150, ti205, hlen, h1], by simp only [go_sem, ti3, ti9, ti5, ti4, ti32, ti148, ti150, ti205, hlen, w4], by simp only [go_sem, ti3, ti9, ti5, ti4, ti32, ti148, ti150, ti205, hlen, h4], g0⟩
      clear hlen h1 h3 h4 h9 g0 e s1
      rintro ex ⟨e, ds, s1⟩ ⟨rfl, rfl, hlen, h1, h3, h4, g0⟩
      simp only at hlen h1 h3 h4 g0
      refine Wc.reg fun K hK => ?_; simp only [go_sem, ti3, ti9, ti5, ti4, ti32, ti148, ti150, ti205, hlen, h1, h3, h4, i64n i (by omega)]; refine hK _ _ ?_; clear hK K
      exact ⟨h.bs.length - (i + 1), by omega, i + 1, _, rfl, by omega, rfl, by simp only [go_sem, ti3, ti9, ti5, ti4, ti32, ti148, ti150, ti205, hlen], by simp only [go_sem, ti3, ti9, ti5, ti4, ti32, ti148, ti150, ti205, hlen, h1], by simp only [go_sem, ti3, ti9, ti5, ti4, ti32, ti148, ti150, ti205, hlen, h3], by simp only [go_sem, ti3, ti9, ti5, ti4, ti32, ti148, ti150, ti205, hlen], g0, rfl⟩
    · have hil : i = h.bs.length := by have : ¬ (i : Int) < h.bs.length := by simpa using hc
                                       omega
      subst hil
      rw [List.take_length] at ho
      have e9 : o = mostR q h.mn h.mx h.bs := ho
      subst e9
      refine Wc.exit (Wc.seq ?_)
      refine Wc.reg fun K hK => ?_; simp only [go_sem, ti3, ti9, ti5, ti4, ti32, ti148, ti150, ti205, hlen, h3]; refine hK _ _ ?_; clear hK K
      exact Wc.ret (Pf.ret [.tmp 2] [.c (.p (pI (mostR q h.mn h.mx h.bs)))] rfl rfl (by simp only [resultsD, go_sem, ti3, ti9, ti5, ti4, ti32, ti148, ti150, ti205, hlen]) rfl)
  · exact ⟨0, (h.mn - h.mx), rfl, by omega, rfl, rfl, rfl, rfl, rfl, by simp only [go_sem, ti3, ti9, ti5, ti4, ti32, ti148, ti150, ti205], by simp [sumI]⟩
end Go.Proofs.YtedcnhbblgmdnaaGreat.Ab
