/- A part of the proof: an evaluator of the code, its contracts, the law. No condition. -/
import Derived.Test.YtedcnhbblgmdnaaGreatT18
namespace Go.Proofs.YtedcnhbblgmdnaaGreat.Ab
set_option maxHeartbeats 8000000
set_option maxRecDepth 10000
set_option linter.unusedSimpArgs false
set_option linter.unusedVariables false
/-- Why a list is no list of buckets, behind an index. -/
def bck (last : Int) : Int → List I2 → Int
  | _, [] => 0
  | p, b :: r => if b.1 < 0 ∨ last < b.1 ∨ b.2 < 1 ∨ 1048576 < b.2 then 2 else if b.1 ≤ p then 9 else bck last b.1 r
def prevB (l : List I2) (i : Nat) : Int := if i = 0 then -1 else ((l[i - 1]?).map (·.1)).getD 0
theorem bck_step {last : Int} {l : List I2} {i : Nat} {b : I2} (h : l[i]? = some b) : bck last (prevB l i) (l.drop i) = if b.1 < 0 ∨ last < b.1 ∨ b.2 < 1 ∨ 1048576 < b.2 then 2 else if b.1 ≤ prevB l i then 9 else bck last (prevB l (i + 1)) (l.drop (i + 1)) := by
  have hi := (List.getElem?_eq_some_iff.1 h).1
  have hx := (List.getElem?_eq_some_iff.1 h).2
  have hp : prevB l (i + 1) = b.1 := by simp [prevB, h]
  rw [List.drop_eq_getElem_cons hi, hx, hp]
  rfl
theorem bck_ok {last : Int} : ∀ {l : List I2} {p : Int}, bck last p l = 0 → (∀ b ∈ l, p < b.1 ∧ 0 ≤ b.1 ∧ b.1 ≤ last ∧ 1 ≤ b.2 ∧ b.2 ≤ 1048576) ∧ ∀ (i j : Nat) (b c : I2), i < j → l[i]? = some b → l[j]? = some c → b.1 < c.1
  | [], p, h => ⟨fun b hb => by (cases hb), fun i j b c _ h1 _ => by simp at h1⟩
  | x :: r, p, h => by
    simp only [bck] at h
    split at h
    · cases h
    · split at h
      · cases h
      · rename_i h1 h2
        obtain ⟨a1, a2⟩ := bck_ok h
        refine ⟨fun b hb => ?_, fun i j b c hij hi hj => ?_⟩
        · rcases List.mem_cons.1 hb with rfl | hb
          · omega
          · have := a1 b hb; omega
        · cases j with
          | zero => omega
          | succ j =>
            simp only [List.getElem?_cons_succ] at hj
            cases i with
            | zero =>
              simp at hi; subst hi
              exact (a1 c (List.mem_of_getElem? hj)).1
            | succ i =>
              simp only [List.getElem?_cons_succ] at hi
              exact a2 i j b c (by omega) hi hj
/-- Why a histogram is not valid. -/
def hck (h : Hst) : Int := if h.p < 0 ∨ 8 < h.p then 2 else if 500 < h.bs.length then 4 else if bck (ix h.p.toNat 1099511627776) (-1) h.bs ≠ 0 then bck (ix h.p.toNat 1099511627776) (-1) h.bs else if 1048576 < cnt h.bs then 4 else if agrB h h.p.toNat (cnt h.bs) = false then 10 else 0
theorem bck_bs {q : Nat} {bs : List I2} (hq : q ≤ 8) (h : bck (ix q 1099511627776) (-1) bs = 0) : BsOK q bs := by
  obtain ⟨a1, a2⟩ := bck_ok h
  rw [ix_last q hq] at a1
  exact ⟨fun b hb => ⟨(a1 b hb).2.1, (a1 b hb).2.2.1⟩, fun b hb => (a1 b hb).2.2.2.1, a2⟩
/-- 84: loghist.Check -/
theorem pf136 (h : Hst) (hl : h.bs.length < 2^60) : Pf E0 136 [.agg (h.pd.map .p)] (P' (pI (hck h))) := by
  have hfl : (h.bs.flatMap p2).length = h.bs.length * 2 := flat_len (k := 2) (fun _ => rfl) _
  refine Pf.body (fn := Tryz.f136) (by kernel_rfl) rfl ?_; simp only [List.map_cons, List.map_nil, List.cons_append, List.nil_append, List.length_cons, List.length_nil, Tryz.ntmps136, List.replicate, Nat.reduceSub, Nat.reduceAdd]
  refine Wc.seq ?_
  refine Wc.reg fun K hK => ?_; simp only [go_sem, ti3, ti9, ti5, ti4, ti32, ti148, ti150, ti205]; refine hK _ _ ?_; clear hK K
  refine Wc.seq (Wc.seq ?_)
  refine Wc.reg fun K hK => ?_; simp only [go_sem, ti3, ti9, ti5, ti4, ti32, ti148, ti150, ti205]
  refine wpCall.pf (pf210 h.p) (by kernel_rfl) (by kernel_rfl) rfl rfl ?_
  simp only [go_sem, ti3, ti9, ti5, ti4, ti32, ti148, ti150, ti205]; refine hK _ _ ?_; clear hK K
  refine Wc.cond (t := !(decide (0 ≤ h.p ∧ h.p ≤ 8))) (by simp only [go_sem, ti3, ti9, ti5, ti4, ti32, ti148, ti150, ti205]) (fun hc => ?_) (fun hc => ?_)
  · have hp : h.p < 0 ∨ 8 < h.p := by simp at hc; omega
    have e : hck h = 2 := by unfold hck; rw [if_pos hp]
    rw [e]
    refine Wc.seq ?_
    refine Wc.reg fun K hK => ?_; simp only [go_sem, ti3, ti9, ti5, ti4, ti32, ti148, ti150, ti205]; refine hK _ _ ?_; clear hK K
    exact Wc.ret (Pf.ret [.tmp 2] [.c (.p (pI 2))] rfl rfl (by simp only [resultsD, go_sem, ti3, ti9, ti5, ti4, ti32, ti148, ti150, ti205]) rfl)
  have hp : 0 ≤ h.p ∧ h.p ≤ 8 := by simpa using hc
  obtain ⟨q, hq⟩ : ∃ q : Nat, h.p = (q : Int) := ⟨h.p.toNat, by omega⟩
  have hq8 : q ≤ 8 := by omega
  have eq0 : h.p.toNat = q := by omega
  have e1 : hck h = if 500 < h.bs.length then 4 else if bck (ix q 1099511627776) (-1) h.bs ≠ 0 then bck (ix q 1099511627776) (-1) h.bs else if 1048576 < cnt h.bs then 4 else if agrB h q (cnt h.bs) = false then 10 else 0 := by
    unfold hck; rw [if_neg (by omega), eq0]
  refine Wc.skip (Wc.seq (Wc.seq ?_))
  refine Wc.reg fun K hK => ?_; simp only [go_sem, ti3, ti9, ti5, ti4, ti32, ti148, ti150, ti205]; refine hK _ _ ?_; clear hK K
  refine Wc.cond (t := decide ((500 : Int) < h.bs.length)) (by simp only [go_sem, ti3, ti9, ti5, ti4, ti32, ti148, ti150, ti205]) (fun hc => ?_) (fun hc => ?_)
  · have h5 : 500 < h.bs.length := by have : (500 : Int) < h.bs.length := by simpa using hc
                                      omega
    rw [e1, if_pos h5]
    refine Wc.seq ?_
    refine Wc.reg fun K hK => ?_; simp only [go_sem, ti3, ti9, ti5, ti4, ti32, ti148, ti150, ti205]; refine hK _ _ ?_; clear hK K
    exact Wc.ret (Pf.ret [.tmp 2] [.c (.p (pI 4))] rfl rfl (by simp only [resultsD, go_sem, ti3, ti9, ti5, ti4, ti32, ti148, ti150, ti205]) rfl)
  have h5 : ¬ 500 < h.bs.length := by have : ¬ (500 : Int) < h.bs.length := by simpa using hc
                                      omega
  rw [if_neg h5] at e1
  refine Wc.skip (Wc.seq ?_)
  refine Wc.reg fun K hK => ?_; simp only [go_sem, ti3, ti9, ti5, ti4, ti32, ti148, ti150, ti205]; refine hK _ _ ?_; clear hK K
  refine Wc.seq ?_
  refine Wc.reg fun K hK => ?_; simp only [go_sem, ti3, ti9, ti5, ti4, ti32, ti148, ti150, ti205, Int.natCast_zero]; refine hK _ _ ?_; clear hK K
  refine Wc.seq ?_
  refine Wc.reg fun K hK => ?_; simp only [go_sem, ti3, ti9, ti5, ti4, ti32, ti148, ti150, ti205, hq]
  refine wpCall.pf (pf211 q hq8) (by kernel_rfl) (by kernel_rfl) rfl rfl ?_
  simp only [go_sem, ti3, ti9, ti5, ti4, ti32, ti148, ti150, ti205]; refine hK _ _ ?_; clear hK K
  have e2 : bck (ix q 1099511627776) (-1) h.bs = bck (ix q 1099511627776) (prevB h.bs 0) (h.bs.drop 0) := rfl
  refine Wc.seqR (fun y => bck (ix q 1099511627776) (-1) h.bs = 0 ∧ y.ds = [] ∧ y.e.length = 62 ∧ y.e.getD 1 .junk = .v (.c (.ref 0 0)) ∧ y.e.getD 4 .junk = P' (pI (cnt h.bs)) ∧ OA y.s.nx y.s [] [(0, .cells (h.pd.map .p) false)]) ?_ ?_
  · refine Wc.seq ?_
    refine Wc.reg fun K hK => ?_; simp only [go_sem, ti3, ti9, ti5, ti4, ti32, ti148, ti150, ti205, Int.natCast_zero]; refine hK _ _ ?_; clear hK K
    refine Wc.block (Wc.loop (fun k y => ∃ i : Nat, k = h.bs.length - i ∧ i ≤ h.bs.length ∧ y.ds = [] ∧ y.e.length = 62 ∧ y.e.getD 1 .junk = .v (.c (.ref 0 0)) ∧ y.e.getD 3 .junk = P' (pI (prevB h.bs i)) ∧ y.e.getD 4 .junk = P' (pI (cnt (h.bs.take i))) ∧ y.e.getD 5 .junk = P' (pI (ix q 1099511627776)) ∧ y.e.getD 20 .junk = P' (.lst h.bs.length (h.bs.flatMap p2)) ∧ y.e.getD 21 .junk = P' (pI h.bs.length) ∧ y.e.getD 22 .junk = P' (pI i) ∧
      OA y.s.nx y.s [] [(0, .cells (h.pd.map .p) false)] ∧ (0 ≤ cnt (h.bs.take i) ∧ cnt (h.bs.take i) ≤ i * 1048576) ∧ bck (ix q 1099511627776) (-1) h.bs = bck (ix q 1099511627776) (prevB h.bs i) (h.bs.drop i)) ?_ (k := h.bs.length) ?_)
    · rintro k ⟨e, ds, s1⟩ ⟨i, rfl, hi, rfl, hlen, h1, h3, h4, h5', h20, h21, h22, ho, hcn, hch⟩
      simp only at hlen h1 h3 h4 h5' h20 h21 h22 ho
      refine Wc.seq ?_
      refine Wc.reg fun K hK => ?_; simp only [go_sem, ti3, ti9, ti5, ti4, ti32, ti148, ti150, ti205, hlen, h1, h3, h4, h5', h20, h21, h22]; refine hK _ _ ?_; clear hK K
      refine Wc.seq (Wc.cond (t := decide ((i : Int) < h.bs.length)) (by simp only [go_sem, ti3, ti9, ti5, ti4, ti32, ti148, ti150, ti205, hlen]) (fun hc => ?_) (fun hc => ?_))
      · have hil : i < h.bs.length := by have : (i : Int) < h.bs.length := by simpa using hc
                                         omega
        obtain ⟨b, hb⟩ : ∃ b, h.bs[i]? = some b := ⟨h.bs[i], List.getElem?_eq_getElem hil⟩
        have hix := ixA ti148 rfl ti205 (j := i) (m := h.bs.length) (cs := h.bs.flatMap p2) hil hfl (by decide)
        have hca := rpA (off := i * 2) (drop_flat (f := p2) (k := 2) (fun _ => rfl) hb) (by rw [hfl]; omega)
        rw [bck_step hb] at hch
        have bad2 : (b.1 < 0 ∨ (ix q 1099511627776 : Int) < b.1 ∨ b.2 < 1 ∨ 1048576 < b.2) → hck h = 2 := fun hx => by
          rw [e1, hch, if_pos hx, if_pos (by decide)]
        refine Wc.skip (Wc.seq (Wc.block (Wc.seqA (fun y => ∃ k7, y.ds = [] ∧ y.e.length = 62 ∧ y.e.getD 1 .junk = .v (.c (.ref 0 0)) ∧ y.e.getD 3 .junk = P' (pI (prevB h.bs i)) ∧ y.e.getD 4 .junk = P' (pI (cnt (h.bs.take i))) ∧ y.e.getD 5 .junk = P' (pI (ix q 1099511627776)) ∧ y.e.getD 20 .junk = P' (.lst h.bs.length (h.bs.flatMap p2)) ∧ y.e.getD 21 .junk = P' (pI h.bs.length) ∧ y.e.getD 22 .junk = P' (pI i) ∧ y.e.getD 7 .junk = .v (.c (.ref k7 0)) ∧ OA y.s.nx y.s [] [(k7, .cells ((p2 b).map .p) false), (0, .cells (h.pd.map .p) false)]) ?_ ?_)))
        · refine Wc.reg fun K hK => ?_; simp only [go_sem, ti3, ti9, ti5, ti4, ti32, ti148, ti150, ti205, hlen, h1, h3, h4, h5', h20, h21, h22, hix, hca]; refine hK _ _ ?_; clear hK K
          refine ⟨rfl, s1.nx + 3, rfl, by simp only [go_sem, ti3, ti9, ti5, ti4, ti32, ti148, ti150, ti205, hlen], by simp only [go_sem, ti3, ti9, ti5, ti4, ti32, ti148, ti150, ti205, hlen, h1], by simp only [go_sem, ti3, ti9, ti5, ti4, ti32, ti148, ti150, ti205, hlen, h3], by simp only [go_sem, ti3, ti9, ti5, ti4, ti32, ti148, ti150, ti205, hlen, h4], by simp only [go_sem, ti3, ti9, ti5, ti4, ti32, ti148, ti150, ti205, hlen, h5'], by simp only [go_sem, ti3, ti9, ti5, ti4, ti32, ti148, ti150, ti205, hlen, h20], by simp only [go_sem, ti3, ti9, ti5, ti4, ti32, ti148, ti150, ti205, hlen, h21], by simp only [go_sem, ti3, ti9, ti5, ti4, ti32, ti148, ti150, ti205, hlen, h22], by simp only [go_sem, ti3, ti9, ti5, ti4, ti32, ti148, ti150, ti205, hlen], ?_⟩
          have q1 := OA.set (M1 := []) (o' := .cells ((p2 b).map .p) false) (((ho.adv (n := 1)).adv (n := 4)).new (k := s1.nx + 3) (o := .cells [.p (.int .i64 0), .p (.int .i64 0)] false) (by omega) rfl) rfl
          exact q1.mono (by simp only [St.nx_put, St.nx_adv]; omega)
        clear hlen h1 h3 h4 h5' h20 h21 h22 ho e s1 hc
        rintro ⟨e, ds, s1⟩ ⟨k7, rfl, hlen, h1, h3, h4, h5', h20, h21, h22, h7, ho⟩
        simp only at hlen h1 h3 h4 h5' h20 h21 h22 h7 ho
        have g7 := ho.at_ (k7, .cells ((p2 b).map .p) false) (by simp)
        simp only [List.map_cons, List.map_nil] at g7
        refine Wc.seqR (fun y => ¬ (b.1 < 0 ∨ (ix q 1099511627776 : Int) < b.1 ∨ b.2 < 1 ∨ 1048576 < b.2) ∧ y.ds = [] ∧ y.e.length = 62 ∧ y.e.getD 1 .junk = .v (.c (.ref 0 0)) ∧ y.e.getD 3 .junk = P' (pI (prevB h.bs i)) ∧ y.e.getD 4 .junk = P' (pI (cnt (h.bs.take i))) ∧ y.e.getD 5 .junk = P' (pI (ix q 1099511627776)) ∧ y.e.getD 20 .junk = P' (.lst h.bs.length (h.bs.flatMap p2)) ∧ y.e.getD 21 .junk = P' (pI h.bs.length) ∧ y.e.getD 22 .junk = P' (pI i) ∧ y.e.getD 7 .junk = .v (.c (.ref k7 0)) ∧ ∃ n, y.s = s1.adv n) ?_ ?_
        · refine Wc.seq ?_
          by_cases z1 : b.1 < 0
          · refine Wc.reg fun K hK => ?_; simp only [go_sem, ti3, ti9, ti5, ti4, ti32, ti148, ti150, ti205, hlen, h1, h3, h4, h5', h20, h21, h22, h7, g7, z1]; refine hK _ _ ?_; clear hK K
            refine Wc.cond (t := true) (by simp only [go_sem, ti3, ti9, ti5, ti4, ti32, ti148, ti150, ti205, hlen]) (fun _ => ?_) (fun hc => by cases hc)
            refine Wc.seq ?_
            refine Wc.reg fun K hK => ?_; simp only [go_sem, ti3, ti9, ti5, ti4, ti32, ti148, ti150, ti205, hlen]; refine hK _ _ ?_; clear hK K
            rw [bad2 (.inl z1)]
            exact Wc.ret (Pf.ret [.tmp 2] [.c (.p (pI 2))] rfl rfl (by simp only [resultsD, go_sem, ti3, ti9, ti5, ti4, ti32, ti148, ti150, ti205, hlen]) rfl)
          by_cases z2 : (ix q 1099511627776 : Int) < b.1
          · refine Wc.reg fun K hK => ?_; simp only [go_sem, ti3, ti9, ti5, ti4, ti32, ti148, ti150, ti205, hlen, h1, h3, h4, h5', h20, h21, h22, h7, g7, z1, z2]; refine hK _ _ ?_; clear hK K
            refine Wc.cond (t := true) (by simp only [go_sem, ti3, ti9, ti5, ti4, ti32, ti148, ti150, ti205, hlen]) (fun _ => ?_) (fun hc => by cases hc)
            refine Wc.seq ?_
            refine Wc.reg fun K hK => ?_; simp only [go_sem, ti3, ti9, ti5, ti4, ti32, ti148, ti150, ti205, hlen]; refine hK _ _ ?_; clear hK K
            rw [bad2 (.inr (.inl z2))]
            exact Wc.ret (Pf.ret [.tmp 2] [.c (.p (pI 2))] rfl rfl (by simp only [resultsD, go_sem, ti3, ti9, ti5, ti4, ti32, ti148, ti150, ti205, hlen]) rfl)
          by_cases z3 : b.2 < 1
          · refine Wc.reg fun K hK => ?_; simp only [go_sem, ti3, ti9, ti5, ti4, ti32, ti148, ti150, ti205, hlen, h1, h3, h4, h5', h20, h21, h22, h7, g7, z1, z2, z3]; refine hK _ _ ?_; clear hK K
            refine Wc.cond (t := true) (by simp only [go_sem, ti3, ti9, ti5, ti4, ti32, ti148, ti150, ti205, hlen]) (fun _ => ?_) (fun hc => by cases hc)
            refine Wc.seq ?_
            refine Wc.reg fun K hK => ?_; simp only [go_sem, ti3, ti9, ti5, ti4, ti32, ti148, ti150, ti205, hlen]; refine hK _ _ ?_; clear hK K
            rw [bad2 (.inr (.inr (.inl z3)))]
            exact Wc.ret (Pf.ret [.tmp 2] [.c (.p (pI 2))] rfl rfl (by simp only [resultsD, go_sem, ti3, ti9, ti5, ti4, ti32, ti148, ti150, ti205, hlen]) rfl)
          refine Wc.reg fun K hK => ?_; simp only [go_sem, ti3, ti9, ti5, ti4, ti32, ti148, ti150, ti205, hlen, h1, h3, h4, h5', h20, h21, h22, h7, g7, z1, z2, z3]; refine hK _ _ ?_; clear hK K
          refine Wc.cond (t := decide (1048576 < b.2)) (by simp only [go_sem, ti3, ti9, ti5, ti4, ti32, ti148, ti150, ti205, hlen]) (fun hc => ?_) (fun hc => ?_)
          · refine Wc.seq ?_
            refine Wc.reg fun K hK => ?_; simp only [go_sem, ti3, ti9, ti5, ti4, ti32, ti148, ti150, ti205, hlen]; refine hK _ _ ?_; clear hK K
            rw [bad2 (.inr (.inr (.inr (by simpa using hc))))]
            exact Wc.ret (Pf.ret [.tmp 2] [.c (.p (pI 2))] rfl rfl (by simp only [resultsD, go_sem, ti3, ti9, ti5, ti4, ti32, ti148, ti150, ti205, hlen]) rfl)
          · have z4 : ¬ 1048576 < b.2 := by simpa using hc
            exact Wc.skip ⟨by omega, rfl, by simp only [go_sem, ti3, ti9, ti5, ti4, ti32, ti148, ti150, ti205, hlen], by simp only [go_sem, ti3, ti9, ti5, ti4, ti32, ti148, ti150, ti205, hlen, h1], by simp only [go_sem, ti3, ti9, ti5, ti4, ti32, ti148, ti150, ti205, hlen, h3], by simp only [go_sem, ti3, ti9, ti5, ti4, ti32, ti148, ti150, ti205, hlen, h4], by simp only [go_sem, ti3, ti9, ti5, ti4, ti32, ti148, ti150, ti205, hlen, h5'], by simp only [go_sem, ti3, ti9, ti5, ti4, ti32, ti148, ti150, ti205, hlen, h20], by simp only [go_sem, ti3, ti9, ti5, ti4, ti32, ti148, ti150, ti205, hlen, h21], by simp only [go_sem, ti3, ti9, ti5, ti4, ti32, ti148, ti150, ti205, hlen, h22], by simp only [go_sem, ti3, ti9, ti5, ti4, ti32, ti148, ti150, ti205, hlen, h7], _, rfl⟩
        clear hlen h1 h3 h4 h5' h20 h21 h22 h7 e
        rintro ⟨e, ds, s2⟩ ⟨hz, rfl, hlen, h1, h3, h4, h5', h20, h21, h22, h7, n1, rfl⟩
        simp only at hlen h1 h3 h4 h5' h20 h21 h22 h7
        rw [if_neg hz] at hch
        refine Wc.seq (Wc.seq ?_)
        refine Wc.reg fun K hK => ?_; simp only [go_sem, ti3, ti9, ti5, ti4, ti32, ti148, ti150, ti205, hlen, h1, h3, h4, h5', h20, h21, h22, h7, g7]; refine hK _ _ ?_; clear hK K
        refine Wc.cond (t := decide (b.1 ≤ prevB h.bs i)) (by simp only [go_sem, ti3, ti9, ti5, ti4, ti32, ti148, ti150, ti205, hlen]) (fun hc => ?_) (fun hc => ?_)
        · have z5 : b.1 ≤ prevB h.bs i := by simpa using hc
          rw [if_pos z5] at hch
          refine Wc.seq ?_
          refine Wc.reg fun K hK => ?_; simp only [go_sem, ti3, ti9, ti5, ti4, ti32, ti148, ti150, ti205, hlen]; refine hK _ _ ?_; clear hK K
          rw [e1, hch, if_pos (by decide)]
          exact Wc.ret (Pf.ret [.tmp 2] [.c (.p (pI 9))] rfl rfl (by simp only [resultsD, go_sem, ti3, ti9, ti5, ti4, ti32, ti148, ti150, ti205, hlen]) rfl)
        have z5 : ¬ b.1 ≤ prevB h.bs i := by simpa using hc
        rw [if_neg z5] at hch
        have hcs : cnt (h.bs.take (i + 1)) = cnt (h.bs.take i) + b.2 := sumI_take hb
        have hpb : prevB h.bs (i + 1) = b.1 := by simp [prevB, hb]
        have w1 : IntKind.i64.wrap (cnt (h.bs.take i) + b.2) = cnt (h.bs.take (i + 1)) := by rw [wi64]; omega
        refine Wc.skip (Wc.seq ?_)
        refine Wc.reg fun K hK => ?_; simp only [go_sem, ti3, ti9, ti5, ti4, ti32, ti148, ti150, ti205, hlen, h1, h3, h4, h5', h20, h21, h22, h7, g7]; refine hK _ _ ?_; clear hK K
        refine Wc.reg fun K hK => ?_; simp only [go_sem, ti3, ti9, ti5, ti4, ti32, ti148, ti150, ti205, hlen, h1, h3, h4, h5', h20, h21, h22, h7, g7, w1]; refine hK _ _ ?_; clear hK K
        refine Wc.reg fun K hK => ?_; simp only [go_sem, ti3, ti9, ti5, ti4, ti32, ti148, ti150, ti205, hlen, h1, h3, h4, h5', h20, h21, h22, h7, g7, i64n i (by omega)]; refine hK _ _ ?_; clear hK K
        refine ⟨h.bs.length - (i + 1), by omega, i + 1, rfl, by omega, rfl, by simp only [go_sem, ti3, ti9, ti5, ti4, ti32, ti148, ti150, ti205, hlen], by simp only [go_sem, ti3, ti9, ti5, ti4, ti32, ti148, ti150, ti205, hlen, h1], by simp only [go_sem, ti3, ti9, ti5, ti4, ti32, ti148, ti150, ti205, hlen, hpb], by simp only [go_sem, ti3, ti9, ti5, ti4, ti32, ti148, ti150, ti205, hlen], by simp only [go_sem, ti3, ti9, ti5, ti4, ti32, ti148, ti150, ti205, hlen, h5'], by simp only [go_sem, ti3, ti9, ti5, ti4, ti32, ti148, ti150, ti205, hlen, h20], by simp only [go_sem, ti3, ti9, ti5, ti4, ti32, ti148, ti150, ti205, hlen, h21], by simp only [go_sem, ti3, ti9, ti5, ti4, ti32, ti148, ti150, ti205, hlen], ?_, by omega, hch⟩
        have q1 := ho.sub (List.Sublist.refl _) (List.sublist_cons_self _ _)
        refine OA.mono (b := s1.nx) ?_ (by simp only [St.nx_adv]; omega)
        repeat refine OA.adv ?_
        exact q1
      · have hil : i = h.bs.length := by have : ¬ (i : Int) < h.bs.length := by simpa using hc
                                         omega
        subst hil
        rw [List.drop_length] at hch
        rw [List.take_length] at h4
        exact Wc.exit ⟨hch, rfl, by simp only [go_sem, ti3, ti9, ti5, ti4, ti32, ti148, ti150, ti205, hlen], by simp only [go_sem, ti3, ti9, ti5, ti4, ti32, ti148, ti150, ti205, hlen, h1], by simp only [go_sem, ti3, ti9, ti5, ti4, ti32, ti148, ti150, ti205, hlen, h4], (ho.mono (Nat.le_add_right _ 1)).adv⟩
    · refine ⟨0, rfl, by omega, rfl, rfl, rfl, rfl, rfl, rfl, rfl, rfl, rfl, ?_, by simp [cnt, sumI], e2⟩
      have hH : Ob.cells [.p (pI q), .p (pI h.c), .p (pI h.s), .p (pI h.mn), .p (pI h.mx), .p (.lst h.bs.length (h.bs.flatMap p2))] false = .cells (h.pd.map .p) false := by rw [← hq]; rfl
      rw [hH]
      have o0 := (s00_oa.adv (n := 2)).new (k := 0) (o := .cells (h.pd.map .p) false) (Nat.le_refl _) rfl
      refine OA.mono (b := 0 + 1) ?_ (by simp only [St.nx_adv, St.nx_put]; omega)
      repeat refine OA.adv ?_
      exact o0
  rintro ⟨e, ds, s1⟩ ⟨hz, rfl, hlen, h1, h4, ho⟩
  simp only at hlen h1 h4 ho
  rw [if_neg (by rw [hz]; decide)] at e1
  have hbs := bck_bs hq8 hz
  refine Wc.seq (Wc.seq ?_)
  refine Wc.reg fun K hK => ?_; simp only [go_sem, ti3, ti9, ti5, ti4, ti32, ti148, ti150, ti205, hlen, h1, h4]; refine hK _ _ ?_; clear hK K
  refine Wc.cond (t := decide (1048576 < cnt h.bs)) (by simp only [go_sem, ti3, ti9, ti5, ti4, ti32, ti148, ti150, ti205, hlen]) (fun hc => ?_) (fun hc => ?_)
  · have z1 : 1048576 < cnt h.bs := by simpa using hc
    rw [e1, if_pos z1]
    refine Wc.seq ?_
    refine Wc.reg fun K hK => ?_; simp only [go_sem, ti3, ti9, ti5, ti4, ti32, ti148, ti150, ti205, hlen]; refine hK _ _ ?_; clear hK K
    exact Wc.ret (Pf.ret [.tmp 2] [.c (.p (pI 4))] rfl rfl (by simp only [resultsD, go_sem, ti3, ti9, ti5, ti4, ti32, ti148, ti150, ti205, hlen]) rfl)
  have z1 : ¬ 1048576 < cnt h.bs := by simpa using hc
  rw [if_neg z1] at e1
  have g0 := ho.at_ (0, .cells (h.pd.map .p) false) (by simp)
  simp only [List.map_cons, List.map_nil] at g0
  refine Wc.skip (Wc.seq (Wc.seq ?_))
  refine Wc.reg fun K hK => ?_; simp only [go_sem, ti3, ti9, ti5, ti4, ti32, ti148, ti150, ti205, hlen, h1, h4, g0]
  refine wpCall.pf (pf212 h (cnt h.bs) q hq8 hq hbs (by omega) rfl (by omega)) (by kernel_rfl) (by kernel_rfl) rfl rfl ?_
  simp only [go_sem, ti3, ti9, ti5, ti4, ti32, ti148, ti150, ti205, hlen, h1, h4, g0]; refine hK _ _ ?_; clear hK K
  refine Wc.cond (t := !(agrB h q (cnt h.bs))) (by simp only [go_sem, ti3, ti9, ti5, ti4, ti32, ti148, ti150, ti205, hlen]) (fun hc => ?_) (fun hc => ?_)
  · rw [e1, if_pos (by simpa using hc)]
    refine Wc.seq ?_
    refine Wc.reg fun K hK => ?_; simp only [go_sem, ti3, ti9, ti5, ti4, ti32, ti148, ti150, ti205, hlen]; refine hK _ _ ?_; clear hK K
    exact Wc.ret (Pf.ret [.tmp 2] [.c (.p (pI 10))] rfl rfl (by simp only [resultsD, go_sem, ti3, ti9, ti5, ti4, ti32, ti148, ti150, ti205, hlen]) rfl)
  · have z2 : agrB h q (cnt h.bs) = true := by simpa using hc
    rw [e1, if_neg (by rw [z2]; decide)]
    refine Wc.skip (Wc.seq ?_)
    refine Wc.reg fun K hK => ?_; simp only [go_sem, ti3, ti9, ti5, ti4, ti32, ti148, ti150, ti205, hlen]; refine hK _ _ ?_; clear hK K
    exact Wc.ret (Pf.ret [.tmp 2] [.c (.p (pI 0))] rfl rfl (by simp only [resultsD, go_sem, ti3, ti9, ti5, ti4, ti32, ti148, ti150, ti205, hlen]) rfl)
end Go.Proofs.YtedcnhbblgmdnaaGreat.Ab
namespace Go.Proofs.YtedcnhbblgmdnaaGreat.Ab
set_option maxHeartbeats 8000000
set_option maxRecDepth 10000
set_option linter.unusedSimpArgs false
set_option linter.unusedVariables false
/-- What a histogram's reference functions ask. -/
structure HCx (h : Hst) (q : Nat) : Prop where
  q8 : q ≤ 8
  p : h.p = q
  bs : BsOK q h.bs
  n : h.bs.length ≤ 500
  c : cnt h.bs ≤ 1048576
  a : 0 ≤ h.mn
  b : h.mn ≤ h.mx
  d : h.mx ≤ 1099511627776
theorem HCx.lo {h : Hst} {q : Nat} (x : HCx h q) {b : I2} (hb : b ∈ h.bs) : b.1.toNat ≤ (41 - q) * 2 ^ q ∧ (Go.Proofs.YtedcnhbblgmdnaaGreat.Ab.lo q b.1.toNat : Int) ≤ 1099511627776 ∧ (hi q b.1.toNat : Int) ≤ 1099511627776 ∧ 1 ≤ b.2 ∧ 0 ≤ b.1 := by
  have h0 := x.bs.lo0 b hb
  have h1 : b.1.toNat ≤ (41 - q) * 2 ^ q := by omega
  have h2 := lo_last x.q8 h1
  have h3 : hi q b.1.toNat ≤ 1099511627776 := Nat.min_le_right _ _
  have h4 := x.bs.cn b hb
  omega
theorem HCx.lowR {h : Hst} {q : Nat} (x : HCx h q) {i : Nat} {b : I2} (hb : b ∈ h.bs) : 0 ≤ lowR q h.mn i b ∧ lowR q h.mn i b ≤ 1099511627776 := by
  have h1 := x.lo hb
  have := x.a; have := x.b; have := x.d
  unfold Go.Proofs.YtedcnhbblgmdnaaGreat.Ab.lowR
  split <;> omega
theorem HCx.highR {h : Hst} {q : Nat} (x : HCx h q) {i : Nat} {b : I2} (hb : b ∈ h.bs) : 0 ≤ highR q h.mx h.bs.length i b ∧ highR q h.mx h.bs.length i b ≤ 1099511627776 := by
  have h1 := x.lo hb
  have := x.a; have := x.b; have := x.d
  unfold Go.Proofs.YtedcnhbblgmdnaaGreat.Ab.highR
  split <;> omega
theorem HCx.mulB {h : Hst} {q : Nat} (x : HCx h q) {g : Nat → I2 → Int} (hg : ∀ (i : Nat) (b : I2), b ∈ h.bs → 0 ≤ g i b ∧ g i b ≤ 1099511627776) (i : Nat) : 0 ≤ sumI (fun i b => g i b * b.2) 0 (h.bs.take i) ∧ sumI (fun i b => g i b * b.2) 0 (h.bs.take i) ≤ 1099511627776 * cnt (h.bs.take i) := by
  refine sumI_bound (m := 1099511627776) fun j c hc => ?_
  have hcm := List.mem_of_mem_take (List.mem_of_getElem? hc)
  have h1 := hg (0 + j) c hcm
  have h2 := x.bs.cn c hcm
  exact ⟨Int.mul_nonneg h1.1 (by omega), Int.mul_le_mul_of_nonneg_right h1.2 (by omega)⟩
end Go.Proofs.YtedcnhbblgmdnaaGreat.Ab
namespace Go.Proofs.YtedcnhbblgmdnaaGreat.Ab
set_option maxHeartbeats 8000000
set_option maxRecDepth 10000
set_option linter.unusedSimpArgs false
set_option linter.unusedVariables false
end Go.Proofs.YtedcnhbblgmdnaaGreat.Ab
namespace Go.Proofs.YtedcnhbblgmdnaaGreat.Ab
set_option maxHeartbeats 8000000
set_option maxRecDepth 10000
set_option linter.unusedSimpArgs false
set_option linter.unusedVariables false
end Go.Proofs.YtedcnhbblgmdnaaGreat.Ab
namespace Go.Proofs.YtedcnhbblgmdnaaGreat.Ab
set_option maxHeartbeats 8000000
set_option maxRecDepth 10000
set_option linter.unusedSimpArgs false
set_option linter.unusedVariables false
/-- Whether a list is one of valid histograms, behind a time. -/
def vh : Int → List HSm → Bool
  | _, [] => true
  | p, x :: r => if x.t ≤ p ∨ 1099511627776 < x.t ∨ hck x.h ≠ 0 then false else vh x.t r
def validH (l : List HSm) : Bool := !(l.length == 0) && decide (l.length ≤ 2000) && vh 0 l
def prevH (l : List HSm) (i : Nat) : Int := if i = 0 then 0 else ((l[i - 1]?).map (·.t)).getD 0
theorem vh_step {l : List HSm} {i : Nat} {x : HSm} (h : l[i]? = some x) : vh (prevH l i) (l.drop i) = if x.t ≤ prevH l i ∨ 1099511627776 < x.t ∨ hck x.h ≠ 0 then false else vh (prevH l (i + 1)) (l.drop (i + 1)) := by
  have hi := (List.getElem?_eq_some_iff.1 h).1
  have hx := (List.getElem?_eq_some_iff.1 h).2
  have hp : prevH l (i + 1) = x.t := by simp [prevH, h]
  rw [List.drop_eq_getElem_cons hi, hx, hp]
  rfl
/-- A series: labels, kind, samples, histograms. -/
structure Ser where
  lb : List Lb
  k : Int
  sm : List I2
  hs : List HSm
abbrev Ser.pd (x : Ser) : List Pd := [.lst x.lb.length (x.lb.flatMap lbP), pI x.k, .lst x.sm.length (x.sm.flatMap p2), .lst x.hs.length (x.hs.flatMap HSm.pd)]
/-- A series that isn't too long for the machine. -/
structure Ser.Sz (x : Ser) : Prop where
  lb : x.lb.length < 2^40
  ls : ∀ y ∈ x.lb, y.1.length < 2^50 ∧ y.2.length < 2^50
  sm : x.sm.length < 2^40
  hs : x.hs.length < 2^40
  hb : ∀ y ∈ x.hs, y.h.bs.length < 2^60
def serOK (x : Ser) : Bool := if lckA x.lb ≠ 0 then false else if x.k = 3 then (x.sm.length == 0) && validH x.hs else (x.hs.length == 0) && (!(x.sm.length == 0) && (sckA x.k x.sm == 0))
theorem len_beq (n : Nat) : ((n : Int) == 0) = (n == 0) := by
  rw [Bool.eq_iff_iff]; simp
theorem len_pos (n : Nat) : decide (0 < (n : Int)) = !(n == 0) := by
  cases n <;> simp
end Go.Proofs.YtedcnhbblgmdnaaGreat.Ab
namespace Go.Proofs.YtedcnhbblgmdnaaGreat.Ab
set_option maxHeartbeats 8000000
set_option maxRecDepth 10000
set_option linter.unusedSimpArgs false
set_option linter.unusedVariables false
theorem validH_bad {l : List HSm} (hn : ¬ (l.length ≠ 0 ∧ l.length ≤ 2000)) : validH l = false := by
  unfold validH
  by_cases h0 : l.length = 0
  · have b0 : (l.length == 0) = true := by simpa using h0
    rw [b0]; rfl
  · have n0 : ¬ l.length ≤ 2000 := by omega
    rw [decide_eq_false n0, Bool.and_false, Bool.false_and]
end Go.Proofs.YtedcnhbblgmdnaaGreat.Ab
namespace Go.Proofs.YtedcnhbblgmdnaaGreat.Ab
set_option maxHeartbeats 4000000
set_option linter.unusedSimpArgs false
set_option linter.unusedVariables false
theorem encT_len {l : List Int} (h : (encT l).2 = 0) : (encT l).1.length ≤ 40 + 20 * l.length := by
  unfold encT at *
  by_cases hc : chkT l = 0
  · rw [if_pos hc]
    obtain ⟨hl2, hV⟩ := chkT_ok hc
    have hR : ∀ x ∈ l, inR x = true := fun x hx => by have := hV x hx; simp [inR]; omega
    have hD := diffs_mem hV
    have hDR : ∀ x ∈ diffs l, inR x = true := fun x hx => by have := hD x hx; simp [inR]; omega
    have hDD := diffs_mem hD
    have hDDR : (diffs (diffs l)).all inR = true := List.all_eq_true.2 fun d hd => by have := hDD d hd; simp [inR]; omega
    have hdl := diffs_len l
    have hddl := diffs_len (diffs l)
    have hrl := runE_len _ (diffs (diffs l)) (Nat.le_refl _) hDDR (by omega)
    have f1 := first1_len hR
    have f2 := first1_len hDR
    have hvl := vb_len10 (n := l.length) (by omega)
    simp only [List.length_append]
    omega
  · rw [if_neg hc] at h
    exact absurd h hc
theorem encV_len2 {l : List Int} (h : (encV l).2 = 0) : (encV l).1.length ≤ 40 + 20 * l.length := by
  unfold encV at *
  by_cases h1 : 20000 < l.length
  · rw [if_pos h1] at h; cases h
  rw [if_neg h1] at h ⊢
  by_cases h2 : l.all inV = true
  · rw [if_pos h2]
    have hV := inV_all h2
    have hR : ∀ x ∈ l, inR x = true := fun x hx => inV_R (List.all_eq_true.1 h2 x hx)
    have hdR : (diffs l).all inR = true := List.all_eq_true.2 fun d hd => by have := diffs_mem hV d hd; simp [inR]; omega
    have hdl := diffs_len l
    have hrl := runE_len _ (diffs l) (Nat.le_refl _) hdR (by omega)
    have f1 := first1_len hR
    have hvl := vb_len10 (n := l.length) (by omega)
    simp only [List.length_append]
    omega
  · rw [if_neg h2] at h; cases h
theorem encI_len2 {l : List Int} (h : (encI l).2 = 0) : (encI l).1.length ≤ 40 + 20 * l.length := by
  unfold encI at *
  by_cases h1 : 20000 < l.length
  · rw [if_pos h1] at h; cases h
  rw [if_neg h1] at h ⊢
  by_cases h2 : l.all inR = true
  · rw [if_pos h2]
    have hvl := vb_len10 (n := l.length) (by omega)
    have := encL_len l h2
    simp only [List.length_append]
    omega
  · rw [if_neg h2] at h; cases h
theorem encF_len {f : Int} {l : List Int} (h : (encF f l).2 = 0) : (encF f l).1.length ≤ 40 + 20 * l.length := by
  unfold encF at *
  split at h
  · rename_i h0; rw [if_pos h0]; exact encT_len h
  · split at h
    · rename_i h0 h1; rw [if_neg h0, if_pos h1]; exact encV_len2 h
    · rename_i h0 h1; rw [if_neg h0, if_neg h1]; exact encI_len2 h
/-- Encoded columns; none: one is too long. -/
def colsOK (cs : List (List UInt8 × Int)) : Option (List (List UInt8)) := if cs.all (fun c => c.2 == 0) then some (cs.map (·.1)) else none
theorem colsOK_cons (c : List UInt8 × Int) (r : List (List UInt8 × Int)) : colsOK (c :: r) = if c.2 = 0 then (match colsOK r with
    | some ss => some (c.1 :: ss)
    | none => none) else none := by
  unfold colsOK
  by_cases h : c.2 = 0
  · have hb : (c.2 == 0) = true := by simpa using h
    rw [if_pos h, List.all_cons, hb, Bool.true_and, List.map_cons]
    cases r.all (fun c => c.2 == 0) <;> rfl
  · have hb : (c.2 == 0) = false := by simpa using h
    rw [if_neg h, List.all_cons, hb, Bool.false_and]; rfl
theorem packE_cols {A : Type} (l : List A) : ∀ cols : List (Col A), packE l cols = colsOK (cols.map fun c => encF c.f (l.map c.get))
  | [] => rfl
  | c :: r => by rw [List.map_cons, colsOK_cons, packE, packE_cols l r]; rfl
def smpCs (l : List I2) : List (List UInt8 × Int) := [encT (l.map (·.1)), encV (l.map (·.2))]
def hstCs (l : List HSm) : List (List UInt8 × Int) :=
  [encT (l.map (·.t)), encV (l.map (·.h.p)), encV (l.map (·.h.c)), encV (l.map (·.h.mn)), encV (l.map (·.h.mx)), encV (l.map fun x => (x.h.bs.length : Int)), encV ((l.flatMap (·.h.bs)).map (·.1)), encV ((l.flatMap (·.h.bs)).map (·.2)), encI (l.map (·.h.s))]
/-! ### the parts, one behind the other -/
def flatP (ss : List (List UInt8)) : List UInt8 := ss.flatMap fun s => vb s.length ++ s
/-- What both encoders come to, out of the columns. -/
def encC (sig : Int) (lab : Pd) (z : List Pd) (t : List UInt8) (cs : List (List UInt8 × Int)) : D := match colsOK cs with
  | none => .tup [noCh, .c (.p (pI 4))]
  | some ss => finE sig lab z (jn t ss)
/-! ### zones -/
def zfold (l : List I2) : Zo := l.foldl (fun z p => z.add p.1 p.2) Zo.none
/-! ### what a valid series is -/
theorem sck_ok {k : Int} : ∀ {l : List I2} {p : Option Int}, sck k p l = 0 → ∀ x ∈ l, smpOK x = true
  | [], p, h, x, hx => by cases hx
  | y :: r, p, h, x, hx => by
    have h1 : ¬ (smpOK y = false ∨ (k = 2 ∧ y.2 < 0)) := fun hb => by
      cases p <;> simp only [sck] at h <;> rw [if_pos hb] at h <;> cases h
    have h2 : sck k (some y.1) r = 0 := by
      cases p with
      | none => simp only [sck] at h; rw [if_neg h1] at h; exact h
      | some z =>
        simp only [sck] at h
        rw [if_neg h1] at h
        split at h
        · cases h
        · exact h
    rcases List.mem_cons.1 hx with rfl | hx
    · cases hs : smpOK x with
      | true => rfl
      | false => exact absurd (.inl hs) h1
    · exact sck_ok h2 x hx
theorem sckA_ok {k : Int} {l : List I2} (h : sckA k l = 0) : (k = 1 ∨ k = 2) ∧ l.length ≤ 2000 ∧ ∀ x ∈ l, isT x.1 = true ∧ isVl x.2 = true := by
  unfold sckA at h
  split at h
  · cases h
  · split at h
    · cases h
    · refine ⟨by omega, by omega, fun x hx => ?_⟩
      have := sck_ok h x hx
      simpa [smpOK] using this
def serCs (x : Ser) : List (List UInt8 × Int) := if x.k = 3 then hstCs x.hs else smpCs x.sm
def serZ (x : Ser) : Zo := if x.k = 3 then zfold (x.hs.map fun y => (y.t, y.h.c)) else zfold x.sm
/-- The cells of a zone whose bits are clear. -/
abbrev Zo.pd (z : Zo) : List Pd := [pI z.c, pI z.t1, pI z.t2, pI z.v1, pI z.v2, .int .u32 0, .int .u32 0, .int .u32 0, .int .u32 0, .int .u32 0, .int .u32 0, .int .u32 0, .int .u32 0]
/-- What Encode comes to. -/
def encS (x : Ser) : D := if serOK x = false then .tup [noCh, .c (.p (pI 1))] else encC 1 (.lst x.lb.length (x.lb.flatMap lbP)) (serZ x).pd (appV [] x.k).1 (serCs x)
end Go.Proofs.YtedcnhbblgmdnaaGreat.Ab
namespace Go.Proofs.YtedcnhbblgmdnaaGreat.Ab
set_option maxHeartbeats 8000000
set_option maxRecDepth 10000
set_option linter.unusedSimpArgs false
set_option linter.unusedVariables false
theorem jn_pre {cs : List (List UInt8 × Int)} {ss : List (List UInt8)} {m : Nat} (h : colsOK cs = some ss) (hl : ∀ c ∈ cs, c.2 = 0 → c.1.length ≤ m) : ∀ s ∈ ss, s.length ≤ m := by
  unfold colsOK at h
  split at h
  · rename_i ha
    cases h
    intro s hs
    obtain ⟨c, hc, rfl⟩ := List.mem_map.1 hs
    exact hl c hc (by simpa using List.all_eq_true.1 ha c hc)
  · cases h
end Go.Proofs.YtedcnhbblgmdnaaGreat.Ab
namespace Go.Proofs.YtedcnhbblgmdnaaGreat.Ab
set_option maxHeartbeats 4000000
set_option maxRecDepth 10000
set_option linter.unusedSimpArgs false
set_option linter.unusedVariables false
/-- What is known of a frame. -/
def Fs (e : List D) (n : Nat) : List (Nat × D) → Prop
  | [] => e.length = n
  | (j, d) :: r => e.getD j .junk = d ∧ Fs e n r
theorem OA.newB {s : St} {c k : Nat} {o : Ob} {L : List (Nat × D × Nat × List Pd)} {M : List (Nat × Ob)} (h : OA k s L M) (hc : k < c) (hf : o.isFront = false) : OA c (s.put k o) L ((k, o) :: M) :=
  (h.new (Nat.le_refl _) hf).mono hc
theorem OA.advB {s : St} {c n : Nat} {L : List (Nat × D × Nat × List Pd)} {M : List (Nat × Ob)} (h : OA c s L M) : OA c (s.adv n) L M := h.adv
/-- One object is laid anew. -/
def OAs (c : Nat) (s : St) (L : List (Nat × D × Nat × List Pd)) (M1 : List (Nat × Ob)) (k : Nat) (M2 : List (Nat × Ob)) : Prop := ∃ o, OA c s L (M1 ++ (k, o) :: M2)
theorem OAs.adv {c n : Nat} {s : St} {L : List (Nat × D × Nat × List Pd)} {M1 M2 : List (Nat × Ob)} {k : Nat} (h : OAs c s L M1 k M2) : OAs c (s.adv n) L M1 k M2 := by
  obtain ⟨o, h⟩ := h; exact ⟨o, h.adv⟩
theorem OAs.put {c : Nat} {s : St} {L : List (Nat × D × Nat × List Pd)} {M1 M2 : List (Nat × Ob)} {k : Nat} {o' : Ob} (h : OAs c s L M1 k M2) (hf : o'.isFront = false := by rfl) : OAs c (s.put k o') L M1 k M2 := by
  obtain ⟨o, h⟩ := h; exact ⟨o', h.set hf⟩
theorem OA.ofS {c : Nat} {s : St} {L : List (Nat × D × Nat × List Pd)} {M1 M2 : List (Nat × Ob)} {k : Nat} {o' : Ob} (h : OAs c s L M1 k M2) (hf : o'.isFront = false := by rfl) : OA c (s.put k o') L (M1 ++ (k, o') :: M2) := by
  obtain ⟨o, h⟩ := h; exact h.set hf
attribute [go_sem] St.put_put
/-- An iterator whose rounds may also end it. -/
def IterG (g : Nat) (cap : List C) (H : St → Prop) (step : Nat → Nat → List V → Prop) (last : Nat → Prop) : Prop :=
  ∃ fn c, E0.fn g = some fn ∧ fn.body = some c ∧ ∀ (l : Nat) (J : Nat → St → Prop) (Z : St → Prop), (∀ i s n, J i s → J i (s.adv n)) → (∀ i s n k o, J i s → s.nx ≤ k → k < s.nx + n → J i ((s.adv n).put k o)) → (∀ s n, Z s → Z (s.adv n)) → (∀ i s, J i s → H s) →
    (∀ i k a s, J i s → step i k a → wpCall E0 (.v (.c (.fn (.yield l) [] []))) (a.map .v) s (fun d s' => (d = P' (.bool true) ∧ J k s') ∨ (d = P' (.bool false) ∧ Z s'))) →
    ∀ s, J 0 s → ∀ Q : D → St → Prop, (∀ d s' i, last i → J i s' → Q d s') → (∀ d s', Z s' → Q d s') →
      Wc E0 none c { e := (V.c (.fn (.yield l) [] []) :: cap.map .c).map .v ++ List.replicate (fn.ntmps - (V.c (.fn (.yield l) [] []) :: cap.map .c).length) (.tup []), ds := [], s := s } (bodyQ E0 fn Q)
/-- How a round ends. -/
def endG (R Z : Prop) : Ex → Prop
  | .normal => R
  | _ => Z
end Go.Proofs.YtedcnhbblgmdnaaGreat.Ab
namespace Go.Proofs.YtedcnhbblgmdnaaGreat.Ab
set_option maxHeartbeats 4000000
set_option linter.unusedSimpArgs false
set_option linter.unusedVariables false
/-! ### buckets of samples -/
structure Bkt where
  st : Int
  c : Int
  s : Int
  mn : Int
  mx : Int
  f : Int
  l : Int
  ft : Int
  lt : Int
  inc : Int
abbrev Bkt.pd (b : Bkt) : List Pd := [pI b.st, pI b.c, pI b.s, pI b.mn, pI b.mx, pI b.f, pI b.l, pI b.ft, pI b.lt, pI b.inc]
def stepV (a b : Int) : Int := if b < a then b else b - a
def startOf (w t : Int) : Int := (t - 1).tdiv w * w
def single (w : Int) (x : I2) : Bkt := ⟨startOf w x.1, 1, x.2, x.2, x.2, x.2, x.2, x.1, x.1, 0⟩
def minI (a b : Int) : Int := if b < a then b else a
def maxI (a b : Int) : Int := if b > a then b else a
def joinB (k : Int) (a b : Bkt) : Bkt := ⟨a.st, a.c + b.c, a.s + b.s, minI a.mn b.mn, maxI a.mx b.mx, a.f, b.l, a.ft, b.lt, if k = 2 then a.inc + b.inc + stepV a.l b.f else a.inc⟩
/-- Buckets with one more, which is later than all others. -/
def appB (k : Int) (l : List Bkt) (b : Bkt) : List Bkt := match l.getLast? with
  | none => [b]
  | some a => if a.st = b.st then l.dropLast ++ [joinB k a b] else l ++ [b]
def ofB (k w : Int) (l : List I2) : List Bkt := l.foldl (fun acc x => appB k acc (single w x)) []
/-- The samples of each bucket. -/
def pieces (w : Int) : List I2 → List (Int × List I2)
  | [] => []
  | x :: r => (startOf w x.1, x :: r.takeWhile fun y => decide (y.1 - startOf w x.1 ≤ w)) :: pieces w (r.dropWhile fun y => decide (y.1 - startOf w x.1 ≤ w))
termination_by l => l.length
decreasing_by
  have := (List.dropWhile_sublist (p := fun y : I2 => decide (y.1 - startOf w x.1 ≤ w)) (l := r)).length_le
  simp only [List.length_cons]
  omega
def incV : List I2 → Int
  | x :: y :: r => stepV x.2 y.2 + incV (y :: r)
  | _ => 0
def sumV (l : List I2) : Int := l.foldl (fun s x => s + x.2) 0
def sumB (k st : Int) (x : I2) (r : List I2) : Bkt := ⟨st, (x :: r).length, sumV (x :: r), (x :: r).foldl (fun m y => minI m y.2) x.2, (x :: r).foldl (fun m y => maxI m y.2) x.2, x.2, ((x :: r).getLast (by simp)).2, x.1, ((x :: r).getLast (by simp)).1, if k = 2 then incV (x :: r) else 0⟩
def sumP (k : Int) (p : Int × List I2) : List Bkt := match p.2 with
  | [] => []
  | x :: r => [sumB k p.1 x r]
def rollB (k w : Int) (l : List I2) : List Bkt := (pieces w l).flatMap (sumP k)
theorem start_le {w t : Int} (hw : 1 ≤ w) (ht : 1 ≤ t) : startOf w t < t ∧ t ≤ startOf w t + w ∧ 0 ≤ startOf w t := by
  unfold startOf
  have e : (t - 1).tdiv w = (t - 1) / w := Int.tdiv_eq_ediv_of_nonneg (by omega)
  rw [e]
  have h1 := Int.emod_add_mul_ediv (t - 1) w
  have h2 := Int.emod_nonneg (t - 1) (show w ≠ 0 by omega)
  have h3 := Int.emod_lt_of_pos (t - 1) (show 0 < w by omega)
  rw [Int.mul_comm w] at h1
  have h4 : 0 ≤ (t - 1) / w := Int.ediv_nonneg (by omega) (by omega)
  have h5 := Int.mul_nonneg h4 (show 0 ≤ w by omega)
  omega
/-- The same bucket: as far as its width. -/
theorem start_eq {w t u : Int} (hw : 1 ≤ w) (ht : 1 ≤ t) (hu : t < u) : (u - startOf w t ≤ w) ↔ startOf w t = startOf w u := by
  obtain ⟨a1, a2, a3⟩ := start_le hw ht
  obtain ⟨b1, b2, b3⟩ := start_le hw (show 1 ≤ u by omega)
  constructor
  · intro h
    have e1 : startOf w t = (t - 1) / w * w := by unfold startOf; rw [Int.tdiv_eq_ediv_of_nonneg (by omega)]
    have e2 : startOf w u = (u - 1) / w * w := by unfold startOf; rw [Int.tdiv_eq_ediv_of_nonneg (by omega)]
    have hm : (t - 1) / w ≤ (u - 1) / w := Int.ediv_le_ediv (by omega) (by omega)
    rcases Int.lt_or_eq_of_le hm with h1 | h1
    · have h2 : ((t - 1) / w + 1) * w ≤ (u - 1) / w * w := Int.mul_le_mul_of_nonneg_right (by omega) (by omega)
      rw [Int.add_mul, Int.one_mul] at h2
      omega
    · rw [e1, e2, h1]
  · intro h
    omega
theorem appB_same {k : Int} {acc : List Bkt} {a b : Bkt} (h : a.st = b.st) : appB k (acc ++ [a]) b = acc ++ [joinB k a b] := by
  simp [appB, h]
theorem appB_new {k : Int} {acc : List Bkt} {b : Bkt} (h : ∀ a, acc.getLast? = some a → a.st ≠ b.st) : appB k acc b = acc ++ [b] := by
  unfold appB
  cases hl : acc.getLast? with
  | none => have := List.getLast?_eq_none_iff.1 hl; subst this; rfl
  | some a => simp only; rw [if_neg (h a hl)]
theorem incV_snoc : ∀ (x : I2) (r : List I2) (y : I2), incV (x :: (r ++ [y])) = incV (x :: r) + stepV ((x :: r).getLast (by simp)).2 y.2
  | x, [], y => by simp [incV]
  | x, z :: r, y => by
    have := incV_snoc z r y
    simp only [List.cons_append, incV] at this ⊢
    rw [this, List.getLast_cons (by simp : z :: r ≠ [])]
    omega
theorem sumB_snoc (k : Int) (w : Int) (st : Int) (x : I2) (r : List I2) (y : I2) (hst : startOf w y.1 = st) : sumB k st x (r ++ [y]) = joinB k (sumB k st x r) (single w y) := by
  have hl : (x :: (r ++ [y])).getLast (by simp) = y := by
    have : x :: (r ++ [y]) = (x :: r) ++ [y] := rfl
    simp only [this, List.getLast_concat]
  unfold sumB joinB single
  simp only [hl, Bkt.mk.injEq, true_and]
  refine ⟨by simp, ?_, ?_, ?_, ?_⟩
  · unfold sumV
    rw [← List.cons_append, List.foldl_append]; rfl
  · rw [← List.cons_append, List.foldl_append]; rfl
  · rw [← List.cons_append, List.foldl_append]; rfl
  · split
    · rw [incV_snoc]; omega
    · rfl
theorem sumB_one (k w : Int) (x : I2) : sumB k (startOf w x.1) x [] = single w x := by
  unfold sumB single
  simp only [Bkt.mk.injEq, true_and]
  refine ⟨by simp, by simp [sumV], by simp [minI], by simp [maxI], by simp, by simp, ?_⟩
  split <;> rfl
/-- A bucket's samples, one behind the other. -/
theorem fold_piece (k w : Int) (acc : List Bkt) (x : I2) : ∀ (n : Nat) (r : List I2), r.length = n → (∀ y ∈ r, startOf w y.1 = startOf w x.1) → (acc.getLast?.map (·.st) ≠ some (startOf w x.1)) →
    (x :: r).foldl (fun acc x => appB k acc (single w x)) acc = acc ++ [sumB k (startOf w x.1) x r]
  | 0, r, hn, _, hacc => by
    have : r = [] := List.length_eq_zero_iff.1 hn
    subst this
    simp only [List.foldl_cons, List.foldl_nil]
    rw [appB_new, sumB_one]
    intro a ha he
    rw [ha] at hacc
    exact hacc (by simp [he]; rfl)
  | n + 1, r, hn, hr, hacc => by
    have hne : r ≠ [] := fun e => by rw [e] at hn; simp at hn
    obtain ⟨q, y, rfl⟩ : ∃ q y, r = q ++ [y] := ⟨r.dropLast, r.getLast hne, (List.dropLast_concat_getLast hne).symm⟩
    have ih := fold_piece k w acc x n q (by simpa using hn) (fun z hz => hr z (by simp [hz])) hacc
    rw [← List.cons_append, List.foldl_append, ih]
    simp only [List.foldl_cons, List.foldl_nil]
    have hy := hr y (by simp)
    rw [appB_same (by rw [show (sumB k (startOf w x.1) x q).st = startOf w x.1 from rfl]; exact hy.symm), ← sumB_snoc k w _ x q y hy]
theorem takeWhile_append_drop {A : Type} (p : A → Bool) (l : List A) : l = l.takeWhile p ++ l.dropWhile p := (List.takeWhile_append_dropWhile).symm
/-- The buckets of sorted samples, in both ways. -/
theorem roll_of (k w : Int) (hw : 1 ≤ w) : ∀ (n : Nat) (l : List I2) (acc : List Bkt), l.length ≤ n → l.Pairwise (fun a b => a.1 < b.1) → (∀ x ∈ l, 1 ≤ x.1) → (∀ x, l.head? = some x → acc.getLast?.map (·.st) ≠ some (startOf w x.1)) →
    l.foldl (fun acc x => appB k acc (single w x)) acc = acc ++ rollB k w l
  | 0, l, acc, hn, _, _, _ => by
    have : l = [] := List.length_eq_zero_iff.1 (by omega)
    subst this
    simp [rollB, pieces]
  | n + 1, [], acc, hn, _, _, _ => by simp [rollB, pieces]
  | n + 1, x :: r, acc, hn, hs, hb, hacc => by
    obtain ⟨h1, h2⟩ := List.pairwise_cons.1 hs
    have hx := hb x (by simp)
    obtain ⟨G, hG⟩ : ∃ G, r.takeWhile (fun y => decide (y.1 - startOf w x.1 ≤ w)) = G := ⟨_, rfl⟩
    obtain ⟨R, hR⟩ : ∃ R, r.dropWhile (fun y => decide (y.1 - startOf w x.1 ≤ w)) = R := ⟨_, rfl⟩
    have hr : r = G ++ R := by rw [← hG, ← hR]; exact takeWhile_append_drop _ _
    have hroll : rollB k w (x :: r) = sumB k (startOf w x.1) x G :: rollB k w R := by
      unfold rollB
      rw [pieces, hG, hR, List.flatMap_cons]
      rfl
    have hGst : ∀ y ∈ G, startOf w y.1 = startOf w x.1 := fun y hy => by
      have hy2 : y ∈ r.takeWhile (fun y => decide (y.1 - startOf w x.1 ≤ w)) := hG ▸ hy
      have hp := List.all_eq_true.1 (List.all_takeWhile (p := fun y : I2 => decide (y.1 - startOf w x.1 ≤ w)) (l := r)) y hy2
      have hyr : y ∈ r := by rw [hr]; simp [hy]
      exact ((start_eq hw hx (h1 y hyr)).1 (by simpa using hp)).symm
    rw [hroll]
    conv => lhs; rw [hr, ← List.cons_append, List.foldl_append]
    rw [fold_piece k w acc x G.length G rfl hGst (hacc x rfl)]
    rw [roll_of k w hw n R (acc ++ [sumB k (startOf w x.1) x G]) ?_ ?_ ?_ ?_]
    · simp
    · simp only [List.length_cons] at hn
      have := congrArg List.length hr
      rw [List.length_append] at this
      omega
    · rw [hr] at h2
      exact (List.pairwise_append.1 h2).2.1
    · intro y hy
      exact hb y (by rw [hr]; simp [hy])
    · intro y hy
      simp only [List.getLast?_append, List.getLast?_singleton, Option.some_or, Option.map_some]
      intro he
      simp only [Option.some.injEq] at he
      have he2 : startOf w x.1 = startOf w y.1 := he
      have hyr : y ∈ r := by rw [hr]; cases R with
        | nil => cases hy
        | cons a q => simp at hy; subst hy; simp
      have := (start_eq hw hx (h1 y hyr)).2 he2
      have hnot : ¬ (decide (y.1 - startOf w x.1 ≤ w) = true) := by
        cases R with
        | nil => cases hy
        | cons a q =>
          simp at hy; subst hy
          have := List.head_dropWhile_not (p := fun y : I2 => decide (y.1 - startOf w x.1 ≤ w)) (l := r) (by rw [hR]; simp)
          simp only [hR, List.head_cons] at this
          simpa using this
      exact hnot (by simpa using this)
theorem rollB_eq {k w : Int} (hw : 1 ≤ w) {l : List I2} (hs : l.Pairwise (fun a b => a.1 < b.1)) (hb : ∀ x ∈ l, 1 ≤ x.1) : rollB k w l = ofB k w l := by
  have := roll_of k w hw l.length l [] (Nat.le_refl _) hs hb (fun x _ => by simp)
  simp only [List.nil_append] at this
  exact this.symm
end Go.Proofs.YtedcnhbblgmdnaaGreat.Ab
