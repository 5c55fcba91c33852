/- A part of the proof: an evaluator of the code, its contracts, the law. No condition. -/
import Derived.Test.YtafaoldmemcigaaGreatT20
namespace Go.Proofs.YtafaoldmemcigaaGreat.Ab
set_option maxHeartbeats 8000000
set_option maxRecDepth 10000
set_option linter.unusedSimpArgs false
set_option linter.unusedVariables false
/-- Why a list is no list of buckets, behind an index. -/
def bck (last : Int) : Int → List I2 → Int
  | _, [] => 0
  | p, b :: r => if b.1 < 0 ∨ last < b.1 ∨ b.2 < 1 ∨ 1048576 < b.2 then 2 else if b.1 ≤ p then 9 else bck last b.1 r
def prevB (l : List I2) (i : Nat) : Int := if i = 0 then -1 else ((l[i - 1]?).map (·.1)).getD 0
theorem bck_step {last : Int} {l : List I2} {i : Nat} {b : I2} (h : l[i]? = some b) : bck last (prevB l i) (l.drop i) = if b.1 < 0 ∨ last < b.1 ∨ b.2 < 1 ∨ 1048576 < b.2 then 2 else if b.1 ≤ prevB l i then 9 else bck last (prevB l (i + 1)) (l.drop (i + 1)) := by
  have hi := (List.getElem?_eq_some_iff.1 h).1
  have hx := (List.getElem?_eq_some_iff.1 h).2
  have hp : prevB l (i + 1) = b.1 := by simp [prevB, h]
  rw [List.drop_eq_getElem_cons hi, hx, hp]
  rfl
theorem bck_ok {last : Int} : ∀ {l : List I2} {p : Int}, bck last p l = 0 → (∀ b ∈ l, p < b.1 ∧ 0 ≤ b.1 ∧ b.1 ≤ last ∧ 1 ≤ b.2 ∧ b.2 ≤ 1048576) ∧ ∀ (i j : Nat) (b c : I2), i < j → l[i]? = some b → l[j]? = some c → b.1 < c.1
  | [], p, h => ⟨fun b hb => by (cases hb), fun i j b c _ h1 _ => by simp at h1⟩
  | x :: r, p, h => by
    simp only [bck] at h
    split at h
    · cases h
    · split at h
      · cases h
      · rename_i h1 h2
        obtain ⟨a1, a2⟩ := bck_ok h
        refine ⟨fun b hb => ?_, fun i j b c hij hi hj => ?_⟩
        · rcases List.mem_cons.1 hb with rfl | hb
          · omega
          · have := a1 b hb; omega
        · cases j with
          | zero => omega
          | succ j =>
            simp only [List.getElem?_cons_succ] at hj
            cases i with
            | zero =>
              simp at hi; subst hi
              exact (a1 c (List.mem_of_getElem? hj)).1
            | succ i =>
              simp only [List.getElem?_cons_succ] at hi
              exact a2 i j b c (by omega) hi hj
/-- Why a histogram is not valid. -/
def hck (h : Hst) : Int := if h.p < 0 ∨ 8 < h.p then 2 else if 500 < h.bs.length then 4 else if bck (ix h.p.toNat 1099511627776) (-1) h.bs ≠ 0 then bck (ix h.p.toNat 1099511627776) (-1) h.bs else if 1048576 < cnt h.bs then 4 else if agrB h h.p.toNat (cnt h.bs) = false then 10 else 0
theorem bck_bs {q : Nat} {bs : List I2} (hq : q ≤ 8) (h : bck (ix q 1099511627776) (-1) bs = 0) : BsOK q bs := by
  obtain ⟨a1, a2⟩ := bck_ok h
  rw [ix_last q hq] at a1
  exact ⟨fun b hb => ⟨(a1 b hb).2.1, (a1 b hb).2.2.1⟩, fun b hb => (a1 b hb).2.2.2.1, a2⟩
/-- 84: loghist.Check -/
theorem pf84 (h : Hst) (hl : h.bs.length < 2^40) : Pf E0 84 [.agg (h.pd.map .p)] (P' (pI (hck h))) := by
  have hfl : (h.bs.flatMap p2).length = h.bs.length * 2 := flat_len (k := 2) (fun _ => rfl) _
  refine Pf.body (fn := Tryz.f84) (by kernel_rfl) rfl ?_; simp only [List.map_cons, List.map_nil, List.cons_append, List.nil_append, List.length_cons, List.length_nil, Tryz.ntmps84, List.replicate, Nat.reduceSub, Nat.reduceAdd]
  refine Wc.seq ?_
  refine Wc.reg fun K hK => ?_; simp only [go_sem, ti3, ti9, ti5, ti4, ti35, ti53, ti55, ti83]; refine hK _ _ ?_; clear hK K
  refine Wc.seq (Wc.seq ?_)
  refine Wc.reg fun K hK => ?_; simp only [go_sem, ti3, ti9, ti5, ti4, ti35, ti53, ti55, ti83]
  refine wpCall.pf (pf124 h.p) (by kernel_rfl) (by kernel_rfl) rfl rfl ?_
  simp only [go_sem, ti3, ti9, ti5, ti4, ti35, ti53, ti55, ti83]; refine hK _ _ ?_; clear hK K
  refine Wc.cond (t := !(decide (0 ≤ h.p ∧ h.p ≤ 8))) (by simp only [go_sem, ti3, ti9, ti5, ti4, ti35, ti53, ti55, ti83]) (fun hc => ?_) (fun hc => ?_)
  · have hp : h.p < 0 ∨ 8 < h.p := by simp at hc; omega
    have e : hck h = 2 := by unfold hck; rw [if_pos hp]
    rw [e]
    refine Wc.seq ?_
    refine Wc.reg fun K hK => ?_; simp only [go_sem, ti3, ti9, ti5, ti4, ti35, ti53, ti55, ti83]; refine hK _ _ ?_; clear hK K
    exact Wc.ret (Pf.ret [.tmp 2] [.c (.p (pI 2))] rfl rfl (by simp only [resultsD, go_sem, ti3, ti9, ti5, ti4, ti35, ti53, ti55, ti83]) rfl)
  have hp : 0 ≤ h.p ∧ h.p ≤ 8 := by simpa using hc
  obtain ⟨q, hq⟩ : ∃ q : Nat, h.p = (q : Int) := ⟨h.p.toNat, by omega⟩
  have hq8 : q ≤ 8 := by omega
  have eq0 : h.p.toNat = q := by omega
  have e1 : hck h = if 500 < h.bs.length then 4 else if bck (ix q 1099511627776) (-1) h.bs ≠ 0 then bck (ix q 1099511627776) (-1) h.bs else if 1048576 < cnt h.bs then 4 else if agrB h q (cnt h.bs) = false then 10 else 0 := by
    unfold hck; rw [if_neg (by omega), eq0]
  refine Wc.skip (Wc.seq (Wc.seq ?_))
  refine Wc.reg fun K hK => ?_; simp only [go_sem, ti3, ti9, ti5, ti4, ti35, ti53, ti55, ti83]; refine hK _ _ ?_; clear hK K
  refine Wc.cond (t := decide ((500 : Int) < h.bs.length)) (by simp only [go_sem, ti3, ti9, ti5, ti4, ti35, ti53, ti55, ti83]) (fun hc => ?_) (fun hc => ?_)
  · have h5 : 500 < h.bs.length := by have : (500 : Int) < h.bs.length := by simpa using hc
                                      omega
    rw [e1, if_pos h5]
    refine Wc.seq ?_
    refine Wc.reg fun K hK => ?_; simp only [go_sem, ti3, ti9, ti5, ti4, ti35, ti53, ti55, ti83]; refine hK _ _ ?_; clear hK K
    exact Wc.ret (Pf.ret [.tmp 2] [.c (.p (pI 4))] rfl rfl (by simp only [resultsD, go_sem, ti3, ti9, ti5, ti4, ti35, ti53, ti55, ti83]) rfl)
  have h5 : ¬ 500 < h.bs.length := by have : ¬ (500 : Int) < h.bs.length := by simpa using hc
                                      omega
  rw [if_neg h5] at e1
  refine Wc.skip (Wc.seq ?_)
  refine Wc.reg fun K hK => ?_; simp only [go_sem, ti3, ti9, ti5, ti4, ti35, ti53, ti55, ti83]; refine hK _ _ ?_; clear hK K
  refine Wc.seq ?_
  refine Wc.reg fun K hK => ?_; simp only [go_sem, ti3, ti9, ti5, ti4, ti35, ti53, ti55, ti83, Int.natCast_zero]; refine hK _ _ ?_; clear hK K
  refine Wc.seq ?_
  refine Wc.reg fun K hK => ?_; simp only [go_sem, ti3, ti9, ti5, ti4, ti35, ti53, ti55, ti83, hq]
  refine wpCall.pf (pf125 q hq8) (by kernel_rfl) (by kernel_rfl) rfl rfl ?_
  simp only [go_sem, ti3, ti9, ti5, ti4, ti35, ti53, ti55, ti83]; refine hK _ _ ?_; clear hK K
  have e2 : bck (ix q 1099511627776) (-1) h.bs = bck (ix q 1099511627776) (prevB h.bs 0) (h.bs.drop 0) := rfl
  refine Wc.seqR (fun y => bck (ix q 1099511627776) (-1) h.bs = 0 ∧ y.ds = [] ∧ y.e.length = 62 ∧ y.e.getD 1 .junk = .v (.c (.ref 0 0)) ∧ y.e.getD 4 .junk = P' (pI (cnt h.bs)) ∧ OA y.s.nx y.s [] [(0, .cells (h.pd.map .p) false)]) ?_ ?_
  · refine Wc.seq ?_
    refine Wc.reg fun K hK => ?_; simp only [go_sem, ti3, ti9, ti5, ti4, ti35, ti53, ti55, ti83, Int.natCast_zero]; refine hK _ _ ?_; clear hK K
    refine Wc.block (Wc.loop (fun k y => ∃ i : Nat, k = h.bs.length - i ∧ i ≤ h.bs.length ∧ y.ds = [] ∧ y.e.length = 62 ∧ y.e.getD 1 .junk = .v (.c (.ref 0 0)) ∧ y.e.getD 3 .junk = P' (pI (prevB h.bs i)) ∧ y.e.getD 4 .junk = P' (pI (cnt (h.bs.take i))) ∧ y.e.getD 5 .junk = P' (pI (ix q 1099511627776)) ∧ y.e.getD 20 .junk = P' (.lst h.bs.length (h.bs.flatMap p2)) ∧ y.e.getD 21 .junk = P' (pI h.bs.length) ∧ y.e.getD 22 .junk = P' (pI i) ∧
      OA y.s.nx y.s [] [(0, .cells (h.pd.map .p) false)] ∧ (0 ≤ cnt (h.bs.take i) ∧ cnt (h.bs.take i) ≤ i * 1048576) ∧ bck (ix q 1099511627776) (-1) h.bs = bck (ix q 1099511627776) (prevB h.bs i) (h.bs.drop i)) ?_ (k := h.bs.length) ?_)
    · rintro k ⟨e, ds, s1⟩ ⟨i, rfl, hi, rfl, hlen, h1, h3, h4, h5', h20, h21, h22, ho, hcn, hch⟩
      simp only at hlen h1 h3 h4 h5' h20 h21 h22 ho
      refine Wc.seq ?_
      refine Wc.reg fun K hK => ?_; simp only [go_sem, ti3, ti9, ti5, ti4, ti35, ti53, ti55, ti83, hlen, h1, h3, h4, h5', h20, h21, h22]; refine hK _ _ ?_; clear hK K
      refine Wc.seq (Wc.cond (t := decide ((i : Int) < h.bs.length)) (by simp only [go_sem, ti3, ti9, ti5, ti4, ti35, ti53, ti55, ti83, hlen]) (fun hc => ?_) (fun hc => ?_))
      · have hil : i < h.bs.length := by have : (i : Int) < h.bs.length := by simpa using hc
                                         omega
        obtain ⟨b, hb⟩ : ∃ b, h.bs[i]? = some b := ⟨h.bs[i], List.getElem?_eq_getElem hil⟩
        have hix := ixA ti53 rfl ti83 (j := i) (m := h.bs.length) (cs := h.bs.flatMap p2) hil hfl (by decide)
        have hca := rpA (off := i * 2) (drop_flat (f := p2) (k := 2) (fun _ => rfl) hb) (by rw [hfl]; omega)
        rw [bck_step hb] at hch
        have bad2 : (b.1 < 0 ∨ (ix q 1099511627776 : Int) < b.1 ∨ b.2 < 1 ∨ 1048576 < b.2) → hck h = 2 := fun hx => by
          rw [e1, hch, if_pos hx, if_pos (by decide)]
        refine Wc.skip (Wc.seq (Wc.block (Wc.seqA (fun y => ∃ k7, y.ds = [] ∧ y.e.length = 62 ∧ y.e.getD 1 .junk = .v (.c (.ref 0 0)) ∧ y.e.getD 3 .junk = P' (pI (prevB h.bs i)) ∧ y.e.getD 4 .junk = P' (pI (cnt (h.bs.take i))) ∧ y.e.getD 5 .junk = P' (pI (ix q 1099511627776)) ∧ y.e.getD 20 .junk = P' (.lst h.bs.length (h.bs.flatMap p2)) ∧ y.e.getD 21 .junk = P' (pI h.bs.length) ∧ y.e.getD 22 .junk = P' (pI i) ∧ y.e.getD 7 .junk = .v (.c (.ref k7 0)) ∧ OA y.s.nx y.s [] [(k7, .cells ((p2 b).map .p) false), (0, .cells (h.pd.map .p) false)]) ?_ ?_)))
        · refine Wc.reg fun K hK => ?_; simp only [go_sem, ti3, ti9, ti5, ti4, ti35, ti53, ti55, ti83, hlen, h1, h3, h4, h5', h20, h21, h22, hix, hca]; refine hK _ _ ?_; clear hK K
          refine ⟨rfl, s1.nx + 3, rfl, by simp only [go_sem, ti3, ti9, ti5, ti4, ti35, ti53, ti55, ti83, hlen], by simp only [go_sem, ti3, ti9, ti5, ti4, ti35, ti53, ti55, ti83, hlen, h1], by simp only [go_sem, ti3, ti9, ti5, ti4, ti35, ti53, ti55, ti83, hlen, h3], by simp only [go_sem, ti3, ti9, ti5, ti4, ti35, ti53, ti55, ti83, hlen, h4], by simp only [go_sem, ti3, ti9, ti5, ti4, ti35, ti53, ti55, ti83, hlen, h5'], by simp only [go_sem, ti3, ti9, ti5, ti4, ti35, ti53, ti55, ti83, hlen, h20], by simp only [go_sem, ti3, ti9, ti5, ti4, ti35, ti53, ti55, ti83, hlen, h21], by simp only [go_sem, ti3, ti9, ti5, ti4, ti35, ti53, ti55, ti83, hlen, h22], by simp only [go_sem, ti3, ti9, ti5, ti4, ti35, ti53, ti55, ti83, hlen], ?_⟩
          have q1 := OA.set (M1 := []) (o' := .cells ((p2 b).map .p) false) (((ho.adv (n := 1)).adv (n := 4)).new (k := s1.nx + 3) (o := .cells [.p (.int .i64 0), .p (.int .i64 0)] false) (by omega) rfl) rfl
          exact q1.mono (by simp only [St.nx_put, St.nx_adv]; omega)
        clear hlen h1 h3 h4 h5' h20 h21 h22 ho e s1 hc
        rintro ⟨e, ds, s1⟩ ⟨k7, rfl, hlen, h1, h3, h4, h5', h20, h21, h22, h7, ho⟩
        simp only at hlen h1 h3 h4 h5' h20 h21 h22 h7 ho
        have g7 := ho.at_ (k7, .cells ((p2 b).map .p) false) (by simp)
        simp only [List.map_cons, List.map_nil] at g7
        refine Wc.seqR (fun y => ¬ (b.1 < 0 ∨ (ix q 1099511627776 : Int) < b.1 ∨ b.2 < 1 ∨ 1048576 < b.2) ∧ y.ds = [] ∧ y.e.length = 62 ∧ y.e.getD 1 .junk = .v (.c (.ref 0 0)) ∧ y.e.getD 3 .junk = P' (pI (prevB h.bs i)) ∧ y.e.getD 4 .junk = P' (pI (cnt (h.bs.take i))) ∧ y.e.getD 5 .junk = P' (pI (ix q 1099511627776)) ∧ y.e.getD 20 .junk = P' (.lst h.bs.length (h.bs.flatMap p2)) ∧ y.e.getD 21 .junk = P' (pI h.bs.length) ∧ y.e.getD 22 .junk = P' (pI i) ∧ y.e.getD 7 .junk = .v (.c (.ref k7 0)) ∧ ∃ n, y.s = s1.adv n) ?_ ?_
        · refine Wc.seq ?_
          by_cases z1 : b.1 < 0
          · refine Wc.reg fun K hK => ?_; simp only [go_sem, ti3, ti9, ti5, ti4, ti35, ti53, ti55, ti83, hlen, h1, h3, h4, h5', h20, h21, h22, h7, g7, z1]; refine hK _ _ ?_; clear hK K
            refine Wc.cond (t := true) (by simp only [go_sem, ti3, ti9, ti5, ti4, ti35, ti53, ti55, ti83, hlen]) (fun _ => ?_) (fun hc => by cases hc)
            refine Wc.seq ?_
            refine Wc.reg fun K hK => ?_; simp only [go_sem, ti3, ti9, ti5, ti4, ti35, ti53, ti55, ti83, hlen]; refine hK _ _ ?_; clear hK K
            rw [bad2 (.inl z1)]
            exact Wc.ret (Pf.ret [.tmp 2] [.c (.p (pI 2))] rfl rfl (by simp only [resultsD, go_sem, ti3, ti9, ti5, ti4, ti35, ti53, ti55, ti83, hlen]) rfl)
          by_cases z2 : (ix q 1099511627776 : Int) < b.1
          · refine Wc.reg fun K hK => ?_; simp only [go_sem, ti3, ti9, ti5, ti4, ti35, ti53, ti55, ti83, hlen, h1, h3, h4, h5', h20, h21, h22, h7, g7, z1, z2]; refine hK _ _ ?_; clear hK K
            refine Wc.cond (t := true) (by simp only [go_sem, ti3, ti9, ti5, ti4, ti35, ti53, ti55, ti83, hlen]) (fun _ => ?_) (fun hc => by cases hc)
            refine Wc.seq ?_
            refine Wc.reg fun K hK => ?_; simp only [go_sem, ti3, ti9, ti5, ti4, ti35, ti53, ti55, ti83, hlen]; refine hK _ _ ?_; clear hK K
            rw [bad2 (.inr (.inl z2))]
            exact Wc.ret (Pf.ret [.tmp 2] [.c (.p (pI 2))] rfl rfl (by simp only [resultsD, go_sem, ti3, ti9, ti5, ti4, ti35, ti53, ti55, ti83, hlen]) rfl)
          by_cases z3 : b.2 < 1
          · refine Wc.reg fun K hK => ?_; simp only [go_sem, ti3, ti9, ti5, ti4, ti35, ti53, ti55, ti83, hlen, h1, h3, h4, h5', h20, h21, h22, h7, g7, z1, z2, z3]; refine hK _ _ ?_; clear hK K
            refine Wc.cond (t := true) (by simp only [go_sem, ti3, ti9, ti5, ti4, ti35, ti53, ti55, ti83, hlen]) (fun _ => ?_) (fun hc => by cases hc)
            refine Wc.seq ?_
            refine Wc.reg fun K hK => ?_; simp only [go_sem, ti3, ti9, ti5, ti4, ti35, ti53, ti55, ti83, hlen]; refine hK _ _ ?_; clear hK K
            rw [bad2 (.inr (.inr (.inl z3)))]
            exact Wc.ret (Pf.ret [.tmp 2] [.c (.p (pI 2))] rfl rfl (by simp only [resultsD, go_sem, ti3, ti9, ti5, ti4, ti35, ti53, ti55, ti83, hlen]) rfl)
          refine Wc.reg fun K hK => ?_; simp only [go_sem, ti3, ti9, ti5, ti4, ti35, ti53, ti55, ti83, hlen, h1, h3, h4, h5', h20, h21, h22, h7, g7, z1, z2, z3]; refine hK _ _ ?_; clear hK K
          refine Wc.cond (t := decide (1048576 < b.2)) (by simp only [go_sem, ti3, ti9, ti5, ti4, ti35, ti53, ti55, ti83, hlen]) (fun hc => ?_) (fun hc => ?_)
          · refine Wc.seq ?_
            refine Wc.reg fun K hK => ?_; simp only [go_sem, ti3, ti9, ti5, ti4, ti35, ti53, ti55, ti83, hlen]; refine hK _ _ ?_; clear hK K
            rw [bad2 (.inr (.inr (.inr (by simpa using hc))))]
            exact Wc.ret (Pf.ret [.tmp 2] [.c (.p (pI 2))] rfl rfl (by simp only [resultsD, go_sem, ti3, ti9, ti5, ti4, ti35, ti53, ti55, ti83, hlen]) rfl)
          · have z4 : ¬ 1048576 < b.2 := by simpa using hc
            exact Wc.skip ⟨by omega, rfl, by simp only [go_sem, ti3, ti9, ti5, ti4, ti35, ti53, ti55, ti83, hlen], by simp only [go_sem, ti3, ti9, ti5, ti4, ti35, ti53, ti55, ti83, hlen, h1], by simp only [go_sem, ti3, ti9, ti5, ti4, ti35, ti53, ti55, ti83, hlen, h3], by simp only [go_sem, ti3, ti9, ti5, ti4, ti35, ti53, ti55, ti83, hlen, h4], by simp only [go_sem, ti3, ti9, ti5, ti4, ti35, ti53, ti55, ti83, hlen, h5'], by simp only [go_sem, ti3, ti9, ti5, ti4, ti35, ti53, ti55, ti83, hlen, h20], by simp only [go_sem, ti3, ti9, ti5, ti4, ti35, ti53, ti55, ti83, hlen, h21], by simp only [go_sem, ti3, ti9, ti5, ti4, ti35, ti53, ti55, ti83, hlen, h22], by simp only [go_sem, ti3, ti9, ti5, ti4, ti35, ti53, ti55, ti83, hlen, h7], _, rfl⟩
        clear hlen h1 h3 h4 h5' h20 h21 h22 h7 e
        rintro ⟨e, ds, s2⟩ ⟨hz, rfl, hlen, h1, h3, h4, h5', h20, h21, h22, h7, n1, rfl⟩
        simp only at hlen h1 h3 h4 h5' h20 h21 h22 h7
        rw [if_neg hz] at hch
        refine Wc.seq (Wc.seq ?_)
        refine Wc.reg fun K hK => ?_; simp only [go_sem, ti3, ti9, ti5, ti4, ti35, ti53, ti55, ti83, hlen, h1, h3, h4, h5', h20, h21, h22, h7, g7]; refine hK _ _ ?_; clear hK K
        refine Wc.cond (t := decide (b.1 ≤ prevB h.bs i)) (by simp only [go_sem, ti3, ti9, ti5, ti4, ti35, ti53, ti55, ti83, hlen]) (fun hc => ?_) (fun hc => ?_)
        · have z5 : b.1 ≤ prevB h.bs i := by simpa using hc
          rw [if_pos z5] at hch
          refine Wc.seq ?_
          refine Wc.reg fun K hK => ?_; simp only [go_sem, ti3, ti9, ti5, ti4, ti35, ti53, ti55, ti83, hlen]; refine hK _ _ ?_; clear hK K
          rw [e1, hch, if_pos (by decide)]
          exact Wc.ret (Pf.ret [.tmp 2] [.c (.p (pI 9))] rfl rfl (by simp only [resultsD, go_sem, ti3, ti9, ti5, ti4, ti35, ti53, ti55, ti83, hlen]) rfl)
        have z5 : ¬ b.1 ≤ prevB h.bs i := by simpa using hc
        rw [if_neg z5] at hch
        have hcs : cnt (h.bs.take (i + 1)) = cnt (h.bs.take i) + b.2 := sumI_take hb
        have hpb : prevB h.bs (i + 1) = b.1 := by simp [prevB, hb]
        have w1 : IntKind.i64.wrap (cnt (h.bs.take i) + b.2) = cnt (h.bs.take (i + 1)) := by rw [wi64]; omega
        refine Wc.skip (Wc.seq ?_)
        refine Wc.reg fun K hK => ?_; simp only [go_sem, ti3, ti9, ti5, ti4, ti35, ti53, ti55, ti83, hlen, h1, h3, h4, h5', h20, h21, h22, h7, g7]; refine hK _ _ ?_; clear hK K
        refine Wc.reg fun K hK => ?_; simp only [go_sem, ti3, ti9, ti5, ti4, ti35, ti53, ti55, ti83, hlen, h1, h3, h4, h5', h20, h21, h22, h7, g7, w1]; refine hK _ _ ?_; clear hK K
        refine Wc.reg fun K hK => ?_; simp only [go_sem, ti3, ti9, ti5, ti4, ti35, ti53, ti55, ti83, hlen, h1, h3, h4, h5', h20, h21, h22, h7, g7, i64n i (by omega)]; refine hK _ _ ?_; clear hK K
        refine ⟨h.bs.length - (i + 1), by omega, i + 1, rfl, by omega, rfl, by simp only [go_sem, ti3, ti9, ti5, ti4, ti35, ti53, ti55, ti83, hlen], by simp only [go_sem, ti3, ti9, ti5, ti4, ti35, ti53, ti55, ti83, hlen, h1], by simp only [go_sem, ti3, ti9, ti5, ti4, ti35, ti53, ti55, ti83, hlen, hpb], by simp only [go_sem, ti3, ti9, ti5, ti4, ti35, ti53, ti55, ti83, hlen], by simp only [go_sem, ti3, ti9, ti5, ti4, ti35, ti53, ti55, ti83, hlen, h5'], by simp only [go_sem, ti3, ti9, ti5, ti4, ti35, ti53, ti55, ti83, hlen, h20], by simp only [go_sem, ti3, ti9, ti5, ti4, ti35, ti53, ti55, ti83, hlen, h21], by simp only [go_sem, ti3, ti9, ti5, ti4, ti35, ti53, ti55, ti83, hlen], ?_, by omega, hch⟩
        have q1 := ho.sub (List.Sublist.refl _) (List.sublist_cons_self _ _)
        refine OA.mono (b := s1.nx) ?_ (by simp only [St.nx_adv]; omega)
        repeat refine OA.adv ?_
        exact q1
      · have hil : i = h.bs.length := by have : ¬ (i : Int) < h.bs.length := by simpa using hc
                                         omega
        subst hil
        rw [List.drop_length] at hch
        rw [List.take_length] at h4
        exact Wc.exit ⟨hch, rfl, by simp only [go_sem, ti3, ti9, ti5, ti4, ti35, ti53, ti55, ti83, hlen], by simp only [go_sem, ti3, ti9, ti5, ti4, ti35, ti53, ti55, ti83, hlen, h1], by simp only [go_sem, ti3, ti9, ti5, ti4, ti35, ti53, ti55, ti83, hlen, h4], (ho.mono (Nat.le_add_right _ 1)).adv⟩
    · refine ⟨0, rfl, by omega, rfl, rfl, rfl, rfl, rfl, rfl, rfl, rfl, rfl, ?_, by simp [cnt, sumI], e2⟩
      have hH : Ob.cells [.p (pI q), .p (pI h.c), .p (pI h.s), .p (pI h.mn), .p (pI h.mx), .p (.lst h.bs.length (h.bs.flatMap p2))] false = .cells (h.pd.map .p) false := by rw [← hq]; rfl
      rw [hH]
      have o0 := (s00_oa.adv (n := 2)).new (k := 0) (o := .cells (h.pd.map .p) false) (Nat.le_refl _) rfl
      refine OA.mono (b := 0 + 1) ?_ (by simp only [St.nx_adv, St.nx_put]; omega)
      repeat refine OA.adv ?_
      exact o0
  rintro ⟨e, ds, s1⟩ ⟨hz, rfl, hlen, h1, h4, ho⟩
  simp only at hlen h1 h4 ho
  rw [if_neg (by rw [hz]; decide)] at e1
  have hbs := bck_bs hq8 hz
  refine Wc.seq (Wc.seq ?_)
  refine Wc.reg fun K hK => ?_; simp only [go_sem, ti3, ti9, ti5, ti4, ti35, ti53, ti55, ti83, hlen, h1, h4]; refine hK _ _ ?_; clear hK K
  refine Wc.cond (t := decide (1048576 < cnt h.bs)) (by simp only [go_sem, ti3, ti9, ti5, ti4, ti35, ti53, ti55, ti83, hlen]) (fun hc => ?_) (fun hc => ?_)
  · have z1 : 1048576 < cnt h.bs := by simpa using hc
    rw [e1, if_pos z1]
    refine Wc.seq ?_
    refine Wc.reg fun K hK => ?_; simp only [go_sem, ti3, ti9, ti5, ti4, ti35, ti53, ti55, ti83, hlen]; refine hK _ _ ?_; clear hK K
    exact Wc.ret (Pf.ret [.tmp 2] [.c (.p (pI 4))] rfl rfl (by simp only [resultsD, go_sem, ti3, ti9, ti5, ti4, ti35, ti53, ti55, ti83, hlen]) rfl)
  have z1 : ¬ 1048576 < cnt h.bs := by simpa using hc
  rw [if_neg z1] at e1
  have g0 := ho.at_ (0, .cells (h.pd.map .p) false) (by simp)
  simp only [List.map_cons, List.map_nil] at g0
  refine Wc.skip (Wc.seq (Wc.seq ?_))
  refine Wc.reg fun K hK => ?_; simp only [go_sem, ti3, ti9, ti5, ti4, ti35, ti53, ti55, ti83, hlen, h1, h4, g0]
  refine wpCall.pf (pf126 h (cnt h.bs) q hq8 hq hbs (by omega) rfl (by omega)) (by kernel_rfl) (by kernel_rfl) rfl rfl ?_
  simp only [go_sem, ti3, ti9, ti5, ti4, ti35, ti53, ti55, ti83, hlen, h1, h4, g0]; refine hK _ _ ?_; clear hK K
  refine Wc.cond (t := !(agrB h q (cnt h.bs))) (by simp only [go_sem, ti3, ti9, ti5, ti4, ti35, ti53, ti55, ti83, hlen]) (fun hc => ?_) (fun hc => ?_)
  · rw [e1, if_pos (by simpa using hc)]
    refine Wc.seq ?_
    refine Wc.reg fun K hK => ?_; simp only [go_sem, ti3, ti9, ti5, ti4, ti35, ti53, ti55, ti83, hlen]; refine hK _ _ ?_; clear hK K
    exact Wc.ret (Pf.ret [.tmp 2] [.c (.p (pI 10))] rfl rfl (by simp only [resultsD, go_sem, ti3, ti9, ti5, ti4, ti35, ti53, ti55, ti83, hlen]) rfl)
  · have z2 : agrB h q (cnt h.bs) = true := by simpa using hc
    rw [e1, if_neg (by rw [z2]; decide)]
    refine Wc.skip (Wc.seq ?_)
    refine Wc.reg fun K hK => ?_; simp only [go_sem, ti3, ti9, ti5, ti4, ti35, ti53, ti55, ti83, hlen]; refine hK _ _ ?_; clear hK K
    exact Wc.ret (Pf.ret [.tmp 2] [.c (.p (pI 0))] rfl rfl (by simp only [resultsD, go_sem, ti3, ti9, ti5, ti4, ti35, ti53, ti55, ti83, hlen]) rfl)
end Go.Proofs.YtafaoldmemcigaaGreat.Ab
namespace Go.Proofs.YtafaoldmemcigaaGreat.Ab
set_option maxHeartbeats 8000000
set_option maxRecDepth 10000
set_option linter.unusedSimpArgs false
set_option linter.unusedVariables false
/-- What a histogram's reference functions ask. -/
structure HCx (h : Hst) (q : Nat) : Prop where
  q8 : q ≤ 8
  p : h.p = q
  bs : BsOK q h.bs
  n : h.bs.length ≤ 500
  c : cnt h.bs ≤ 1048576
  a : 0 ≤ h.mn
  b : h.mn ≤ h.mx
  d : h.mx ≤ 1099511627776
theorem HCx.lo {h : Hst} {q : Nat} (x : HCx h q) {b : I2} (hb : b ∈ h.bs) : b.1.toNat ≤ (41 - q) * 2 ^ q ∧ (Go.Proofs.YtafaoldmemcigaaGreat.Ab.lo q b.1.toNat : Int) ≤ 1099511627776 ∧ (hi q b.1.toNat : Int) ≤ 1099511627776 ∧ 1 ≤ b.2 ∧ 0 ≤ b.1 := by
  have h0 := x.bs.lo0 b hb
  have h1 : b.1.toNat ≤ (41 - q) * 2 ^ q := by omega
  have h2 := lo_last x.q8 h1
  have h3 : hi q b.1.toNat ≤ 1099511627776 := Nat.min_le_right _ _
  have h4 := x.bs.cn b hb
  omega
theorem HCx.lowR {h : Hst} {q : Nat} (x : HCx h q) {i : Nat} {b : I2} (hb : b ∈ h.bs) : 0 ≤ lowR q h.mn i b ∧ lowR q h.mn i b ≤ 1099511627776 := by
  have h1 := x.lo hb
  have := x.a; have := x.b; have := x.d
  unfold Go.Proofs.YtafaoldmemcigaaGreat.Ab.lowR
  split <;> omega
theorem HCx.highR {h : Hst} {q : Nat} (x : HCx h q) {i : Nat} {b : I2} (hb : b ∈ h.bs) : 0 ≤ highR q h.mx h.bs.length i b ∧ highR q h.mx h.bs.length i b ≤ 1099511627776 := by
  have h1 := x.lo hb
  have := x.a; have := x.b; have := x.d
  unfold Go.Proofs.YtafaoldmemcigaaGreat.Ab.highR
  split <;> omega
end Go.Proofs.YtafaoldmemcigaaGreat.Ab
namespace Go.Proofs.YtafaoldmemcigaaGreat.Ab
set_option maxHeartbeats 8000000
set_option maxRecDepth 10000
set_option linter.unusedSimpArgs false
set_option linter.unusedVariables false
end Go.Proofs.YtafaoldmemcigaaGreat.Ab
namespace Go.Proofs.YtafaoldmemcigaaGreat.Ab
set_option maxHeartbeats 8000000
set_option maxRecDepth 10000
set_option linter.unusedSimpArgs false
set_option linter.unusedVariables false
end Go.Proofs.YtafaoldmemcigaaGreat.Ab
namespace Go.Proofs.YtafaoldmemcigaaGreat.Ab
set_option maxHeartbeats 8000000
set_option maxRecDepth 10000
set_option linter.unusedSimpArgs false
set_option linter.unusedVariables false
/-- Whether a list is one of valid histograms, behind a time. -/
def vh : Int → List HSm → Bool
  | _, [] => true
  | p, x :: r => if x.t ≤ p ∨ 1099511627776 < x.t ∨ hck x.h ≠ 0 then false else vh x.t r
def validH (l : List HSm) : Bool := !(l.length == 0) && decide (l.length ≤ 2000) && vh 0 l
def prevH (l : List HSm) (i : Nat) : Int := if i = 0 then 0 else ((l[i - 1]?).map (·.t)).getD 0
theorem vh_step {l : List HSm} {i : Nat} {x : HSm} (h : l[i]? = some x) : vh (prevH l i) (l.drop i) = if x.t ≤ prevH l i ∨ 1099511627776 < x.t ∨ hck x.h ≠ 0 then false else vh (prevH l (i + 1)) (l.drop (i + 1)) := by
  have hi := (List.getElem?_eq_some_iff.1 h).1
  have hx := (List.getElem?_eq_some_iff.1 h).2
  have hp : prevH l (i + 1) = x.t := by simp [prevH, h]
  rw [List.drop_eq_getElem_cons hi, hx, hp]
  rfl
/-- 46: validHists -/
theorem pf46 (l : List HSm) (hl : l.length < 2^40) (hb : ∀ x ∈ l, x.h.bs.length < 2^40) : Pf E0 46 [.c (.p (.lst l.length (l.flatMap HSm.pd)))] (P' (.bool (validH l))) := by
  have hfl : (l.flatMap HSm.pd).length = l.length * 7 := flat_len (k := 7) (fun _ => rfl) l
  refine Pf.body (fn := Tryz.f46) (by kernel_rfl) rfl ?_; simp only [List.map_cons, List.map_nil, List.cons_append, List.nil_append, List.length_cons, List.length_nil, Tryz.ntmps46, List.replicate, Nat.reduceSub, Nat.reduceAdd]
  refine Wc.seq ?_
  refine Wc.reg fun K hK => ?_; simp only [go_sem, ti3, ti9, ti5, ti4, ti35, ti24, ti57, ti55, ti26, ti22, ti23]; refine hK _ _ ?_; clear hK K
  refine Wc.seqR (fun y => (l.length ≠ 0 ∧ l.length ≤ 2000) ∧ y.ds = [] ∧ y.e.length = 38 ∧ y.e.getD 0 .junk = P' (.lst l.length (l.flatMap HSm.pd))) ?_ ?_
  · have bad : ¬ (l.length ≠ 0 ∧ l.length ≤ 2000) → validH l = false := fun hn => by
      unfold validH
      by_cases h0 : l.length = 0
      · have b0 : (l.length == 0) = true := by simpa using h0
        rw [b0]; rfl
      · have n0 : ¬ l.length ≤ 2000 := by omega
        rw [decide_eq_false n0, Bool.and_false, Bool.false_and]
    refine Wc.seq ?_
    by_cases z1 : l.length = 0
    · have b1 : ((l.length : Int) == 0) = true := by simp; exact List.length_eq_zero_iff.1 z1
      refine Wc.reg fun K hK => ?_; simp only [go_sem, ti3, ti9, ti5, ti4, ti35, ti24, ti57, ti55, ti26, ti22, ti23, b1]; refine hK _ _ ?_; clear hK K
      refine Wc.cond (t := true) (by simp only [go_sem, ti3, ti9, ti5, ti4, ti35, ti24, ti57, ti55, ti26, ti22, ti23, b1]) (fun _ => ?_) (fun hc => by cases hc)
      refine Wc.seq ?_
      refine Wc.reg fun K hK => ?_; simp only [go_sem, ti3, ti9, ti5, ti4, ti35, ti24, ti57, ti55, ti26, ti22, ti23]; refine hK _ _ ?_; clear hK K
      rw [bad (by omega)]
      exact Wc.ret (Pf.ret [.tmp 2] [.c (.p (.bool false))] rfl rfl (by simp only [resultsD, go_sem, ti3, ti9, ti5, ti4, ti35, ti24, ti57, ti55, ti26, ti22, ti23]) rfl)
    · have b1 : ((l.length : Int) == 0) = false := by rw [beq_eq_false_iff_ne]; omega
      refine Wc.reg fun K hK => ?_; simp only [go_sem, ti3, ti9, ti5, ti4, ti35, ti24, ti57, ti55, ti26, ti22, ti23, b1]; refine hK _ _ ?_; clear hK K
      refine Wc.cond (t := decide ((2000 : Int) < l.length)) (by simp only [go_sem, ti3, ti9, ti5, ti4, ti35, ti24, ti57, ti55, ti26, ti22, ti23, b1]) (fun hc => ?_) (fun hc => ?_)
      · have z2 : (2000 : Int) < l.length := of_decide_eq_true hc
        refine Wc.seq ?_
        refine Wc.reg fun K hK => ?_; simp only [go_sem, ti3, ti9, ti5, ti4, ti35, ti24, ti57, ti55, ti26, ti22, ti23]; refine hK _ _ ?_; clear hK K
        rw [bad (by omega)]
        exact Wc.ret (Pf.ret [.tmp 2] [.c (.p (.bool false))] rfl rfl (by simp only [resultsD, go_sem, ti3, ti9, ti5, ti4, ti35, ti24, ti57, ti55, ti26, ti22, ti23]) rfl)
      · have z2 : ¬ (2000 : Int) < l.length := of_decide_eq_false hc
        exact Wc.skip ⟨by omega, rfl, rfl, rfl⟩
  rintro ⟨e, ds, s1⟩ ⟨⟨z1, z2⟩, rfl, hlen, h0⟩
  simp only at hlen h0
  have e0 : validH l = vh (prevH l 0) (l.drop 0) := by
    unfold validH
    have b1 : (l.length == 0) = false := by rw [beq_eq_false_iff_ne]; exact z1
    rw [b1, decide_eq_true z2]; rfl
  refine Wc.seq ?_
  refine Wc.reg fun K hK => ?_; simp only [go_sem, ti3, ti9, ti5, ti4, ti35, ti24, ti57, ti55, ti26, ti22, ti23, hlen, h0]; refine hK _ _ ?_; clear hK K
  refine Wc.seqR (fun y => validH l = true ∧ y.ds = [] ∧ y.e.length = 38) ?_ ?_
  · refine Wc.seq ?_
    refine Wc.reg fun K hK => ?_; simp only [go_sem, ti3, ti9, ti5, ti4, ti35, ti24, ti57, ti55, ti26, ti22, ti23, hlen, h0, Int.natCast_zero]; refine hK _ _ ?_; clear hK K
    refine Wc.block (Wc.loop (fun k y => ∃ i : Nat, k = l.length - i ∧ i ≤ l.length ∧ y.ds = [] ∧ y.e.length = 38 ∧ y.e.getD 3 .junk = P' (pI (prevH l i)) ∧ y.e.getD 14 .junk = P' (.lst l.length (l.flatMap HSm.pd)) ∧ y.e.getD 15 .junk = P' (pI l.length) ∧ y.e.getD 16 .junk = P' (pI i) ∧ validH l = vh (prevH l i) (l.drop i)) ?_ (k := l.length) ?_)
    · clear hlen h0 e s1
      rintro k ⟨e, ds, s1⟩ ⟨i, rfl, hi, rfl, hlen, h3, h14, h15, h16, hch⟩
      simp only at hlen h3 h14 h15 h16
      refine Wc.seq ?_
      refine Wc.reg fun K hK => ?_; simp only [go_sem, ti3, ti9, ti5, ti4, ti35, ti24, ti57, ti55, ti26, ti22, ti23, hlen, h3, h14, h15, h16]; refine hK _ _ ?_; clear hK K
      refine Wc.seq (Wc.cond (t := decide ((i : Int) < l.length)) (by simp only [go_sem, ti3, ti9, ti5, ti4, ti35, ti24, ti57, ti55, ti26, ti22, ti23, hlen]) (fun hc => ?_) (fun hc => ?_))
      · have hil : i < l.length := by have : (i : Int) < l.length := by simpa using hc
                                      omega
        obtain ⟨x, hx⟩ : ∃ x, l[i]? = some x := ⟨l[i], List.getElem?_eq_getElem hil⟩
        have hix := ixA ti24 rfl ti57 (j := i) (m := l.length) (cs := l.flatMap HSm.pd) hil hfl (by decide)
        have hca := rpA (off := i * 7) (drop_flat (f := HSm.pd) (k := 7) (fun _ => rfl) hx) (by rw [hfl]; omega)
        rw [vh_step hx] at hch
        have bad : (x.t ≤ prevH l i ∨ 1099511627776 < x.t ∨ hck x.h ≠ 0) → validH l = false := fun h => by rw [hch, if_pos h]
        refine Wc.skip (Wc.seq (Wc.block (Wc.seq ?_)))
        refine Wc.reg fun K hK => ?_; simp only [go_sem, ti3, ti9, ti5, ti4, ti35, ti24, ti57, ti55, ti26, ti22, ti23, hlen, h3, h14, h15, h16, hix, hca]; refine hK _ _ ?_; clear hK K
        refine Wc.seqR (fun y => ¬ (x.t ≤ prevH l i ∨ 1099511627776 < x.t ∨ hck x.h ≠ 0) ∧ y.ds = [] ∧ y.e.length = 38 ∧ y.e.getD 14 .junk = P' (.lst l.length (l.flatMap HSm.pd)) ∧ y.e.getD 15 .junk = P' (pI l.length) ∧ y.e.getD 16 .junk = P' (pI i) ∧ y.e.getD 5 .junk = .v (.c (.ref (s1.nx + 3) 0)) ∧ y.s.get (s1.nx + 3) = some (.cells (x.pd.map .p) false)) ?_ ?_
        · refine Wc.seq ?_
          by_cases y1 : x.t ≤ prevH l i
          · refine Wc.reg fun K hK => ?_; simp only [go_sem, ti3, ti9, ti5, ti4, ti35, ti24, ti57, ti55, ti26, ti22, ti23, hlen, h3, h14, h15, h16, y1]; refine hK _ _ ?_; clear hK K
            refine Wc.cond (t := true) (by simp only [go_sem, ti3, ti9, ti5, ti4, ti35, ti24, ti57, ti55, ti26, ti22, ti23, hlen]) (fun _ => ?_) (fun hc => by cases hc)
            refine Wc.seq ?_
            refine Wc.reg fun K hK => ?_; simp only [go_sem, ti3, ti9, ti5, ti4, ti35, ti24, ti57, ti55, ti26, ti22, ti23, hlen]; refine hK _ _ ?_; clear hK K
            rw [bad (.inl y1)]
            exact Wc.ret (Pf.ret [.tmp 2] [.c (.p (.bool false))] rfl rfl (by simp only [resultsD, go_sem, ti3, ti9, ti5, ti4, ti35, ti24, ti57, ti55, ti26, ti22, ti23, hlen]) rfl)
          by_cases y2 : 1099511627776 < x.t
          · refine Wc.reg fun K hK => ?_; simp only [go_sem, ti3, ti9, ti5, ti4, ti35, ti24, ti57, ti55, ti26, ti22, ti23, hlen, h3, h14, h15, h16, y1, y2]; refine hK _ _ ?_; clear hK K
            refine Wc.cond (t := true) (by simp only [go_sem, ti3, ti9, ti5, ti4, ti35, ti24, ti57, ti55, ti26, ti22, ti23, hlen]) (fun _ => ?_) (fun hc => by cases hc)
            refine Wc.seq ?_
            refine Wc.reg fun K hK => ?_; simp only [go_sem, ti3, ti9, ti5, ti4, ti35, ti24, ti57, ti55, ti26, ti22, ti23, hlen]; refine hK _ _ ?_; clear hK K
            rw [bad (.inr (.inl y2))]
            exact Wc.ret (Pf.ret [.tmp 2] [.c (.p (.bool false))] rfl rfl (by simp only [resultsD, go_sem, ti3, ti9, ti5, ti4, ti35, ti24, ti57, ti55, ti26, ti22, ti23, hlen]) rfl)
          refine Wc.reg fun K hK => ?_; simp only [go_sem, ti3, ti9, ti5, ti4, ti35, ti24, ti57, ti55, ti26, ti22, ti23, hlen, h3, h14, h15, h16, y1, y2]
          refine wpCall.pf (pf84 x.h (hb x (List.mem_of_getElem? hx))) (by kernel_rfl) (by kernel_rfl) rfl rfl ?_
          simp only [go_sem, ti3, ti9, ti5, ti4, ti35, ti24, ti57, ti55, ti26, ti22, ti23, hlen, h3, h14, h15, h16, y1, y2]; refine hK _ _ ?_; clear hK K
          refine Wc.cond (t := (hck x.h != 0)) (by simp only [go_sem, ti3, ti9, ti5, ti4, ti35, ti24, ti57, ti55, ti26, ti22, ti23, hlen]) (fun hc => ?_) (fun hc => ?_)
          · refine Wc.seq ?_
            refine Wc.reg fun K hK => ?_; simp only [go_sem, ti3, ti9, ti5, ti4, ti35, ti24, ti57, ti55, ti26, ti22, ti23, hlen]; refine hK _ _ ?_; clear hK K
            rw [bad (.inr (.inr (by simpa using hc)))]
            exact Wc.ret (Pf.ret [.tmp 2] [.c (.p (.bool false))] rfl rfl (by simp only [resultsD, go_sem, ti3, ti9, ti5, ti4, ti35, ti24, ti57, ti55, ti26, ti22, ti23, hlen]) rfl)
          · have y3 : hck x.h = 0 := by simpa using hc
            exact Wc.skip ⟨by omega, rfl, by simp only [go_sem, ti3, ti9, ti5, ti4, ti35, ti24, ti57, ti55, ti26, ti22, ti23, hlen], by simp only [go_sem, ti3, ti9, ti5, ti4, ti35, ti24, ti57, ti55, ti26, ti22, ti23, hlen, h14], by simp only [go_sem, ti3, ti9, ti5, ti4, ti35, ti24, ti57, ti55, ti26, ti22, ti23, hlen, h15], by simp only [go_sem, ti3, ti9, ti5, ti4, ti35, ti24, ti57, ti55, ti26, ti22, ti23, hlen, h16], by simp only [go_sem, ti3, ti9, ti5, ti4, ti35, ti24, ti57, ti55, ti26, ti22, ti23, hlen], by simp only [go_sem, ti3, ti9, ti5, ti4, ti35, ti24, ti57, ti55, ti26, ti22, ti23]⟩
        clear hlen h3 h14 h15 h16 e hc
        rintro ⟨e, ds, s2⟩ ⟨hz, rfl, hlen, h14, h15, h16, h5, g5⟩
        simp only at hlen h14 h15 h16 h5 g5
        simp only [List.map_cons, List.map_nil] at g5
        rw [if_neg hz] at hch
        have hpb : prevH l (i + 1) = x.t := by simp [prevH, hx]
        refine Wc.reg fun K hK => ?_; simp only [go_sem, ti3, ti9, ti5, ti4, ti35, ti24, ti57, ti55, ti26, ti22, ti23, hlen, h14, h15, h16, h5, g5]; refine hK _ _ ?_; clear hK K
        refine Wc.reg fun K hK => ?_; simp only [go_sem, ti3, ti9, ti5, ti4, ti35, ti24, ti57, ti55, ti26, ti22, ti23, hlen, h14, h15, h16, i64n i (by omega)]; refine hK _ _ ?_; clear hK K
        exact ⟨l.length - (i + 1), by omega, i + 1, rfl, by omega, rfl, by simp only [go_sem, ti3, ti9, ti5, ti4, ti35, ti24, ti57, ti55, ti26, ti22, ti23, hlen], by simp only [go_sem, ti3, ti9, ti5, ti4, ti35, ti24, ti57, ti55, ti26, ti22, ti23, hlen, hpb], by simp only [go_sem, ti3, ti9, ti5, ti4, ti35, ti24, ti57, ti55, ti26, ti22, ti23, hlen, h14], by simp only [go_sem, ti3, ti9, ti5, ti4, ti35, ti24, ti57, ti55, ti26, ti22, ti23, hlen, h15], by simp only [go_sem, ti3, ti9, ti5, ti4, ti35, ti24, ti57, ti55, ti26, ti22, ti23, hlen], hch⟩
      · have hil : i = l.length := by have : ¬ (i : Int) < l.length := by simpa using hc
                                      omega
        rw [hil, List.drop_length] at hch
        exact Wc.exit ⟨hch, rfl, by simp only [go_sem, ti3, ti9, ti5, ti4, ti35, ti24, ti57, ti55, ti26, ti22, ti23, hlen]⟩
    · exact ⟨0, rfl, by omega, rfl, by simp only [go_sem, ti3, ti9, ti5, ti4, ti35, ti24, ti57, ti55, ti26, ti22, ti23, hlen], by simp only [go_sem, ti3, ti9, ti5, ti4, ti35, ti24, ti57, ti55, ti26, ti22, ti23, hlen]; rfl, by simp only [go_sem, ti3, ti9, ti5, ti4, ti35, ti24, ti57, ti55, ti26, ti22, ti23, hlen], by simp only [go_sem, ti3, ti9, ti5, ti4, ti35, ti24, ti57, ti55, ti26, ti22, ti23, hlen], by simp only [go_sem, ti3, ti9, ti5, ti4, ti35, ti24, ti57, ti55, ti26, ti22, ti23, hlen]; rfl, e0⟩
  · rintro ⟨e, ds, s1⟩ ⟨hch, rfl, hlen⟩
    simp only at hlen
    rw [hch]
    refine Wc.seq ?_
    refine Wc.reg fun K hK => ?_; simp only [go_sem, ti3, ti9, ti5, ti4, ti35, ti24, ti57, ti55, ti26, ti22, ti23, hlen]; refine hK _ _ ?_; clear hK K
    exact Wc.ret (Pf.ret [.tmp 2] [.c (.p (.bool true))] rfl rfl (by simp only [resultsD, go_sem, ti3, ti9, ti5, ti4, ti35, ti24, ti57, ti55, ti26, ti22, ti23, hlen]) rfl)
/-- A series: labels, kind, samples, histograms. -/
structure Ser where
  lb : List Lb
  k : Int
  sm : List I2
  hs : List HSm
abbrev Ser.pd (x : Ser) : List Pd := [.lst x.lb.length (x.lb.flatMap lbP), pI x.k, .lst x.sm.length (x.sm.flatMap p2), .lst x.hs.length (x.hs.flatMap HSm.pd)]
/-- A series that isn't too long for the machine. -/
structure Ser.Sz (x : Ser) : Prop where
  lb : x.lb.length < 2^40
  ls : ∀ y ∈ x.lb, y.1.length < 2^50 ∧ y.2.length < 2^50
  sm : x.sm.length < 2^40
  hs : x.hs.length < 2^40
  hb : ∀ y ∈ x.hs, y.h.bs.length < 2^40
def serOK (x : Ser) : Bool := if lckA x.lb ≠ 0 then false else if x.k = 3 then (x.sm.length == 0) && validH x.hs else (x.hs.length == 0) && (!(x.sm.length == 0) && (sckA x.k x.sm == 0))
theorem len_beq (n : Nat) : ((n : Int) == 0) = (n == 0) := by
  rw [Bool.eq_iff_iff]; simp
theorem len_pos (n : Nat) : decide (0 < (n : Int)) = !(n == 0) := by
  cases n <;> simp
/-- 21: validSeries -/
theorem pf21 (x : Ser) (z : x.Sz) : Pf E0 21 [.agg (x.pd.map .p)] (P' (.bool (serOK x))) := by
  refine Pf.body (fn := Tryz.f21) (by kernel_rfl) rfl ?_; simp only [List.map_cons, List.map_nil, List.cons_append, List.nil_append, List.length_cons, List.length_nil, Tryz.ntmps21, List.replicate, Nat.reduceSub, Nat.reduceAdd]
  refine Wc.seq ?_
  refine Wc.reg fun K hK => ?_; simp only [go_sem, ti3, ti9, ti5, ti4, ti35, ti24, ti57, ti55, ti26, ti22, ti23]; refine hK _ _ ?_; clear hK K
  refine Wc.seq (Wc.seq ?_)
  refine Wc.reg fun K hK => ?_; simp only [go_sem, ti3, ti9, ti5, ti4, ti35, ti24, ti57, ti55, ti26, ti22, ti23]
  refine wpCall.pf (pf45 x.lb z.lb z.ls) (by kernel_rfl) (by kernel_rfl) rfl rfl ?_
  simp only [go_sem, ti3, ti9, ti5, ti4, ti35, ti24, ti57, ti55, ti26, ti22, ti23]; refine hK _ _ ?_; clear hK K
  refine Wc.cond (t := (lckA x.lb != 0)) (by simp only [go_sem, ti3, ti9, ti5, ti4, ti35, ti24, ti57, ti55, ti26, ti22, ti23]) (fun hc => ?_) (fun hc => ?_)
  · have h0 : lckA x.lb ≠ 0 := by simpa using hc
    have e : serOK x = false := by unfold serOK; rw [if_pos h0]
    rw [e]
    refine Wc.seq ?_
    refine Wc.reg fun K hK => ?_; simp only [go_sem, ti3, ti9, ti5, ti4, ti35, ti24, ti57, ti55, ti26, ti22, ti23]; refine hK _ _ ?_; clear hK K
    exact Wc.ret (Pf.ret [.tmp 2] [.c (.p (.bool false))] rfl rfl (by simp only [resultsD, go_sem, ti3, ti9, ti5, ti4, ti35, ti24, ti57, ti55, ti26, ti22, ti23]) rfl)
  have h0 : ¬ lckA x.lb ≠ 0 := by simpa using hc
  have e0 : serOK x = if x.k = 3 then (x.sm.length == 0) && validH x.hs else (x.hs.length == 0) && (!(x.sm.length == 0) && (sckA x.k x.sm == 0)) := by unfold serOK; rw [if_neg h0]
  rw [e0]
  refine Wc.skip (Wc.seq (Wc.seq ?_))
  refine Wc.reg fun K hK => ?_; simp only [go_sem, ti3, ti9, ti5, ti4, ti35, ti24, ti57, ti55, ti26, ti22, ti23]; refine hK _ _ ?_; clear hK K
  refine Wc.cond (t := (x.k == 3)) (by simp only [go_sem, ti3, ti9, ti5, ti4, ti35, ti24, ti57, ti55, ti26, ti22, ti23]) (fun hc => ?_) (fun hc => ?_)
  · have h3 : x.k = 3 := by simpa using hc
    rw [if_pos h3]
    refine Wc.seq ?_
    cases hs : (x.sm.length == 0) with
    | true =>
      refine Wc.reg fun K hK => ?_; simp only [go_sem, ti3, ti9, ti5, ti4, ti35, ti24, ti57, ti55, ti26, ti22, ti23, len_beq, hs]
      refine wpCall.pf (pf46 x.hs z.hs z.hb) (by kernel_rfl) (by kernel_rfl) rfl rfl ?_
      simp only [go_sem, ti3, ti9, ti5, ti4, ti35, ti24, ti57, ti55, ti26, ti22, ti23, len_beq, hs]; refine hK _ _ ?_; clear hK K
      exact Wc.ret (Pf.ret [.tmp 2] [.c (.p (.bool (validH x.hs)))] rfl rfl (by simp only [resultsD, go_sem, ti3, ti9, ti5, ti4, ti35, ti24, ti57, ti55, ti26, ti22, ti23]) rfl)
    | false =>
      refine Wc.reg fun K hK => ?_; simp only [go_sem, ti3, ti9, ti5, ti4, ti35, ti24, ti57, ti55, ti26, ti22, ti23, len_beq, hs]; refine hK _ _ ?_; clear hK K
      exact Wc.ret (Pf.ret [.tmp 2] [.c (.p (.bool false))] rfl rfl (by simp only [resultsD, go_sem, ti3, ti9, ti5, ti4, ti35, ti24, ti57, ti55, ti26, ti22, ti23]) rfl)
  · have h3 : ¬ x.k = 3 := by simpa using hc
    rw [if_neg h3]
    refine Wc.skip (Wc.seq ?_)
    cases hs : (x.hs.length == 0) with
    | false =>
      refine Wc.reg fun K hK => ?_; simp only [go_sem, ti3, ti9, ti5, ti4, ti35, ti24, ti57, ti55, ti26, ti22, ti23, len_beq, hs]; refine hK _ _ ?_; clear hK K
      exact Wc.ret (Pf.ret [.tmp 2] [.c (.p (.bool false))] rfl rfl (by simp only [resultsD, go_sem, ti3, ti9, ti5, ti4, ti35, ti24, ti57, ti55, ti26, ti22, ti23]) rfl)
    | true =>
      cases hm : (x.sm.length == 0) with
      | true =>
        refine Wc.reg fun K hK => ?_; simp only [go_sem, ti3, ti9, ti5, ti4, ti35, ti24, ti57, ti55, ti26, ti22, ti23, len_beq, len_pos, hs, hm]; refine hK _ _ ?_; clear hK K
        exact Wc.ret (Pf.ret [.tmp 2] [.c (.p (.bool false))] rfl rfl (by simp only [resultsD, go_sem, ti3, ti9, ti5, ti4, ti35, ti24, ti57, ti55, ti26, ti22, ti23]) rfl)
      | false =>
        refine Wc.reg fun K hK => ?_; simp only [go_sem, ti3, ti9, ti5, ti4, ti35, ti24, ti57, ti55, ti26, ti22, ti23, len_beq, len_pos, hs, hm]
        refine wpCall.pf (pf47 x.k x.sm z.sm) (by kernel_rfl) (by kernel_rfl) rfl rfl ?_
        simp only [go_sem, ti3, ti9, ti5, ti4, ti35, ti24, ti57, ti55, ti26, ti22, ti23, len_beq, len_pos, hs, hm]; refine hK _ _ ?_; clear hK K
        exact Wc.ret (Pf.ret [.tmp 2] [.c (.p (.bool (sckA x.k x.sm == 0)))] rfl rfl (by simp only [resultsD, go_sem, ti3, ti9, ti5, ti4, ti35, ti24, ti57, ti55, ti26, ti22, ti23]) rfl)
end Go.Proofs.YtafaoldmemcigaaGreat.Ab
