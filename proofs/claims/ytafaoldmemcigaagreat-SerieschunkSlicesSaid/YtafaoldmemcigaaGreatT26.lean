/- A part of the proof: an evaluator of the code, its contracts, the law. No condition. -/
import Derived.Test.YtafaoldmemcigaaGreatT25
namespace Go.Proofs.YtafaoldmemcigaaGreat.Ab
set_option maxHeartbeats 8000000
set_option maxRecDepth 10000
set_option linter.unusedSimpArgs false
set_option linter.unusedVariables false
/-- A reader, as an object. -/
abbrev RO (t : List UInt8) (st : RdT) : Ob := .cells [.p (.str t), .p (pI st.1), .p (.int .i64 st.2)] false
/-- A function that reads a number. -/
structure RdF (g : Nat) (rd : List UInt8 → Int × Nat × Int) : Prop where
  pf : ∀ u, Pf E0 g [.c (.p (.str u))] (.tup [.c (.p (pI (rd u).1)), .c (.p (pI (rd u).2.1)), .c (.p (.int .i64 (rd u).2.2))])
  xt : E0.xt g = none
  opn : E0.opn g = false
  le : ∀ u, (rd u).2.1 ≤ u.length
theorem rdfV : RdF 78 rdV := ⟨pf78, by kernel_rfl, by kernel_rfl, fun u => (rdV_le u).1⟩
theorem rdfS : RdF 139 rdS := ⟨pf139, by kernel_rfl, by kernel_rfl, fun u => (rdS_le u).1⟩
theorem numR_le {g : Nat} {rd : List UInt8 → Int × Nat × Int} (hg : RdF g rd) {t : List UInt8} {st : RdT} (h : st.1 ≤ t.length) : (numR rd t st).2.1 ≤ t.length := by
  unfold numR
  split
  · exact h
  · have := hg.le (t.drop st.1)
    rw [List.length_drop] at this
    simp only
    omega
/-- 150: number, in its caller's state -/
theorem call150 {s : St} {L : List (Nat × D × Nat × List Pd)} {M1 M2 : List (Nat × Ob)} {r g : Nat} {t : List UInt8} {st : RdT} {rd : List UInt8 → Int × Nat × Int} {K : D → St → Prop} (hg : RdF g rd) (h : OA s.nx s L (M1 ++ (r, RO t st) :: M2)) (hat : st.1 ≤ t.length) (ht : t.length < 2^40)
    (hK : ∀ s', OA s'.nx s' L (M1 ++ (r, RO t (numR rd t st).2) :: M2) → K (P' (pI (numR rd t st).1)) s') : wpCall E0 (.v (.c (.p (.fnc 150)))) [.v (.c (.ref r 0)), .v (.c (.p (.fnc g)))] s K := by
  obtain ⟨p, er⟩ := st
  have o := h.at_ (r, RO t (p, er)) (by simp)
  simp only [RO] at o hat
  refine wpCall.opn (fn := Tryz.f150) (by kernel_rfl) (by kernel_rfl) rfl (by kernel_rfl) rfl ?_; simp only [List.map_cons, List.map_nil, List.cons_append, List.nil_append, List.length_cons, List.length_nil, Tryz.ntmps150, List.replicate, Nat.reduceSub, Nat.reduceAdd]
  refine Wc.seq ?_
  refine Wc.reg fun K hK => ?_; simp only [go_sem, ti3, ti113, ti9, ti5, ti4, ti35, ti48, ti77, ti183]; refine hK _ _ ?_; clear hK K
  refine Wc.seq (Wc.seq ?_)
  refine Wc.reg fun K hK => ?_; simp only [go_sem, ti3, ti113, ti9, ti5, ti4, ti35, ti48, ti77, ti183, o]; refine hK _ _ ?_; clear hK K
  refine Wc.cond (t := (er != 0)) (by simp only [go_sem, ti3, ti113, ti9, ti5, ti4, ti35, ti48, ti77, ti183]) (fun hc => ?_) (fun hc => ?_)
  · have h0 : er ≠ 0 := by simpa using hc
    have e : numR rd t (p, er) = (0, (p, er)) := by unfold numR; rw [if_pos h0]
    rw [e] at hK
    refine Wc.seq ?_
    refine Wc.reg fun K hK => ?_; simp only [go_sem, ti3, ti113, ti9, ti5, ti4, ti35, ti48, ti77, ti183]; refine hK _ _ ?_; clear hK K
    refine Wc.ret ?_
    refine (show bodyQ E0 Tryz.f150 K .ret _ from Op.ret [.tmp 4] [.c (.p (pI 0))] rfl rfl (by simp only [resultsD, go_sem, ti3, ti113, ti9, ti5, ti4, ti35, ti48, ti77, ti183]) (hK _ ?_))
    exact by simp only [St.nx_put, St.nx_adv]; repeat (first | exact OA.mono h (by omega) | refine OA.newB ?_ (by omega) rfl | refine OA.advB ?_)
  · have h0 : er = 0 := by simpa using hc
    subst h0
    have e : numR rd t (p, 0) = ((rd (t.drop p)).1, (p + (rd (t.drop p)).2.1, (rd (t.drop p)).2.2)) := by unfold numR; rw [if_neg (by simp)]
    rw [e] at hK
    have pg := hg.pf (t.drop p)
    have hle := hg.le (t.drop p)
    rw [List.length_drop] at hle
    have c1 : ((p : Int) ≤ (t.length : Int)) = True := by simp; omega
    have w1 : IntKind.i64.wrap ((p : Int) + ((rd (t.drop p)).2.1 : Int)) = ((p + (rd (t.drop p)).2.1 : Nat) : Int) := by rw [wi64]; omega
    generalize (rd (t.drop p)).1 = x at *
    generalize (rd (t.drop p)).2.1 = z at *
    generalize (rd (t.drop p)).2.2 = er2 at *
    refine Wc.skip (Wc.seq ?_)
    refine Wc.regD fun K hK => ?_; simp only [go_sem, ti3, ti113, ti9, ti5, ti4, ti35, ti48, ti77, ti183, o, c1, slice_from, Int.le_refl]
    refine ⟨by simp [hg.opn, hg.xt, plainD, plainV, plainC], ?_⟩
    refine wpCall.pf pg hg.xt hg.opn rfl rfl ?_
    simp only [go_sem, ti3, ti113, ti9, ti5, ti4, ti35, ti48, ti77, ti183]; refine hK _ _ ?_; clear hK K
    refine Wc.seq ?_
    refine Wc.reg fun K hK => ?_; simp only [go_sem, ti3, ti113, ti9, ti5, ti4, ti35, ti48, ti77, ti183, o, w1]; refine hK _ _ ?_; clear hK K
    refine Wc.seq ?_
    refine Wc.reg fun K hK => ?_; simp only [go_sem, ti3, ti113, ti9, ti5, ti4, ti35, ti48, ti77, ti183, o, w1]; refine hK _ _ ?_; clear hK K
    refine Wc.seq ?_
    refine Wc.reg fun K hK => ?_; simp only [go_sem, ti3, ti113, ti9, ti5, ti4, ti35, ti48, ti77, ti183]; refine hK _ _ ?_; clear hK K
    refine Wc.ret ?_
    refine (show bodyQ E0 Tryz.f150 K .ret _ from Op.ret [.tmp 4] [.c (.p (pI x))] rfl rfl (by simp only [resultsD, go_sem, ti3, ti113, ti9, ti5, ti4, ti35, ti48, ti77, ti183]) (hK _ ?_))
    exact by simp only [St.nx_put, St.nx_adv]; first | ((repeat (first | exact OA.mono h (by omega) | refine OA.advB ?_)); done) | ((repeat refine OA.advB ?_); refine OA.ofS ?_; repeat (first | exact ⟨_, OA.mono h (by omega)⟩ | refine OAs.adv ?_ | refine OAs.put ?_))
theorem runsR_len (t : List UInt8) : ∀ (k m : Nat) (st : RdT), (runsR t k m st).1.length ≤ m
  | 0, m, st => by simp [runsR]
  | k + 1, m, st => by
    rw [runsR]
    split
    · simp
    · simp only
      split
      · simp
      · rename_i h1 h2
        split
        · simp
        · have ih := runsR_len t k (m - (numR rdV t (numR rdS t st).2).1.toNat) (numR rdV t (numR rdS t st).2).2
          have hb : runB m (numR rdV t (numR rdS t st).2) = 0 := by simpa using h2
          generalize numR rdV t (numR rdS t st).2 = y at *
          unfold runB at hb
          split at hb
          · cases hb
          · simp only [List.length_append, List.length_replicate]
            omega
theorem runsR_err (t : List UInt8) : ∀ (k m : Nat) (st : RdT), (runsR t k m st).2.2 ≠ 0 → (runsR t k m st).1 = []
  | 0, m, st, _ => rfl
  | k + 1, m, st, h => by
    rw [runsR] at h ⊢
    split
    · rfl
    · rename_i h0
      rw [if_neg h0] at h
      simp only at h ⊢
      split
      · rfl
      · rename_i h1
        rw [if_neg h1] at h
        split
        · rfl
        · rename_i h2
          rw [if_neg h2] at h
          exact absurd h h2
/-- 151: runs, in its caller's state -/
theorem call151 {s : St} {L : List (Nat × D × Nat × List Pd)} {M1 M2 : List (Nat × Ob)} {r m : Nat} {t : List UInt8} {st : RdT} {K : D → St → Prop} (h : OA s.nx s L (M1 ++ (r, RO t st) :: M2)) (hat : st.1 ≤ t.length) (ht : t.length < 2^40) (hm : m ≤ 20000)
    (hK : ∀ s' c, OA s'.nx s' ((1, .v (.c c), (runsR t m m st).1.length, (runsR t m m st).1.map pI) :: L) (M1 ++ (r, RO t (runsR t m m st).2) :: M2) → K (.v (.c c)) s') : wpCall E0 (.v (.c (.p (.fnc 151)))) [.v (.c (.ref r 0)), .v (.c (.p (pI m)))] s K := by
  generalize hT : runsR t m m st = T at hK
  refine wpCall.opn (fn := Tryz.f151) (by kernel_rfl) (by kernel_rfl) rfl (by kernel_rfl) rfl ?_; simp only [List.map_cons, List.map_nil, List.cons_append, List.nil_append, List.length_cons, List.length_nil, Tryz.ntmps151, List.replicate, Nat.reduceSub, Nat.reduceAdd]
  refine Wc.seq ?_
  refine Wc.reg fun K hK => ?_; simp only [go_sem, ti3, ti113, ti9, ti5, ti4, ti35, ti48, ti77, ti183]; refine hK _ _ ?_; clear hK K
  refine Wc.seq ?_
  refine Wc.reg fun K hK => ?_; simp only [go_sem, ti3, ti113, ti9, ti5, ti4, ti35, ti48, ti77, ti183]; refine hK _ _ ?_; clear hK K
  refine Wc.seqR (fun y => ∃ c5, y.ds = [] ∧ Fs y.e 50 [(5, .v (.c c5))] ∧ OA y.s.nx y.s ((1, .v (.c c5), T.1.length, T.1.map pI) :: L) (M1 ++ (r, RO t T.2) :: M2)) ?_ ?_
  · refine Wc.block (Wc.loop (fun k y => ∃ (l : List Int) (st' : RdT) (c5 : C) (f : Nat), k = m - l.length ∧ l.length ≤ m ∧ m - l.length ≤ f ∧ st'.1 ≤ t.length ∧ (l = [] ∨ st'.2 = 0) ∧ y.ds = [] ∧ Fs y.e 50 [(0, .v (.c (.ref r 0))), (1, P' (pI m)), (5, .v (.c c5))] ∧
      OA y.s.nx y.s ((1, .v (.c c5), l.length, l.map pI) :: L) (M1 ++ (r, RO t st') :: M2) ∧ T = if (runsR t f (m - l.length) st').2.2 ≠ 0 then ([], (runsR t f (m - l.length) st').2) else (l ++ (runsR t f (m - l.length) st').1, (runsR t f (m - l.length) st').2)) ?_ (k := m) ?_)
    · rintro k ⟨e, ds, s1⟩ ⟨l, st', c5, f, rfl, hlm, hf, hat', hl0, rfl, hF, ho, hTi⟩
      simp only [Fs] at hF ho
      have hl5 := (ho.own _ (List.mem_cons_self ..)).len ti77 rfl
      refine Wc.seq (Wc.seq ?_)
      refine Wc.reg fun K hK => ?_; simp only [go_sem, ti3, ti113, ti9, ti5, ti4, ti35, ti48, ti77, ti183, hF, hl5]; refine hK _ _ ?_; clear hK K
      refine Wc.cond (t := decide ((l.length : Int) < m)) (by simp only [go_sem, ti3, ti113, ti9, ti5, ti4, ti35, ti48, ti77, ti183, hF]) (fun hc => ?_) (fun hc => ?_)
      · have hlt : l.length < m := by have : (l.length : Int) < m := by simpa using hc
                                      omega
        obtain ⟨f', rfl⟩ : ∃ f', f = f' + 1 := ⟨f - 1, by omega⟩
        rw [runsR, if_neg (show ¬ (m - l.length = 0) by omega)] at hTi
        simp only at hTi
        have hx1 := numR_le rdfS hat' (rd := rdS) (t := t) (st := st')
        refine Wc.skip (Wc.block (Wc.seq ?_))
        refine Wc.reg fun K hK => ?_; simp only [go_sem, ti3, ti113, ti9, ti5, ti4, ti35, ti48, ti77, ti183, hF]
        refine call150 rdfS (ho.adv.adv.mono (by simp only [St.nx_adv]; omega)) hat' ht fun s2 ho2 => ?_
        simp only [go_sem, ti3, ti113, ti9, ti5, ti4, ti35, ti48, ti77, ti183, hF]; refine hK _ _ ?_; clear hK K
        generalize numR rdS t st' = x at *
        refine Wc.seq ?_
        refine Wc.reg fun K hK => ?_; simp only [go_sem, ti3, ti113, ti9, ti5, ti4, ti35, ti48, ti77, ti183, hF]
        have hy1 := numR_le rdfV hx1 (rd := rdV) (t := t) (st := x.2)
        have hy2 : ∃ n : Nat, (numR rdV t x.2).1 = (n : Int) := by
          unfold numR
          split
          · exact ⟨0, rfl⟩
          · have := (rdV_le (t.drop x.2.1)).2.1
            exact ⟨(rdV (t.drop x.2.1)).1.toNat, (Int.toNat_of_nonneg this).symm⟩
        refine call150 rdfV (ho2.adv.mono (by simp only [St.nx_adv]; omega)) hx1 ht fun s3 ho3 => ?_
        simp only [go_sem, ti3, ti113, ti9, ti5, ti4, ti35, ti48, ti77, ti183, hF]; refine hK _ _ ?_; clear hK K
        generalize numR rdV t x.2 = y at *
        obtain ⟨n, hn⟩ := hy2
        obtain ⟨y1, y2, y3⟩ := y
        simp only at hn hy1 ho3
        subst hn
        clear ho2 ho
        have hos := (ho3.own _ (List.mem_cons_self ..)).len ti77 rfl
        have o3 := ho3.at_ (r, RO t (y2, y3)) (by simp)
        simp only [RO] at hos o3
        have w1 : IntKind.i64.wrap ((m : Int) - (l.length : Int)) = ((m - l.length : Nat) : Int) := by rw [wi64]; omega
        refine Wc.seqR (fun y => y.ds = [] ∧ Fs y.e 50 [(0, .v (.c (.ref r 0))), (1, P' (pI m)), (5, .v (.c c5)), (6, P' (pI x.1)), (7, P' (pI n))] ∧ OA y.s.nx y.s ((1, .v (.c c5), l.length, l.map pI) :: L) (M1 ++ (r, RO t (y2, runB (m - l.length) (((n : Nat) : Int), (y2, y3)))) :: M2)) ?_ ?_
        · refine Wc.seq ?_
          by_cases hy0 : y3 = 0
          · subst hy0
            have d0 : ((0 : Int) == 0) = true := rfl
            by_cases hn0 : n = 0
            · subst hn0
              have e1 : runB (m - l.length) (((0 : Nat) : Int), (y2, 0)) = 12 := by unfold runB; rw [if_pos ⟨rfl, .inl rfl⟩]
              rw [e1]
              refine Wc.reg fun K hK => ?_; simp only [go_sem, ti3, ti113, ti9, ti5, ti4, ti35, ti48, ti77, ti183, hF, hos, o3, w1, d0, Int.natCast_zero]; refine hK _ _ ?_; clear hK K
              refine Wc.cond (t := true) (by simp only [go_sem, ti3, ti113, ti9, ti5, ti4, ti35, ti48, ti77, ti183, hF]) (fun _ => ?_) (fun hc => by cases hc)
              refine Wc.reg fun K hK => ?_; simp only [go_sem, ti3, ti113, ti9, ti5, ti4, ti35, ti48, ti77, ti183, hF, o3]; refine hK _ _ ?_; clear hK K
              exact ⟨rfl, by simp only [Fs, Int.natCast_zero, go_sem, ti3, ti113, ti9, ti5, ti4, ti35, ti48, ti77, ti183, hF], by simp only [St.nx_put, St.nx_adv]; first | ((repeat (first | exact OA.mono ho3 (by omega) | refine OA.advB ?_)); done) | ((repeat refine OA.advB ?_); refine OA.ofS ?_; repeat (first | exact ⟨_, OA.mono ho3 (by omega)⟩ | refine OAs.adv ?_ | refine OAs.put ?_))⟩
            · have d1 : ((n : Int) == 0) = false := by simpa using hn0
              refine Wc.reg fun K hK => ?_; simp only [go_sem, ti3, ti113, ti9, ti5, ti4, ti35, ti48, ti77, ti183, hF, hos, o3, w1, d0, d1]; refine hK _ _ ?_; clear hK K
              refine Wc.cond (t := decide (((m - l.length : Nat) : Int) < n)) (by simp only [go_sem, ti3, ti113, ti9, ti5, ti4, ti35, ti48, ti77, ti183, hF]) (fun hc => ?_) (fun hc => ?_)
              · have e1 : runB (m - l.length) ((n : Int), (y2, 0)) = 12 := by unfold runB; rw [if_pos ⟨rfl, .inr (of_decide_eq_true hc)⟩]
                rw [e1]
                refine Wc.reg fun K hK => ?_; simp only [go_sem, ti3, ti113, ti9, ti5, ti4, ti35, ti48, ti77, ti183, hF, o3]; refine hK _ _ ?_; clear hK K
                exact ⟨rfl, by simp only [Fs, Int.natCast_zero, go_sem, ti3, ti113, ti9, ti5, ti4, ti35, ti48, ti77, ti183, hF], by simp only [St.nx_put, St.nx_adv]; first | ((repeat (first | exact OA.mono ho3 (by omega) | refine OA.advB ?_)); done) | ((repeat refine OA.advB ?_); refine OA.ofS ?_; repeat (first | exact ⟨_, OA.mono ho3 (by omega)⟩ | refine OAs.adv ?_ | refine OAs.put ?_))⟩
              · have hc' := of_decide_eq_false hc
                have e1 : runB (m - l.length) ((n : Int), (y2, 0)) = 0 := by unfold runB; rw [if_neg]; rintro ⟨_, h | h⟩ <;> simp only at h <;> omega
                rw [e1]
                exact Wc.skip ⟨rfl, by simp only [Fs, Int.natCast_zero, go_sem, ti3, ti113, ti9, ti5, ti4, ti35, ti48, ti77, ti183, hF], by simp only [St.nx_put, St.nx_adv]; first | ((repeat (first | exact OA.mono ho3 (by omega) | refine OA.advB ?_)); done) | ((repeat refine OA.advB ?_); refine OA.ofS ?_; repeat (first | exact ⟨_, OA.mono ho3 (by omega)⟩ | refine OAs.adv ?_ | refine OAs.put ?_))⟩
          · have e1 : runB (m - l.length) ((n : Int), (y2, y3)) = y3 := by unfold runB; rw [if_neg]; rintro ⟨h, _⟩; exact hy0 h
            rw [e1]
            have d0 : (y3 == 0) = false := by simpa using hy0
            refine Wc.reg fun K hK => ?_; simp only [go_sem, ti3, ti113, ti9, ti5, ti4, ti35, ti48, ti77, ti183, hF, hos, o3, w1, d0]; refine hK _ _ ?_; clear hK K
            refine Wc.cond (t := false) (by simp only [go_sem, ti3, ti113, ti9, ti5, ti4, ti35, ti48, ti77, ti183, hF]) (fun hc => by cases hc) (fun _ => Wc.skip ?_)
            exact ⟨rfl, by simp only [Fs, Int.natCast_zero, go_sem, ti3, ti113, ti9, ti5, ti4, ti35, ti48, ti77, ti183, hF], by simp only [St.nx_put, St.nx_adv]; first | ((repeat (first | exact OA.mono ho3 (by omega) | refine OA.advB ?_)); done) | ((repeat refine OA.advB ?_); refine OA.ofS ?_; repeat (first | exact ⟨_, OA.mono ho3 (by omega)⟩ | refine OAs.adv ?_ | refine OAs.put ?_))⟩
        clear hF ho3 hos o3 e
        rintro ⟨e, ds, s4⟩ ⟨rfl, hF, ho4⟩
        simp only [Fs] at hF ho4
        have hrb : runB (m - l.length) ((n : Int), (y2, y3)) = 0 → y3 = 0 ∧ n ≠ 0 ∧ n ≤ m - l.length := fun h => by
          unfold runB at h
          split at h
          · cases h
          · rename_i h1
            simp only at h h1
            subst h
            simp only [true_and] at h1
            omega
        generalize hrbq : runB (m - l.length) ((n : Int), (y2, y3)) = rb at *
        have o4 := ho4.at_ (r, RO t (y2, rb)) (by simp)
        simp only [RO] at o4
        refine Wc.seq (Wc.seq ?_)
        refine Wc.reg fun K hK => ?_; simp only [go_sem, ti3, ti113, ti9, ti5, ti4, ti35, ti48, ti77, ti183, hF, o4]; refine hK _ _ ?_; clear hK K
        refine Wc.cond (t := (rb != 0)) (by simp only [go_sem, ti3, ti113, ti9, ti5, ti4, ti35, ti48, ti77, ti183, hF]) (fun hc => ?_) (fun hc => ?_)
        · have h0 : rb ≠ 0 := by simpa using hc
          rw [if_pos h0] at hTi
          simp only [if_pos h0] at hTi
          subst hTi
          refine Wc.seq ?_
          refine Wc.reg fun K hK => ?_; simp only [go_sem, ti3, ti113, ti9, ti5, ti4, ti35, ti48, ti77, ti183, hF]; refine hK _ _ ?_; clear hK K
          refine Wc.ret ?_
          refine (show bodyQ E0 Tryz.f151 K .ret _ from Op.ret [.tmp 4] [.c .nils] rfl rfl (by simp only [resultsD, go_sem, ti3, ti113, ti9, ti5, ti4, ti35, ti48, ti77, ti183, hF]) (hK _ .nils (show OA _ _ ((1, .v (.c .nils), 0, []) :: L) (M1 ++ (r, RO t (y2, rb)) :: M2) from OA.nil ?_)))
          exact OA.sub (L := (1, .v (.c c5), l.length, l.map pI) :: L) (by simp only [St.nx_put, St.nx_adv]; first | ((repeat (first | exact OA.mono ho4 (by omega) | refine OA.advB ?_)); done) | ((repeat refine OA.advB ?_); refine OA.ofS ?_; repeat (first | exact ⟨_, OA.mono ho4 (by omega)⟩ | refine OAs.adv ?_ | refine OAs.put ?_))) (List.sublist_cons_self _ _) (List.Sublist.refl _)
        · have h0 : rb = 0 := by simpa using hc
          obtain ⟨hy0, hn0, hnm⟩ := hrb h0
          subst h0 hy0
          rw [if_neg (show ¬ ((0 : Int) ≠ 0) by simp), Int.toNat_natCast] at hTi
          refine Wc.skip (Wc.seq ?_)
          refine Wc.reg fun K hK => ?_; simp only [go_sem, ti3, ti113, ti9, ti5, ti4, ti35, ti48, ti77, ti183, hF, Int.natCast_zero]; refine hK _ _ ?_; clear hK K
          refine Wc.block (Wc.loop (fun q y => ∃ (j : Nat) (c5 : C), q = n - j ∧ j ≤ n ∧ y.ds = [] ∧ Fs y.e 50 [(0, .v (.c (.ref r 0))), (1, P' (pI m)), (5, .v (.c c5)), (6, P' (pI x.1)), (41, P' (pI n)), (42, P' (pI j))] ∧ OA y.s.nx y.s ((1, .v (.c c5), (l ++ List.replicate j x.1).length, (l ++ List.replicate j x.1).map pI) :: L) (M1 ++ (r, RO t (y2, 0)) :: M2)) ?_ (k := n) ?_)
          · clear hF ho4 o4 e s4
            rintro q ⟨e, ds, s4⟩ ⟨j, c5, rfl, hj, rfl, hF, ho4⟩
            simp only [Fs] at hF ho4
            refine Wc.seq ?_
            refine Wc.reg fun K hK => ?_; simp only [go_sem, ti3, ti113, ti9, ti5, ti4, ti35, ti48, ti77, ti183, hF]; refine hK _ _ ?_; clear hK K
            refine Wc.seq (Wc.cond (t := decide ((j : Int) < n)) (by simp only [go_sem, ti3, ti113, ti9, ti5, ti4, ti35, ti48, ti77, ti183, hF]) (fun hc => ?_) (fun hc => ?_))
            · have hjl : j < n := by have : (j : Int) < n := by simpa using hc
                                     omega
              refine Wc.skip (Wc.seq (Wc.block ?_))
              refine Wc.reg fun K hK => ?_; simp only [go_sem, ti3, ti113, ti9, ti5, ti4, ti35, ti48, ti77, ti183, hF]
              refine OA.app (L1 := []) (L2 := L) (by_ := 8) (n := (l ++ List.replicate j x.1).length) (m := 1) (ys := [pI x.1]) (OA.put (ho4.adv.adv) (by omega)) (by omega) ⟨_, ti77, rfl⟩ ti3 rfl rfl rfl (by decide) (by decide) (by simp only [go_sem, ti3, ti113, ti9, ti5, ti4, ti35, ti48, ti77, ti183]) rfl (by simp; omega) fun b' s5 hb' hnx' => ?_
              obtain ⟨c5', rfl⟩ := (hb'.own _ (List.mem_cons_self ..)).v
              simp only [go_sem, ti3, ti113, ti9, ti5, ti4, ti35, ti48, ti77, ti183, hF]; refine hK _ _ ?_; clear hK K
              refine Wc.reg fun K hK => ?_; simp only [go_sem, ti3, ti113, ti9, ti5, ti4, ti35, ti48, ti77, ti183, hF, i64n j (by omega)]; refine hK _ _ ?_; clear hK K
              refine ⟨n - (j + 1), by omega, j + 1, c5', rfl, by omega, rfl, by simp only [Fs, Int.natCast_zero, go_sem, ti3, ti113, ti9, ti5, ti4, ti35, ti48, ti77, ti183, hF], ?_⟩
              have := (hb'.mono (b' := s5.nx + 2) (by simp only [St.nx_put, hnx', St.nx_adv]; omega)).adv (n := 2)
              have e5 : (l ++ List.replicate (j + 1) x.1) = (l ++ List.replicate j x.1) ++ [x.1] := by rw [List.replicate_succ', List.append_assoc]
              rw [e5, List.length_append (bs := [x.1]), List.map_append (l₂ := [x.1])]
              simpa only [List.nil_append, List.map_cons, List.map_nil, List.length_cons, List.length_nil, St.nx_adv, Nat.zero_add] using this
            · have hjl : j = n := by have : ¬ (j : Int) < n := by simpa using hc
                                     omega
              subst hjl
              have e6 : m - (l ++ List.replicate j x.1).length = m - l.length - j := by simp; omega
              refine Wc.exit ⟨m - (l ++ List.replicate j x.1).length, by omega, l ++ List.replicate j x.1, (y2, 0), c5, f', rfl, by simp; omega, by rw [e6]; omega, hy1, .inr rfl, rfl, by simp only [Fs, Int.natCast_zero, go_sem, ti3, ti113, ti9, ti5, ti4, ti35, ti48, ti77, ti183, hF], (ho4.mono (Nat.le_add_right _ _)).adv, ?_⟩
              rw [e6, hTi]
              generalize runsR t f' (m - l.length - j) (y2, 0) = U
              by_cases hU : U.2.2 ≠ 0
              · simp only [if_pos hU]
              · simp only [if_neg hU, List.append_assoc]
          · exact ⟨0, c5, rfl, by omega, rfl, by simp only [Fs, Int.natCast_zero, go_sem, ti3, ti113, ti9, ti5, ti4, ti35, ti48, ti77, ti183, hF], by simp only [List.replicate_zero, List.append_nil]; exact by simp only [St.nx_put, St.nx_adv]; repeat (first | exact OA.mono ho4 (by omega) | refine OA.newB ?_ (by omega) rfl | refine OA.advB ?_)⟩
      · have hlt : l.length = m := by have : ¬ (l.length : Int) < m := by simpa using hc
                                      omega
        rw [hlt, Nat.sub_self] at hTi
        have e0 : ∀ f, runsR t f 0 st' = ([], st') := fun f => by cases f <;> simp [runsR]
        rw [e0] at hTi
        simp only [List.append_nil] at hTi
        have hT2 : T = (l, st') := by
          rw [hTi]
          rcases hl0 with h | h
          · subst h; split <;> rfl
          · rw [if_neg (by simp [h])]
        rw [hT2]
        exact Wc.exit ⟨c5, rfl, by simp only [Fs, Int.natCast_zero, go_sem, ti3, ti113, ti9, ti5, ti4, ti35, ti48, ti77, ti183, hF], (ho.mono (Nat.le_add_right _ _)).adv⟩
    · refine ⟨[], st, .nils, m, by simp, by simp, by simp, hat, .inl rfl, rfl, by simp only [Fs, Int.natCast_zero, go_sem, ti3, ti113, ti9, ti5, ti4, ti35, ti48, ti77, ti183], OA.nil (by simp only [St.nx_put, St.nx_adv]; repeat (first | exact OA.mono h (by omega) | refine OA.newB ?_ (by omega) rfl | refine OA.advB ?_)), ?_⟩
      simp only [List.length_nil, Nat.sub_zero, hT, List.nil_append]
      split
      · rename_i h
        refine Prod.ext ?_ rfl
        rw [← hT] at h ⊢
        exact runsR_err t m m st h
      · rfl
  rintro ⟨e, ds, s1⟩ ⟨c5, rfl, hF, ho⟩
  simp only [Fs] at hF ho
  refine Wc.seq ?_
  refine Wc.reg fun K hK => ?_; simp only [go_sem, ti3, ti113, ti9, ti5, ti4, ti35, ti48, ti77, ti183, hF]; refine hK _ _ ?_; clear hK K
  exact Wc.ret (show bodyQ E0 Tryz.f151 K .ret _ from Op.ret [.tmp 4] [.c c5] rfl rfl (by simp only [resultsD, go_sem, ti3, ti113, ti9, ti5, ti4, ti35, ti48, ti77, ti183, hF]) (hK _ _ (ho.mono (Nat.le_add_right _ _)).adv))
end Go.Proofs.YtafaoldmemcigaaGreat.Ab
namespace Go.Proofs.YtafaoldmemcigaaGreat.Ab
set_option maxHeartbeats 8000000
set_option maxRecDepth 10000
set_option linter.unusedSimpArgs false
set_option linter.unusedVariables false
/-- A method of the reader that reads a column's numbers. -/
def RdM (r g : Nat) (t : List UInt8) (rd : Nat → RdT → List Int × RdT) : Prop := ∀ {s : St} {L : List (Nat × D × Nat × List Pd)} {M1 M2 : List (Nat × Ob)} {m : Nat} {st : RdT} {K : D → St → Prop}, OA s.nx s L (M1 ++ (r, RO t st) :: M2) → st.1 ≤ t.length → m ≤ 20000 →
    (∀ s' c, OA s'.nx s' L (M1 ++ (r, RO t (rd m st).2) :: M2) → purS c = some (.lst (rd m st).1.length ((rd m st).1.map pI)) → K (.v (.c c)) s') → wpCall E0 (.v (.c (.fn (.func g) [.ref r 0] []))) [.v (.c (.p (pI m)))] s K
theorem Own.purS {s : St} {es n : Nat} {c : C} {cs : List Pd} (h : Own s es (.v (.c c)) n cs) : Go.Proofs.YtafaoldmemcigaaGreat.Ab.purS c = some (.lst n cs) := by
  obtain ⟨hl, ⟨h1, h2⟩ | ⟨id, h1, _⟩⟩ := h
  · simp only [D.v.injEq, V.c.injEq] at h1
    subst h1 h2
    have : cs = [] := List.length_eq_zero_iff.1 (by simpa using hl)
    subst this; rfl
  · simp only [D.v.injEq, V.c.injEq] at h1
    subst h1; rfl
theorem purC_S {s : St} {c : C} {x : Pd} (h : purS c = some x) : purC s c = some (x, s) := by
  cases c <;> first | (simp only [purS] at h; cases h; rfl) | cases h
theorem purVs_cc {s : St} {c : C} {x y : Pd} (h : purS c = some y) : purVs s [.c (.p x), .c c] = some ([.c (.p x), .c (.p y)], s) := purVs_pc (purC_S h)
theorem purVs_c1 {s : St} {c : C} {y : Pd} (h : purS c = some y) : purVs s [.c c] = some ([.c (.p y)], s) := by simp only [purVs, purV, purC_S h]
/-- 138: values -/
theorem call138 {r : Nat} {t : List UInt8} (ht : t.length < 2^40) : RdM r 138 t (valuesR t) := by
  intro s L M1 M2 m st K h hat hm hK
  refine wpCall.val (fn := Tryz.f138) rfl (by kernel_rfl) rfl ?_; simp only [List.map_cons, List.map_nil, List.cons_append, List.nil_append, List.append_nil, List.length_cons, List.length_nil, Tryz.ntmps138, List.replicate, Nat.reduceSub, Nat.reduceAdd]
  refine Wc.seq ?_
  refine Wc.reg fun K hK => ?_; simp only [go_sem, ti3, ti113, ti9, ti5, ti4, ti35, ti48, ti77, ti183, ti105]; refine hK _ _ ?_; clear hK K
  refine Wc.seq (Wc.seq ?_)
  refine Wc.reg fun K hK => ?_; simp only [go_sem, ti3, ti113, ti9, ti5, ti4, ti35, ti48, ti77, ti183, ti105]; refine hK _ _ ?_; clear hK K
  refine Wc.cond (t := ((m : Int) == 0)) (by simp only [go_sem, ti3, ti113, ti9, ti5, ti4, ti35, ti48, ti77, ti183, ti105]) (fun hc => ?_) (fun hc => ?_)
  · have h0 : m = 0 := by have : (m : Int) = 0 := by simpa using hc
                          omega
    have e : valuesR t m st = ([], st) := by unfold valuesR; rw [if_pos h0]
    rw [e] at hK
    refine Wc.seq ?_
    refine Wc.reg fun K hK => ?_; simp only [go_sem, ti3, ti113, ti9, ti5, ti4, ti35, ti48, ti77, ti183, ti105]; refine hK _ _ ?_; clear hK K
    exact Wc.ret (show bodyQ E0 Tryz.f138 K .ret _ from Op.ret [.tmp 4] [.c .nils] rfl rfl (by simp only [resultsD, go_sem, ti3, ti113, ti9, ti5, ti4, ti35, ti48, ti77, ti183, ti105]) (hK _ _ (by simp only [St.nx_put, St.nx_adv]; repeat (first | exact OA.mono h (by omega) | refine OA.newB ?_ (by omega) rfl | refine OA.advB ?_)) rfl))
  · have h0 : ¬ m = 0 := by have : ¬ (m : Int) = 0 := by simpa using hc
                            omega
    have e : valuesR t m st = (sumsW (numR rdS t st).1 (runsR t (m - 1) (m - 1) (numR rdS t st).2).1, (runsR t (m - 1) (m - 1) (numR rdS t st).2).2) := by unfold valuesR; rw [if_neg h0]
    rw [e] at hK
    have hx1 := numR_le rdfS hat (rd := rdS) (t := t) (st := st)
    have w1 : IntKind.i64.wrap ((m : Int) - 1) = ((m - 1 : Nat) : Int) := by rw [wi64]; omega
    refine Wc.skip (Wc.seq ?_)
    refine Wc.reg fun K hK => ?_; simp only [go_sem, ti3, ti113, ti9, ti5, ti4, ti35, ti48, ti77, ti183, ti105]
    refine call150 rdfS (h.adv.adv.adv.mono (by simp only [St.nx_adv]; omega)) hat ht fun s2 ho2 => ?_
    simp only [go_sem, ti3, ti113, ti9, ti5, ti4, ti35, ti48, ti77, ti183, ti105]; refine hK _ _ ?_; clear hK K
    generalize numR rdS t st = x at *
    refine Wc.seq ?_
    refine Wc.reg fun K hK => ?_; simp only [go_sem, ti3, ti113, ti9, ti5, ti4, ti35, ti48, ti77, ti183, ti105, w1]
    refine call151 (ho2.adv.mono (by simp only [St.nx_adv]; omega)) hx1 ht (by omega) fun s3 c3 ho3 => ?_
    simp only [go_sem, ti3, ti113, ti9, ti5, ti4, ti35, ti48, ti77, ti183, ti105]; refine hK _ _ ?_; clear hK K
    have hlen := runsR_len t (m - 1) (m - 1) x.2
    have hpu := (ho3.own _ (List.mem_cons_self ..)).purS
    have hsub := ho3.sub (List.sublist_cons_self _ _) (List.Sublist.refl _)
    generalize runsR t (m - 1) (m - 1) x.2 = q at *
    refine Wc.seq ?_
    refine Wc.reg fun K hK => ?_; simp only [go_sem, ti3, ti113, ti9, ti5, ti4, ti35, ti48, ti77, ti183, ti105]
    refine wpCall.pf (pf152 x.1 q.1 (by omega)) (by kernel_rfl) (by kernel_rfl) rfl (purVs_cc hpu) ?_
    simp only [go_sem, ti3, ti113, ti9, ti5, ti4, ti35, ti48, ti77, ti183, ti105]; refine hK _ _ ?_; clear hK K
    exact Wc.ret (show bodyQ E0 Tryz.f138 K .ret _ from Op.ret [.tmp 4] [.c (.p (.lst (sumsW x.1 q.1).length ((sumsW x.1 q.1).map pI)))] rfl rfl (by simp only [resultsD, go_sem, ti3, ti113, ti9, ti5, ti4, ti35, ti48, ti77, ti183, ti105]) (hK _ _ (by simp only [St.nx_put, St.nx_adv]; repeat (first | exact OA.mono hsub (by omega) | refine OA.newB ?_ (by omega) rfl | refine OA.advB ?_)) rfl))
/-- 154: times -/
theorem call154 {r : Nat} {t : List UInt8} (ht : t.length < 2^40) : RdM r 154 t (timesR t) := by
  intro s L M1 M2 m st K h hat hm hK
  refine wpCall.val (fn := Tryz.f154) rfl (by kernel_rfl) rfl ?_; simp only [List.map_cons, List.map_nil, List.cons_append, List.nil_append, List.append_nil, List.length_cons, List.length_nil, Tryz.ntmps154, List.replicate, Nat.reduceSub, Nat.reduceAdd]
  refine Wc.seq ?_
  refine Wc.reg fun K hK => ?_; simp only [go_sem, ti3, ti113, ti9, ti5, ti4, ti35, ti48, ti77, ti183, ti105]; refine hK _ _ ?_; clear hK K
  refine Wc.seq (Wc.seq ?_)
  refine Wc.reg fun K hK => ?_; simp only [go_sem, ti3, ti113, ti9, ti5, ti4, ti35, ti48, ti77, ti183, ti105]; refine hK _ _ ?_; clear hK K
  refine Wc.cond (t := ((m : Int) == 0)) (by simp only [go_sem, ti3, ti113, ti9, ti5, ti4, ti35, ti48, ti77, ti183, ti105]) (fun hc => ?_) (fun hc => ?_)
  · have h0 : m = 0 := by have : (m : Int) = 0 := by simpa using hc
                          omega
    have e : timesR t m st = ([], st) := by unfold timesR; rw [if_pos h0]
    rw [e] at hK
    refine Wc.seq ?_
    refine Wc.reg fun K hK => ?_; simp only [go_sem, ti3, ti113, ti9, ti5, ti4, ti35, ti48, ti77, ti183, ti105]; refine hK _ _ ?_; clear hK K
    exact Wc.ret (show bodyQ E0 Tryz.f154 K .ret _ from Op.ret [.tmp 4] [.c .nils] rfl rfl (by simp only [resultsD, go_sem, ti3, ti113, ti9, ti5, ti4, ti35, ti48, ti77, ti183, ti105]) (hK _ _ (by simp only [St.nx_put, St.nx_adv]; repeat (first | exact OA.mono h (by omega) | refine OA.newB ?_ (by omega) rfl | refine OA.advB ?_)) rfl))
  have h0 : ¬ m = 0 := by have : ¬ (m : Int) = 0 := by simpa using hc
                          omega
  have hx1 := numR_le rdfS hat (rd := rdS) (t := t) (st := st)
  have e : timesR t m st = if m = 1 then ([(numR rdS t st).1], (numR rdS t st).2) else (sumsW (numR rdS t st).1 (sumsW (numR rdS t (numR rdS t st).2).1 (runsR t (m - 2) (m - 2) (numR rdS t (numR rdS t st).2).2).1), (runsR t (m - 2) (m - 2) (numR rdS t (numR rdS t st).2).2).2) := by unfold timesR; rw [if_neg h0]
  rw [e] at hK
  clear e
  refine Wc.skip (Wc.seq ?_)
  refine Wc.reg fun K hK => ?_; simp only [go_sem, ti3, ti113, ti9, ti5, ti4, ti35, ti48, ti77, ti183, ti105]
  refine call150 rdfS (h.adv.adv.adv.mono (by simp only [St.nx_adv]; omega)) hat ht fun s2 ho2 => ?_
  simp only [go_sem, ti3, ti113, ti9, ti5, ti4, ti35, ti48, ti77, ti183, ti105]; refine hK _ _ ?_; clear hK K
  generalize numR rdS t st = x at *
  refine Wc.seq (Wc.seq ?_)
  refine Wc.reg fun K hK => ?_; simp only [go_sem, ti3, ti113, ti9, ti5, ti4, ti35, ti48, ti77, ti183, ti105]; refine hK _ _ ?_; clear hK K
  refine Wc.cond (t := ((m : Int) == 1)) (by simp only [go_sem, ti3, ti113, ti9, ti5, ti4, ti35, ti48, ti77, ti183, ti105]) (fun hc => ?_) (fun hc => ?_)
  · have h1 : m = 1 := by have : (m : Int) = 1 := by simpa using hc
                          omega
    rw [if_pos h1] at hK
    refine Wc.seq ?_
    refine Wc.reg fun K hK => ?_; simp only [go_sem, ti3, ti113, ti9, ti5, ti4, ti35, ti48, ti77, ti183, ti105]; refine hK _ _ ?_; clear hK K
    exact Wc.ret (show bodyQ E0 Tryz.f154 K .ret _ from Op.ret [.tmp 4] [.c (.own 1 [pI x.1] (s2.nx + 2 + 1))] rfl rfl (by simp only [resultsD, go_sem, ti3, ti113, ti9, ti5, ti4, ti35, ti48, ti77, ti183, ti105]) (hK _ _ ((OA.put (ho2.adv.adv) (by omega)).mono (by simp only [St.nx_put, St.nx_adv]; omega)) rfl))
  have h1 : ¬ m = 1 := by have : ¬ (m : Int) = 1 := by simpa using hc
                          omega
  rw [if_neg h1] at hK
  have hx2 := numR_le rdfS hx1 (rd := rdS) (t := t) (st := x.2)
  have w1 : IntKind.i64.wrap ((m : Int) - 2) = ((m - 2 : Nat) : Int) := by rw [wi64]; omega
  refine Wc.skip (Wc.seq ?_)
  refine Wc.reg fun K hK => ?_; simp only [go_sem, ti3, ti113, ti9, ti5, ti4, ti35, ti48, ti77, ti183, ti105]
  refine call150 rdfS (ho2.adv.adv.mono (by simp only [St.nx_adv]; omega)) hx1 ht fun s3 ho3 => ?_
  simp only [go_sem, ti3, ti113, ti9, ti5, ti4, ti35, ti48, ti77, ti183, ti105]; refine hK _ _ ?_; clear hK K
  generalize numR rdS t x.2 = y at *
  refine Wc.seq ?_
  refine Wc.reg fun K hK => ?_; simp only [go_sem, ti3, ti113, ti9, ti5, ti4, ti35, ti48, ti77, ti183, ti105, w1]
  refine call151 (ho3.adv.mono (by simp only [St.nx_adv]; omega)) hx2 ht (by omega) fun s4 c4 ho4 => ?_
  simp only [go_sem, ti3, ti113, ti9, ti5, ti4, ti35, ti48, ti77, ti183, ti105]; refine hK _ _ ?_; clear hK K
  have hlen := runsR_len t (m - 2) (m - 2) y.2
  have hpu := (ho4.own _ (List.mem_cons_self ..)).purS
  have hsub := ho4.sub (List.sublist_cons_self _ _) (List.Sublist.refl _)
  generalize runsR t (m - 2) (m - 2) y.2 = q at *
  have hl2 := sumsW_len q.1 y.1
  refine Wc.seq ?_
  refine Wc.reg fun K hK => ?_; simp only [go_sem, ti3, ti113, ti9, ti5, ti4, ti35, ti48, ti77, ti183, ti105]
  refine wpCall.pf (pf152 y.1 q.1 (by omega)) (by kernel_rfl) (by kernel_rfl) rfl (purVs_cc hpu) ?_
  simp only [go_sem, ti3, ti113, ti9, ti5, ti4, ti35, ti48, ti77, ti183, ti105]
  refine wpCall.pf (pf152 x.1 (sumsW y.1 q.1) (by omega)) (by kernel_rfl) (by kernel_rfl) rfl rfl ?_
  simp only [go_sem, ti3, ti113, ti9, ti5, ti4, ti35, ti48, ti77, ti183, ti105]; refine hK _ _ ?_; clear hK K
  exact Wc.ret (show bodyQ E0 Tryz.f154 K .ret _ from Op.ret [.tmp 4] [.c (.p (.lst (sumsW x.1 (sumsW y.1 q.1)).length ((sumsW x.1 (sumsW y.1 q.1)).map pI)))] rfl rfl (by simp only [resultsD, go_sem, ti3, ti113, ti9, ti5, ti4, ti35, ti48, ti77, ti183, ti105]) (hK _ _ (by simp only [St.nx_put, St.nx_adv]; repeat (first | exact OA.mono hsub (by omega) | refine OA.newB ?_ (by omega) rfl | refine OA.advB ?_)) rfl))
theorem valuesR_len (t : List UInt8) (m : Nat) (st : RdT) : (valuesR t m st).1.length ≤ m := by
  unfold valuesR
  split
  · simp
  · simp only [sumsW_len]
    have := runsR_len t (m - 1) (m - 1) (numR rdS t st).2
    omega
theorem timesR_len (t : List UInt8) (m : Nat) (st : RdT) : (timesR t m st).1.length ≤ m := by
  unfold timesR
  split
  · simp
  · simp only
    split
    · simp; omega
    · simp only [sumsW_len]
      have := runsR_len t (m - 2) (m - 2) (numR rdS t (numR rdS t st).2).2
      omega
/-- 137: column, in its caller's state -/
theorem call137 {s : St} {L : List (Nat × D × Nat × List Pd)} {M1 M2 : List (Nat × Ob)} {r g ge : Nat} {t : List UInt8} {rd : Nat → RdT → List Int × RdT} {enc : List Int → List UInt8 × Int} {K : D → St → Prop} (h : OA s.nx s L (M1 ++ (r, RO t (0, 0)) :: M2)) (ht : t.length < 2^40)
    (hr : RdM r g t rd) (hrl : ∀ m st, (rd m st).1.length ≤ m) (he : ∀ l, l.length < 2^40 → Pf E0 ge [.c (.p (.lst l.length (l.map pI)))] (.tup [.c (.p (.str (enc l).1)), .c (.p (.int .i64 (enc l).2))])) (hxt : E0.xt ge = none) (hopn : E0.opn ge = false)
    (hK : ∀ s' c, purS c = some (.lst (colR rd enc t).1.length ((colR rd enc t).1.map pI)) → K (.tup [.c c, .c (.p (pI (colR rd enc t).2))]) s') : wpCall E0 (.v (.c (.p (.fnc 137)))) [.v (.c (.ref r 0)), .v (.c (.fn (.func g) [.ref r 0] [])), .v (.c (.p (.fnc ge)))] s K := by
  have ecol : colR rd enc t = (if 20000 < (numR rdV t (0, 0)).1 then ([], 4) else if (rd (numR rdV t (0, 0)).1.toNat (numR rdV t (0, 0)).2).2.2 ≠ 0 then ([], (rd (numR rdV t (0, 0)).1.toNat (numR rdV t (0, 0)).2).2.2) else if (rd (numR rdV t (0, 0)).1.toNat (numR rdV t (0, 0)).2).2.1 ≠ t.length then ([], 12) else
      if (enc (rd (numR rdV t (0, 0)).1.toNat (numR rdV t (0, 0)).2).1).2 = 0 ∧ (enc (rd (numR rdV t (0, 0)).1.toNat (numR rdV t (0, 0)).2).1).1 = t then ((rd (numR rdV t (0, 0)).1.toNat (numR rdV t (0, 0)).2).1, 0) else ([], 12)) := rfl
  rw [ecol] at hK
  clear ecol
  refine wpCall.opn (fn := Tryz.f137) (by kernel_rfl) (by kernel_rfl) rfl (by kernel_rfl) rfl ?_; simp only [List.map_cons, List.map_nil, List.cons_append, List.nil_append, List.length_cons, List.length_nil, Tryz.ntmps137, List.replicate, Nat.reduceSub, Nat.reduceAdd]
  refine Wc.seq ?_
  refine Wc.reg fun K hK => ?_; simp only [go_sem, ti3, ti113, ti9, ti5, ti4, ti35, ti48, ti77, ti183, ti105]; refine hK _ _ ?_; clear hK K
  refine Wc.seq ?_
  have hx1 := numR_le rdfV (Nat.zero_le t.length) (rd := rdV) (t := t) (st := (0, 0))
  have hy2 : ∃ n : Nat, (numR rdV t (0, 0)).1 = (n : Int) := by
    unfold numR
    split
    · exact ⟨0, rfl⟩
    · have := (rdV_le (t.drop 0)).2.1
      exact ⟨(rdV (t.drop 0)).1.toNat, (Int.toNat_of_nonneg this).symm⟩
  refine Wc.reg fun K hK => ?_; simp only [go_sem, ti3, ti113, ti9, ti5, ti4, ti35, ti48, ti77, ti183, ti105]
  refine call150 rdfV (h.adv.adv.mono (by simp only [St.nx_adv]; omega)) (Nat.zero_le _) ht fun s2 ho2 => ?_
  simp only [go_sem, ti3, ti113, ti9, ti5, ti4, ti35, ti48, ti77, ti183, ti105]; refine hK _ _ ?_; clear hK K
  generalize numR rdV t (0, 0) = x at *
  obtain ⟨n, hn⟩ := hy2
  obtain ⟨x1, x2⟩ := x
  simp only at hn hx1 ho2 hK
  subst hn
  simp only [Int.toNat_natCast] at hK
  refine Wc.seq (Wc.seq ?_)
  refine Wc.reg fun K hK => ?_; simp only [go_sem, ti3, ti113, ti9, ti5, ti4, ti35, ti48, ti77, ti183, ti105]; refine hK _ _ ?_; clear hK K
  refine Wc.cond (t := decide ((20000 : Int) < n)) (by simp only [go_sem, ti3, ti113, ti9, ti5, ti4, ti35, ti48, ti77, ti183, ti105]) (fun hc => ?_) (fun hc => ?_)
  · rw [if_pos (of_decide_eq_true hc)] at hK
    refine Wc.seq ?_
    refine Wc.reg fun K hK => ?_; simp only [go_sem, ti3, ti113, ti9, ti5, ti4, ti35, ti48, ti77, ti183, ti105]; refine hK _ _ ?_; clear hK K
    exact Wc.ret (show bodyQ E0 Tryz.f137 K .ret _ from Op.ret [.tmp 6, .tmp 7] [.c .nils, .c (.p (pI 4))] rfl rfl (by simp only [resultsD, go_sem, ti3, ti113, ti9, ti5, ti4, ti35, ti48, ti77, ti183, ti105]) (hK _ .nils rfl))
  have h20 := of_decide_eq_false hc
  rw [if_neg h20] at hK
  refine Wc.skip (Wc.seq ?_)
  refine Wc.reg fun K hK => ?_; simp only [go_sem, ti3, ti113, ti9, ti5, ti4, ti35, ti48, ti77, ti183, ti105]
  refine hr (ho2.adv.adv.mono (by simp only [St.nx_adv]; omega)) hx1 (by omega) fun s3 c3 ho3 hpu => ?_
  simp only [go_sem, ti3, ti113, ti9, ti5, ti4, ti35, ti48, ti77, ti183, ti105]; refine hK _ _ ?_; clear hK K
  have hql := hrl n x2
  generalize rd n x2 = q at *
  obtain ⟨l, p, er⟩ := q
  simp only at hK ho3 hpu hql
  have o3 := ho3.at_ (r, RO t (p, er)) (by simp)
  simp only [RO] at o3
  refine Wc.seq (Wc.seq ?_)
  refine Wc.reg fun K hK => ?_; simp only [go_sem, ti3, ti113, ti9, ti5, ti4, ti35, ti48, ti77, ti183, ti105, o3]; refine hK _ _ ?_; clear hK K
  refine Wc.cond (t := (er != 0)) (by simp only [go_sem, ti3, ti113, ti9, ti5, ti4, ti35, ti48, ti77, ti183, ti105]) (fun hc => ?_) (fun hc => ?_)
  · have h0 : er ≠ 0 := by simpa using hc
    rw [if_pos h0] at hK
    refine Wc.seq ?_
    refine Wc.regD fun K hK => ?_; simp only [go_sem, ti3, ti113, ti9, ti5, ti4, ti35, ti48, ti77, ti183, ti105, o3]; refine hK _ _ ?_; clear hK K
    exact Wc.ret (show bodyQ E0 Tryz.f137 K .ret _ from Op.ret [.tmp 6, .tmp 7] [.c .nils, .c (.p (pI er))] rfl rfl (by simp only [resultsD, go_sem, ti3, ti113, ti9, ti5, ti4, ti35, ti48, ti77, ti183, ti105]) (hK _ .nils rfl))
  have h0 : ¬ er ≠ 0 := by simpa using hc
  rw [if_neg h0] at hK
  refine Wc.skip (Wc.seq (Wc.seq ?_))
  refine Wc.regD fun K hK => ?_; simp only [go_sem, ti3, ti113, ti9, ti5, ti4, ti35, ti48, ti77, ti183, ti105, o3]; refine hK _ _ ?_; clear hK K
  refine Wc.cond (t := ((p : Int) != (t.length : Int))) (by simp only [go_sem, ti3, ti113, ti9, ti5, ti4, ti35, ti48, ti77, ti183, ti105]) (fun hc => ?_) (fun hc => ?_)
  · have h1 : p ≠ t.length := by have : ¬ (p : Int) = (t.length : Int) := by simpa using hc
                                 omega
    rw [if_pos h1] at hK
    refine Wc.seq ?_
    refine Wc.reg fun K hK => ?_; simp only [go_sem, ti3, ti113, ti9, ti5, ti4, ti35, ti48, ti77, ti183, ti105]; refine hK _ _ ?_; clear hK K
    exact Wc.ret (show bodyQ E0 Tryz.f137 K .ret _ from Op.ret [.tmp 6, .tmp 7] [.c .nils, .c (.p (pI 12))] rfl rfl (by simp only [resultsD, go_sem, ti3, ti113, ti9, ti5, ti4, ti35, ti48, ti77, ti183, ti105]) (hK _ .nils rfl))
  have h1 : ¬ p ≠ t.length := by have : (p : Int) = (t.length : Int) := by simpa using hc
                                 omega
  rw [if_neg h1] at hK
  refine Wc.skip (Wc.seq ?_)
  refine Wc.reg fun K hK => ?_; simp only [go_sem, ti3, ti113, ti9, ti5, ti4, ti35, ti48, ti77, ti183, ti105]
  refine wpCall.pf (he l (by omega)) hxt hopn rfl (purVs_c1 hpu) ?_
  simp only [go_sem, ti3, ti113, ti9, ti5, ti4, ti35, ti48, ti77, ti183, ti105]; refine hK _ _ ?_; clear hK K
  generalize enc l = w at *
  obtain ⟨w1, w2⟩ := w
  simp only at hK
  have fin : ∀ (b : Bool), (w2 = 0 ∧ w1 = t ↔ b = false) → (b = true → ∀ s', K (.tup [.c .nils, .c (.p (pI 12))]) s') ∧ (b = false → ∀ s', K (.tup [.c c3, .c (.p (pI 0))]) s') := fun b hb => by
    refine ⟨fun h s' => ?_, fun h s' => ?_⟩
    · rw [if_neg (by rw [hb, h]; decide)] at hK
      exact hK s' .nils rfl
    · rw [if_pos (hb.2 h)] at hK
      exact hK s' c3 hpu
  refine Wc.seqR (fun y => y.ds = [] ∧ Fs y.e 55 [(9, .v (.c c3))] ∧ (w2 = 0 ∧ w1 = t)) ?_ ?_
  · refine Wc.seq ?_
    by_cases hw : w2 = 0
    · have d0 : (w2 != 0) = false := by simpa using hw
      refine Wc.reg fun K hK => ?_; simp only [go_sem, ti3, ti113, ti9, ti5, ti4, ti35, ti48, ti77, ti183, ti105, o3, d0]; refine hK _ _ ?_; clear hK K
      refine Wc.cond (t := !(w1 == t)) (by simp only [go_sem, ti3, ti113, ti9, ti5, ti4, ti35, ti48, ti77, ti183, ti105]) (fun hc => ?_) (fun hc => ?_)
      · refine Wc.seq ?_
        refine Wc.reg fun K hK => ?_; simp only [go_sem, ti3, ti113, ti9, ti5, ti4, ti35, ti48, ti77, ti183, ti105]; refine hK _ _ ?_; clear hK K
        exact Wc.ret (show bodyQ E0 Tryz.f137 K .ret _ from Op.ret [.tmp 6, .tmp 7] [.c .nils, .c (.p (pI 12))] rfl rfl (by simp only [resultsD, go_sem, ti3, ti113, ti9, ti5, ti4, ti35, ti48, ti77, ti183, ti105]) ((fin _ (by simp [hw])).1 hc _))
      · exact Wc.skip ⟨rfl, by simp only [Fs, Int.natCast_zero, go_sem, ti3, ti113, ti9, ti5, ti4, ti35, ti48, ti77, ti183, ti105], hw, by simpa using hc⟩
    · have d0 : (w2 != 0) = true := by simpa using hw
      refine Wc.reg fun K hK => ?_; simp only [go_sem, ti3, ti113, ti9, ti5, ti4, ti35, ti48, ti77, ti183, ti105, o3, d0]; refine hK _ _ ?_; clear hK K
      refine Wc.cond (t := true) (by simp only [go_sem, ti3, ti113, ti9, ti5, ti4, ti35, ti48, ti77, ti183, ti105]) (fun hc => ?_) (fun hc => by cases hc)
      refine Wc.seq ?_
      refine Wc.reg fun K hK => ?_; simp only [go_sem, ti3, ti113, ti9, ti5, ti4, ti35, ti48, ti77, ti183, ti105]; refine hK _ _ ?_; clear hK K
      exact Wc.ret (show bodyQ E0 Tryz.f137 K .ret _ from Op.ret [.tmp 6, .tmp 7] [.c .nils, .c (.p (pI 12))] rfl rfl (by simp only [resultsD, go_sem, ti3, ti113, ti9, ti5, ti4, ti35, ti48, ti77, ti183, ti105]) ((fin true (by simp [hw])).1 rfl _))
  rintro ⟨e, ds, s5⟩ ⟨rfl, hF, hw⟩
  simp only [Fs] at hF
  refine Wc.seq ?_
  refine Wc.reg fun K hK => ?_; simp only [go_sem, ti3, ti113, ti9, ti5, ti4, ti35, ti48, ti77, ti183, ti105, hF]; refine hK _ _ ?_; clear hK K
  exact Wc.ret (show bodyQ E0 Tryz.f137 K .ret _ from Op.ret [.tmp 6, .tmp 7] [.c c3, .c (.p (pI 0))] rfl rfl (by simp only [resultsD, go_sem, ti3, ti113, ti9, ti5, ti4, ti35, ti48, ti77, ti183, ti105, hF]) ((fin false (by simp [hw])).2 rfl _))
/-- 140: DecodeTimes -/
theorem pf140 (t : List UInt8) (ht : t.length < 2^40) : Pf E0 140 [.c (.p (.str t))] (.tup [.c (.p (.lst (decT t).1.length ((decT t).1.map pI))), .c (.p (.int .i64 (decT t).2))]) := by
  refine Pf.body (fn := Tryz.f140) (by kernel_rfl) rfl ?_; simp only [List.map_cons, List.map_nil, List.cons_append, List.nil_append, List.length_cons, List.length_nil, Tryz.ntmps140, List.replicate, Nat.reduceSub, Nat.reduceAdd]
  refine Wc.seq ?_
  refine Wc.reg fun K hK => ?_; simp only [go_sem, ti3, ti113, ti9, ti5, ti4, ti35, ti48, ti77, ti183, ti105]; refine hK _ _ ?_; clear hK K
  refine Wc.seqA (fun y => ∃ k, y.ds = [] ∧ Fs y.e 14 [(4, .v (.c (.ref k 0)))] ∧ OA y.s.nx y.s [] ([] ++ (k, RO t (0, 0)) :: [])) ?_ ?_
  · refine Wc.reg fun K hK => ?_; simp only [go_sem, ti3, ti113, ti9, ti5, ti4, ti35, ti48, ti77, ti183, ti105]; refine hK _ _ ?_; clear hK K
    exact ⟨rfl, 4, rfl, by simp only [Fs, Int.natCast_zero, go_sem, ti3, ti113, ti9, ti5, ti4, ti35, ti48, ti77, ti183, ti105], by simp only [St.nx_put, St.nx_adv]; repeat (first | exact OA.mono s00_oa (by omega) | refine OA.newB ?_ (by omega) rfl | refine OA.advB ?_)⟩
  rintro ⟨e, ds, s1⟩ ⟨k, rfl, hF, ho⟩
  simp only [Fs] at hF ho
  refine Wc.seq ?_
  refine Wc.reg fun K hK => ?_; simp only [go_sem, ti3, ti113, ti9, ti5, ti4, ti35, ti48, ti77, ti183, ti105, hF]
  refine call137 (ho.adv.mono (by simp only [St.nx_adv]; omega)) ht (call154 ht) (timesR_len t) (fun l hl => pf106 l hl) (by kernel_rfl) (by kernel_rfl) fun s2 c hpu => ?_
  simp only [go_sem, ti3, ti113, ti9, ti5, ti4, ti35, ti48, ti77, ti183, ti105, hF]; refine hK _ _ ?_; clear hK K
  exact Wc.ret (Pf.ret [.tmp 2, .tmp 3] [.c c, .c (.p (pI (decT t).2))] rfl rfl (by simp only [resultsD, go_sem, ti3, ti113, ti9, ti5, ti4, ti35, ti48, ti77, ti183, ti105, hF]; rfl) (purD_cb (purVs_c1 hpu)))
/-- 119: DecodeValues -/
theorem pf119 (t : List UInt8) (ht : t.length < 2^40) : Pf E0 119 [.c (.p (.str t))] (.tup [.c (.p (.lst (decV t).1.length ((decV t).1.map pI))), .c (.p (.int .i64 (decV t).2))]) := by
  refine Pf.body (fn := Tryz.f119) (by kernel_rfl) rfl ?_; simp only [List.map_cons, List.map_nil, List.cons_append, List.nil_append, List.length_cons, List.length_nil, Tryz.ntmps119, List.replicate, Nat.reduceSub, Nat.reduceAdd]
  refine Wc.seq ?_
  refine Wc.reg fun K hK => ?_; simp only [go_sem, ti3, ti113, ti9, ti5, ti4, ti35, ti48, ti77, ti183, ti105]; refine hK _ _ ?_; clear hK K
  refine Wc.seqA (fun y => ∃ k, y.ds = [] ∧ Fs y.e 14 [(4, .v (.c (.ref k 0)))] ∧ OA y.s.nx y.s [] ([] ++ (k, RO t (0, 0)) :: [])) ?_ ?_
  · refine Wc.reg fun K hK => ?_; simp only [go_sem, ti3, ti113, ti9, ti5, ti4, ti35, ti48, ti77, ti183, ti105]; refine hK _ _ ?_; clear hK K
    exact ⟨rfl, 4, rfl, by simp only [Fs, Int.natCast_zero, go_sem, ti3, ti113, ti9, ti5, ti4, ti35, ti48, ti77, ti183, ti105], by simp only [St.nx_put, St.nx_adv]; repeat (first | exact OA.mono s00_oa (by omega) | refine OA.newB ?_ (by omega) rfl | refine OA.advB ?_)⟩
  rintro ⟨e, ds, s1⟩ ⟨k, rfl, hF, ho⟩
  simp only [Fs] at hF ho
  refine Wc.seq ?_
  refine Wc.reg fun K hK => ?_; simp only [go_sem, ti3, ti113, ti9, ti5, ti4, ti35, ti48, ti77, ti183, ti105, hF]
  refine call137 (ho.adv.mono (by simp only [St.nx_adv]; omega)) ht (call138 ht) (valuesR_len t) (fun l hl => pf50 l hl) (by kernel_rfl) (by kernel_rfl) fun s2 c hpu => ?_
  simp only [go_sem, ti3, ti113, ti9, ti5, ti4, ti35, ti48, ti77, ti183, ti105, hF]; refine hK _ _ ?_; clear hK K
  exact Wc.ret (Pf.ret [.tmp 2, .tmp 3] [.c c, .c (.p (pI (decV t).2))] rfl rfl (by simp only [resultsD, go_sem, ti3, ti113, ti9, ti5, ti4, ti35, ti48, ti77, ti183, ti105, hF]; rfl) (purD_cb (purVs_c1 hpu)))
/-- 122: form.decode -/
theorem pf122 (f : Int) (t : List UInt8) (ht : t.length < 2^40) : Pf E0 122 [.c (.p (pI f)), .c (.p (.str t))] (.tup [.c (.p (.lst (decF f t).1.length ((decF f t).1.map pI))), .c (.p (.int .i64 (decF f t).2))]) := by
  refine Pf.body (fn := Tryz.f122) (by kernel_rfl) rfl ?_; simp only [List.map_cons, List.map_nil, List.cons_append, List.nil_append, List.length_cons, List.length_nil, Tryz.ntmps122, List.replicate, Nat.reduceSub, Nat.reduceAdd]
  refine Wc.seq ?_
  refine Wc.reg fun K hK => ?_; simp only [go_sem, ti3, ti113, ti9, ti5, ti4, ti35, ti48, ti77, ti183, ti105]; refine hK _ _ ?_; clear hK K
  refine Wc.seq (Wc.seq ?_)
  refine Wc.reg fun K hK => ?_; simp only [go_sem, ti3, ti113, ti9, ti5, ti4, ti35, ti48, ti77, ti183, ti105]; refine hK _ _ ?_; clear hK K
  refine Wc.block (Wc.seq ?_)
  refine Wc.reg fun K hK => ?_; simp only [go_sem, ti3, ti113, ti9, ti5, ti4, ti35, ti48, ti77, ti183, ti105]; refine hK _ _ ?_; clear hK K
  refine Wc.cond (t := (f == 0)) (by simp only [go_sem, ti3, ti113, ti9, ti5, ti4, ti35, ti48, ti77, ti183, ti105]) (fun hc => ?_) (fun hc => ?_)
  · have e : decF f t = decT t := by unfold decF; rw [if_pos (by simpa using hc)]
    rw [e]
    refine Wc.seq ?_
    refine Wc.reg fun K hK => ?_; simp only [go_sem, ti3, ti113, ti9, ti5, ti4, ti35, ti48, ti77, ti183, ti105]
    refine wpCall.pf (pf140 t ht) (by kernel_rfl) (by kernel_rfl) rfl rfl ?_
    simp only [go_sem, ti3, ti113, ti9, ti5, ti4, ti35, ti48, ti77, ti183, ti105]; refine hK _ _ ?_; clear hK K
    exact Wc.ret (Pf.ret [.tmp 4, .tmp 5] [.c (.p (.lst (decT t).1.length ((decT t).1.map pI))), .c (.p (.int .i64 (decT t).2))] rfl rfl (by simp only [resultsD, go_sem, ti3, ti113, ti9, ti5, ti4, ti35, ti48, ti77, ti183, ti105]) rfl)
  · have h0 : ¬ f = 0 := by simpa using hc
    refine Wc.seq ?_
    refine Wc.reg fun K hK => ?_; simp only [go_sem, ti3, ti113, ti9, ti5, ti4, ti35, ti48, ti77, ti183, ti105]; refine hK _ _ ?_; clear hK K
    refine Wc.cond (t := (f == 1)) (by simp only [go_sem, ti3, ti113, ti9, ti5, ti4, ti35, ti48, ti77, ti183, ti105]) (fun hc => ?_) (fun hc => ?_)
    · have e : decF f t = decV t := by unfold decF; rw [if_neg h0, if_pos (by simpa using hc)]
      rw [e]
      refine Wc.seq ?_
      refine Wc.reg fun K hK => ?_; simp only [go_sem, ti3, ti113, ti9, ti5, ti4, ti35, ti48, ti77, ti183, ti105]
      refine wpCall.pf (pf119 t ht) (by kernel_rfl) (by kernel_rfl) rfl rfl ?_
      simp only [go_sem, ti3, ti113, ti9, ti5, ti4, ti35, ti48, ti77, ti183, ti105]; refine hK _ _ ?_; clear hK K
      exact Wc.ret (Pf.ret [.tmp 4, .tmp 5] [.c (.p (.lst (decV t).1.length ((decV t).1.map pI))), .c (.p (.int .i64 (decV t).2))] rfl rfl (by simp only [resultsD, go_sem, ti3, ti113, ti9, ti5, ti4, ti35, ti48, ti77, ti183, ti105]) rfl)
    · have h1 : ¬ f = 1 := by simpa using hc
      have e : decF f t = decI t := by unfold decF; rw [if_neg h0, if_neg h1]
      rw [e]
      refine Wc.skip (Wc.seq ?_)
      refine Wc.reg fun K hK => ?_; simp only [go_sem, ti3, ti113, ti9, ti5, ti4, ti35, ti48, ti77, ti183, ti105]
      refine wpCall.pf (pf121 t ht) (by kernel_rfl) (by kernel_rfl) rfl rfl ?_
      simp only [go_sem, ti3, ti113, ti9, ti5, ti4, ti35, ti48, ti77, ti183, ti105]; refine hK _ _ ?_; clear hK K
      exact Wc.ret (Pf.ret [.tmp 4, .tmp 5] [.c (.p (.lst (decI t).1.length ((decI t).1.map pI))), .c (.p (.int .i64 (decI t).2))] rfl rfl (by simp only [resultsD, go_sem, ti3, ti113, ti9, ti5, ti4, ti35, ti48, ti77, ti183, ti105]) rfl)
end Go.Proofs.YtafaoldmemcigaaGreat.Ab
