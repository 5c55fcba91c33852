/- A part of the proof: an evaluator of the code, its contracts, the law. No condition. -/
import Derived.Test.YtafaoldmemcigaaGreatT17
namespace Go.Proofs.YtafaoldmemcigaaGreat.Ab
set_option maxHeartbeats 4000000
set_option maxRecDepth 10000
set_option linter.unusedSimpArgs false
set_option linter.unusedVariables false
/-- Some bytes and the parts with these strings; none: they are too long. -/
def jn (t : List UInt8) : List (List UInt8) → Option (List UInt8)
  | [] => some t
  | s :: r => if 262144 < (t ++ vb s.length ++ s).length then none else jn (t ++ vb s.length ++ s) r
/-- 62: join -/
theorem pf62 (t : List UInt8) (ss : List (List UInt8)) (ht : t.length ≤ 262144) (hs : ∀ s ∈ ss, s.length ≤ 35184372088832) (hl : ss.length < 2^40) :
    Pf E0 62 [.c (.p (.str t)), .c (.p (.lst ss.length (ss.map .str)))] (.tup [.c (.p (.str ((jn t ss).getD []))), .c (.p (.bool (jn t ss).isSome))]) := by
  refine Pf.body (fn := Tryz.f62) (by kernel_rfl) rfl ?_; simp only [List.map_cons, List.map_nil, List.cons_append, List.nil_append, List.length_cons, List.length_nil, Tryz.ntmps62, List.replicate, Nat.reduceSub, Nat.reduceAdd]
  refine Wc.seq ?_
  refine Wc.reg fun K hK => ?_; simp only [go_sem, ti3, ti9, ti77, ti4, ti35, ti150, ti48]; refine hK _ _ ?_; clear hK K
  refine Wc.seq ?_
  refine Wc.reg fun K hK => ?_; simp only [go_sem, ti3, ti9, ti77, ti4, ti35, ti150, ti48]; refine hK _ _ ?_; clear hK K
  have hb0 : BSt 2 [] (((({ ob := [], nx := 0 } : St).adv 2).adv 1).put 2 (.tc 150 [.p .nilp, .nils])) [] := ⟨.p .nilp, .nils, BSt.new (b := 0) (s00_oa.adv.adv) (by omega) (by simp only [St.nx_put, St.nx_adv]; omega), rfl, .inl rfl⟩
  refine Wc.seq ?_
  refine Wc.reg fun K hK => ?_; simp only [go_sem, ti3, ti9, ti77, ti4, ti35, ti150, ti48]
  refine BSt.w (hb0.adv 2) (by simp; omega) fun s1 hB hnx => ?_
  clear hb0 hnx
  rw [List.nil_append] at hB
  simp only [go_sem, ti3, ti9, ti77, ti4, ti35, ti150, ti48]; refine hK _ _ ?_; clear hK K
  refine Wc.seq (Wc.seq ?_)
  refine Wc.reg fun K hK => ?_; simp only [go_sem, ti3, ti9, ti77, ti4, ti35, ti150, ti48, Int.natCast_zero]; refine hK _ _ ?_; clear hK K
  refine Wc.block (Wc.loop (fun k y => ∃ (i : Nat) (u : List UInt8), k = ss.length - i ∧ i ≤ ss.length ∧ y.ds = [] ∧ y.e.length = 33 ∧ y.e.getD 13 .junk = P' (.lst ss.length (ss.map .str)) ∧ y.e.getD 14 .junk = P' (pI ss.length) ∧ y.e.getD 15 .junk = P' (pI i) ∧ y.e.getD 6 .junk = .v (.c (.ref 2 0)) ∧ BSt 2 u y.s [] ∧ u.length ≤ 262144 ∧ jn t ss = jn u (ss.drop i)) ?_ (k := ss.length) ?_)
  · clear hB s1
    rintro k ⟨e, ds, s1⟩ ⟨i, u, rfl, hi, rfl, hlen, h13, h14, h15, h6, hB, hul, hj⟩
    simp only at hlen h13 h14 h15 h6 hB
    refine Wc.seq ?_
    refine Wc.reg fun K hK => ?_; simp only [go_sem, ti3, ti9, ti77, ti4, ti35, ti150, ti48, hlen, h13, h14, h15, h6]; refine hK _ _ ?_; clear hK K
    refine Wc.seq (Wc.cond (t := decide ((i : Int) < ss.length)) (by simp only [go_sem, ti3, ti9, ti77, ti4, ti35, ti150, ti48, hlen]) (fun hc => ?_) (fun hc => ?_))
    · have hil : i < ss.length := by have : (i : Int) < ss.length := by simpa using hc
                                     omega
      obtain ⟨x, hx⟩ : ∃ x, ss[i]? = some x := ⟨ss[i], List.getElem?_eq_getElem hil⟩
      have hxl := hs x (List.mem_of_getElem? hx)
      have hix := ixA ti48 rfl ti9 (j := i) (m := ss.length) (cs := ss.map .str) hil (by simp) (by decide)
      have hca := rpA (off := i) (drop_map Pd.str hx) (by simp; omega)
      have ea : appV [] (x.length : Int) = (vb x.length, 0) := by unfold appV; rw [if_neg (by omega), Int.toNat_natCast]; rfl
      have hz := vb_len10 (n := x.length) (by omega)
      have hd : jn u (ss.drop i) = if 262144 < (u ++ vb x.length ++ x).length then none else jn (u ++ vb x.length ++ x) (ss.drop (i + 1)) := by
        rw [List.drop_eq_getElem_cons hil, (List.getElem?_eq_some_iff.1 hx).2]; rfl
      rw [hd] at hj
      refine Wc.skip (Wc.seq (Wc.block (Wc.seq ?_)))
      refine Wc.reg fun K hK => ?_; simp only [go_sem, ti3, ti9, ti77, ti4, ti35, ti150, ti48, hlen, h13, h14, h15, h6, hix, hca]; refine hK _ _ ?_; clear hK K
      refine Wc.seq ?_
      refine Wc.reg fun K hK => ?_; simp only [go_sem, ti3, ti9, ti77, ti4, ti35, ti150, ti48, hlen, h13, h14, h15, h6]
      refine wpCall.pf (pf26 [] (x.length : Int) (by simp)) (by kernel_rfl) (by kernel_rfl) rfl rfl ?_
      simp only [go_sem, ti3, ti9, ti77, ti4, ti35, ti150, ti48, hlen, h13, h14, h15, h6, ea]; refine hK _ _ ?_; clear hK K
      refine Wc.seq ?_
      refine Wc.reg fun K hK => ?_; simp only [go_sem, ti3, ti9, ti77, ti4, ti35, ti150, ti48, hlen, h13, h14, h15, h6]
      refine BSt.w ((((hB.adv 1).adv 3).adv 8).adv 2) (by omega) fun s2 hB2 hnx => ?_
      simp only [go_sem, ti3, ti9, ti77, ti4, ti35, ti150, ti48, hlen, h13, h14, h15, h6]; refine hK _ _ ?_; clear hK K
      refine Wc.seq ?_
      refine Wc.reg fun K hK => ?_; simp only [go_sem, ti3, ti9, ti77, ti4, ti35, ti150, ti48, hlen, h13, h14, h15, h6]
      refine BSt.w (hB2.adv 2) (by simp only [List.length_append]; omega) fun s3 hB3 hnx => ?_
      simp only [go_sem, ti3, ti9, ti77, ti4, ti35, ti150, ti48, hlen, h13, h14, h15, h6]; refine hK _ _ ?_; clear hK K
      refine Wc.seq ?_
      refine Wc.reg fun K hK => ?_; simp only [go_sem, ti3, ti9, ti77, ti4, ti35, ti150, ti48, hlen, h13, h14, h15, h6]
      refine BSt.len (hB3.adv 2) fun m => ?_
      simp only [go_sem, ti3, ti9, ti77, ti4, ti35, ti150, ti48, hlen, h13, h14, h15, h6]; refine hK _ _ ?_; clear hK K
      refine Wc.cond (t := decide ((262144 : Int) < (u ++ vb x.length ++ x).length)) (by simp only [go_sem, ti3, ti9, ti77, ti4, ti35, ti150, ti48, hlen]) (fun hc => ?_) (fun hc => ?_)
      · have hbig : 262144 < (u ++ vb x.length ++ x).length := by
          have : (262144 : Int) < (u ++ vb x.length ++ x).length := of_decide_eq_true hc
          omega
        rw [if_pos hbig] at hj
        refine Wc.seq ?_
        refine Wc.reg fun K hK => ?_; simp only [go_sem, ti3, ti9, ti77, ti4, ti35, ti150, ti48, hlen]; refine hK _ _ ?_; clear hK K
        rw [hj]
        exact Wc.ret (Pf.ret [.tmp 4, .tmp 5] [.c (.p (.str [])), .c (.p (.bool false))] rfl rfl (by simp only [resultsD, go_sem, ti3, ti9, ti77, ti4, ti35, ti150, ti48, hlen]) rfl)
      · have hbig : ¬ 262144 < (u ++ vb x.length ++ x).length := by
          have : ¬ (262144 : Int) < (u ++ vb x.length ++ x).length := of_decide_eq_false hc
          omega
        rw [if_neg hbig] at hj
        refine Wc.skip ?_
        refine Wc.reg fun K hK => ?_; simp only [go_sem, ti3, ti9, ti77, ti4, ti35, ti150, ti48, hlen, h13, h14, h15, h6, i64n i (by omega)]; refine hK _ _ ?_; clear hK K
        exact ⟨ss.length - (i + 1), by omega, i + 1, _, rfl, by omega, rfl, by simp only [go_sem, ti3, ti9, ti77, ti4, ti35, ti150, ti48, hlen], by simp only [go_sem, ti3, ti9, ti77, ti4, ti35, ti150, ti48, hlen, h13], by simp only [go_sem, ti3, ti9, ti77, ti4, ti35, ti150, ti48, hlen, h14], by simp only [go_sem, ti3, ti9, ti77, ti4, ti35, ti150, ti48, hlen], by simp only [go_sem, ti3, ti9, ti77, ti4, ti35, ti150, ti48, hlen, h6], ((hB3.adv 2).adv m).adv 2, by omega, hj⟩
    · have hil : i = ss.length := by have : ¬ (i : Int) < ss.length := by simpa using hc
                                     omega
      subst hil
      rw [List.drop_length] at hj
      refine Wc.exit (Wc.seq ?_)
      refine Wc.reg fun K hK => ?_; simp only [go_sem, ti3, ti9, ti77, ti4, ti35, ti150, ti48, hlen, h13, h14, h15, h6]
      refine BSt.str ((hB.adv 1).adv 3) ?_
      simp only [go_sem, ti3, ti9, ti77, ti4, ti35, ti150, ti48, hlen, h13, h14, h15, h6]; refine hK _ _ ?_; clear hK K
      rw [hj]
      exact Wc.ret (Pf.ret [.tmp 4, .tmp 5] [.c (.p (.str u)), .c (.p (.bool true))] rfl rfl (by simp only [resultsD, go_sem, ti3, ti9, ti77, ti4, ti35, ti150, ti48, hlen]) rfl)
  · exact ⟨0, t, rfl, by omega, rfl, rfl, rfl, rfl, rfl, rfl, hB.adv 3, ht, by simp⟩
end Go.Proofs.YtafaoldmemcigaaGreat.Ab
namespace Go.Proofs.YtafaoldmemcigaaGreat.Ab
set_option maxHeartbeats 4000000
set_option maxRecDepth 10000
set_option linter.unusedSimpArgs false
set_option linter.unusedVariables false
/-- A chunk out of what it consists of. -/
def finE (sig : Int) (lab : Pd) (z : List Pd) (o : Option (List UInt8)) : D := match o with
  | none => .tup [noCh, .c (.p (pI 4))]
  | some d => .tup [chV sig lab z d, .c (.p (pI 0))]
/-- 27: finish -/
theorem pf27 (sig : Int) (n : Nat) (cs : List Pd) (z0 z1 z2 z3 z4 z5 z6 z7 z8 z9 z10 z11 z12 : Pd) (t : List UInt8) (ss : List (List UInt8)) (ht : t.length ≤ 262144) (hs : ∀ s ∈ ss, s.length ≤ 35184372088832) (hl : ss.length < 2^40) :
    Pf E0 27 [.c (.p (pI sig)), .c (.p (.lst n cs)), .agg [.p z0, .p z1, .p z2, .p z3, .p z4, .p z5, .p z6, .p z7, .p z8, .p z9, .p z10, .p z11, .p z12], .c (.p (.str t)), .c (.p (.lst ss.length (ss.map .str)))] (finE sig (.lst n cs) [z0, z1, z2, z3, z4, z5, z6, z7, z8, z9, z10, z11, z12] (jn t ss)) := by
  refine Pf.body (fn := Tryz.f27) (by kernel_rfl) rfl ?_; simp only [List.map_cons, List.map_nil, List.cons_append, List.nil_append, List.length_cons, List.length_nil, Tryz.ntmps27, List.replicate, Nat.reduceSub, Nat.reduceAdd]
  refine Wc.seq ?_
  refine Wc.reg fun K hK => ?_; simp only [go_sem, ti3, ti9, ti77, ti4, ti35, ti75, ti34, ti32, ti22, ti48]; refine hK _ _ ?_; clear hK K
  refine Wc.seq ?_
  refine Wc.reg fun K hK => ?_; simp only [go_sem, ti3, ti9, ti77, ti4, ti35, ti75, ti34, ti32, ti22, ti48]
  refine wpCall.pf (pf62 t ss ht hs hl) (by kernel_rfl) (by kernel_rfl) rfl rfl ?_
  simp only [go_sem, ti3, ti9, ti77, ti4, ti35, ti75, ti34, ti32, ti22, ti48]; refine hK _ _ ?_; clear hK K
  refine Wc.seq (Wc.seq ?_)
  refine Wc.reg fun K hK => ?_; simp only [go_sem, ti3, ti9, ti77, ti4, ti35, ti75, ti34, ti32, ti22, ti48]; refine hK _ _ ?_; clear hK K
  cases hj : jn t ss with
  | none =>
    refine Wc.cond (t := true) (by simp only [go_sem, ti3, ti9, ti77, ti4, ti35, ti75, ti34, ti32, ti22, ti48, Option.isSome]) (fun hc => ?_) (fun hc => by cases hc)
    refine Wc.seq ?_
    refine Wc.reg fun K hK => ?_; simp only [go_sem, ti3, ti9, ti77, ti4, ti35, ti75, ti34, ti32, ti22, ti48]; refine hK _ _ ?_; clear hK K
    exact Wc.ret (Pf.ret [.cell 10 34, .tmp 11] [.agg ([.p (pI 0), .nils] ++ zz0.map .p ++ [.p (.str [])]), .c (.p (pI 4))] rfl rfl (by simp only [resultsD, go_sem, ti3, ti9, ti77, ti4, ti35, ti75, ti34, ti32, ti22, ti48]) rfl)
  | some d =>
    refine Wc.cond (t := false) (by simp only [go_sem, ti3, ti9, ti77, ti4, ti35, ti75, ti34, ti32, ti22, ti48, Option.isSome]) (fun hc => by cases hc) (fun hc => ?_)
    refine Wc.skip (Wc.seq ?_)
    refine Wc.reg fun K hK => ?_; simp only [go_sem, ti3, ti9, ti77, ti4, ti35, ti75, ti34, ti32, ti22, ti48, Option.getD]; refine hK _ _ ?_; clear hK K
    exact Wc.ret (Pf.ret [.cell 10 34, .tmp 11] [chV sig (.lst n cs) [z0, z1, z2, z3, z4, z5, z6, z7, z8, z9, z10, z11, z12] d, .c (.p (pI 0))] rfl rfl (by simp only [resultsD, go_sem, ti3, ti9, ti77, ti4, ti35, ti75, ti34, ti32, ti22, ti48]; rfl) rfl)
end Go.Proofs.YtafaoldmemcigaaGreat.Ab
namespace Go.Proofs.YtafaoldmemcigaaGreat.Ab
set_option maxHeartbeats 4000000
set_option maxRecDepth 10000
set_option linter.unusedSimpArgs false
set_option linter.unusedVariables false
theorem hstCols_ok : ∀ c ∈ hstCols, (∀ a : HSm, Pf E0 c.g [.agg (a.pd.map .p)] (P' (pI (c.get a)))) ∧ E0.xt c.g = none ∧ E0.opn c.g = false := by
  intro c hc
  simp only [hstCols, List.mem_cons, List.not_mem_nil, or_false] at hc
  rcases hc with rfl | rfl | rfl | rfl | rfl
  · exact ⟨pf86, by kernel_rfl, by kernel_rfl⟩
  · exact ⟨pf88, by kernel_rfl, by kernel_rfl⟩
  · exact ⟨pf90, by kernel_rfl, by kernel_rfl⟩
  · exact ⟨pf92, by kernel_rfl, by kernel_rfl⟩
  · exact ⟨pf94, by kernel_rfl, by kernel_rfl⟩
theorem bckCols_ok : ∀ c ∈ bckCols, (∀ a : I2, Pf E0 c.g [.agg ((p2 a).map .p)] (P' (pI (c.get a)))) ∧ E0.xt c.g = none ∧ E0.opn c.g = false := by
  intro c hc
  simp only [bckCols, List.mem_cons, List.not_mem_nil, or_false] at hc
  rcases hc with rfl | rfl
  · exact ⟨pf98, by kernel_rfl, by kernel_rfl⟩
  · exact ⟨pf100, by kernel_rfl, by kernel_rfl⟩
theorem smpCols_ok : ∀ c ∈ smpCols, (∀ a : I2, Pf E0 c.g [.agg ((p2 a).map .p)] (P' (pI (c.get a)))) ∧ E0.xt c.g = none ∧ E0.opn c.g = false := by
  intro c hc
  simp only [smpCols, List.mem_cons, List.not_mem_nil, or_false] at hc
  rcases hc with rfl | rfl
  · exact ⟨pf57, by kernel_rfl, by kernel_rfl⟩
  · exact ⟨pf59, by kernel_rfl, by kernel_rfl⟩
theorem Own.vs1 {s : St} {es n : Nat} {c : C} {cs : List Pd} (h : Own s es (.v (.c c)) n cs) (s' : St) : purVs s' [.c c] = some ([.c (.p (.lst n cs))], s') := by
  obtain ⟨h1, h2⟩ := h
  rcases h2 with ⟨h2, rfl⟩ | ⟨id, h2, _⟩
  · cases h2
    have : cs = [] := List.length_eq_zero_iff.1 (by simpa using h1)
    subst this; rfl
  · cases h2; rfl
theorem purVs_cp {s s' : St} {x y : Pd} {c : C} (h : purVs s [.c c] = some ([.c (.p y)], s')) : purVs s [.c c, .c (.p x)] = some ([.c (.p y), .c (.p x)], s') := by
  cases hc : purC s c with
  | none => simp [purVs, purV, hc] at h
  | some z =>
    simp only [purVs, purV, hc, Option.some.injEq, Prod.mk.injEq, List.cons.injEq, V.c.injEq, C.p.injEq, and_true] at h
    obtain ⟨h1, h2⟩ := h
    have h0 : purC s' (.p x) = some (x, s') := rfl
    simp only [purVs, purV, hc, h1, h2, h0]
theorem Own.src' {t e : Nat} {i : TI} {s : St} {es n : Nat} {x : D} {cs : List Pd} (h : Own s es x n cs) (ht : E0.ti t = some i) (hk : i.kn = .slice e) (s' : St) : srcD E0 t s' x = some (n, cs) := by
  unfold srcD
  rw [ht]
  simp only [hk]
  exact h.lo s'
theorem OA.perm {b : Nat} {s : St} {L L' : List (Nat × D × Nat × List Pd)} {M : List (Nat × Ob)} (h : OA b s L M) (hp : L.Perm L') : OA b s L' M :=
  ⟨h.free, fun y hy => h.own y (hp.mem_iff.2 hy), (hp.pairwise_iff (fun hxy id h1 h2 => hxy id h2 h1)).1 h.dis, h.at_, h.nof, h.dism⟩
theorem packE_len {A : Type} {l : List A} : ∀ {cols : List (Col A)} {ss : List (List UInt8)}, packE l cols = some ss → ss.length ≤ cols.length
  | [], ss, h => by simp only [packE, Option.some.injEq] at h; subst h; simp
  | c :: r, ss, h => by
    simp only [packE] at h
    split at h
    · split at h
      · rename_i ss' hs
        cases h
        have := packE_len hs
        simp only [List.length_cons]; omega
      · cases h
    · cases h
/-- The columns of histograms; none: one is too long. -/
def packH (l : List HSm) : Option (List (List UInt8)) := match packE l hstCols with
  | none => none
  | some out => if (encV (l.map fun x => (x.h.bs.length : Int))).2 = 0 then (match packE (l.flatMap (·.h.bs)) bckCols with
      | none => none
      | some more => if (encI (l.map (·.h.s))).2 = 0 then some (out ++ [(encV (l.map fun x => (x.h.bs.length : Int))).1] ++ more ++ [(encI (l.map (·.h.s))).1]) else none) else none
def packR : Option (List (List UInt8)) → D
  | none => .tup [.c (.p (.lst 0 [])), .c (.p (.bool false))]
  | some ss => .tup [.c (.p (.lst ss.length (ss.map .str))), .c (.p (.bool true))]
theorem flat_take {A B : Type} {l : List A} {f : A → List B} {i : Nat} {x : A} (h : l[i]? = some x) : (l.take (i + 1)).flatMap f = (l.take i).flatMap f ++ f x := by
  rw [take_snoc h, List.flatMap_append]; simp
theorem flat_le {A B : Type} {f : A → List B} {k : Nat} : ∀ (l : List A), (∀ x ∈ l, (f x).length ≤ k) → (l.flatMap f).length ≤ l.length * k
  | [], _ => by simp
  | x :: r, h => by
    have h1 := h x (by simp)
    have h2 := flat_le r fun y hy => h y (by simp [hy])
    rw [List.flatMap_cons, List.length_append, List.length_cons, Nat.add_mul]; omega
/-- 22: packHists -/
theorem pf22 (l : List HSm) (hl : l.length ≤ 4096) (hb : ∀ x ∈ l, x.h.bs.length ≤ 1048576) : Pf E0 22 [.c (.p (.lst l.length (l.flatMap HSm.pd)))] (packR (packH l)) := by
  have hfl : (l.flatMap HSm.pd).length = l.length * 7 := flat_len (k := 7) (fun _ => rfl) l
  refine Pf.body (fn := Tryz.f22) (by kernel_rfl) rfl ?_; simp only [List.map_cons, List.map_nil, List.cons_append, List.nil_append, List.length_cons, List.length_nil, Tryz.ntmps22, List.replicate, Nat.reduceSub, Nat.reduceAdd]
  refine Wc.seq ?_
  refine Wc.reg fun K hK => ?_; simp only [go_sem, ti3, ti9, ti77, ti4, ti35, ti48, ti24, ti57, ti55, ti53, ti83, ti96, ti99]; refine hK _ _ ?_; clear hK K
  refine Wc.seq ?_
  refine Wc.reg fun K hK => ?_; simp only [go_sem, ti3, ti9, ti77, ti4, ti35, ti48, ti24, ti57, ti55, ti53, ti83, ti96, ti99]
  refine wpCall.pf pf49 (by kernel_rfl) (by kernel_rfl) rfl rfl ?_
  simp only [go_sem, ti3, ti9, ti77, ti4, ti35, ti48, ti24, ti57, ti55, ti53, ti83, ti96, ti99]
  refine call48 (L := []) (M := []) (l := l) (cols := hstCols) (s00_oa.adv.adv.mono (Nat.zero_le _)) (by omega) ⟨_, rfl⟩ (by simp only [go_sem, ti3, ti9, ti77, ti4, ti35, ti48, ti24, ti57, ti55, ti53, ti83, ti96, ti99]) (fun j hj => ixA ti24 rfl ti57 hj hfl (by decide)) hstCols_ok (by decide) ?_ ?_
  · intro hp s1 ho hnx
    simp only [go_sem, ti3, ti9, ti77, ti4, ti35, ti48, ti24, ti57, ti55, ti53, ti83, ti96, ti99]; refine hK _ _ ?_; clear hK K
    refine Wc.seq (Wc.seq ?_)
    refine Wc.reg fun K hK => ?_; simp only [go_sem, ti3, ti9, ti77, ti4, ti35, ti48, ti24, ti57, ti55, ti53, ti83, ti96, ti99]; refine hK _ _ ?_; clear hK K
    refine Wc.cond (t := true) (by simp only [go_sem, ti3, ti9, ti77, ti4, ti35, ti48, ti24, ti57, ti55, ti53, ti83, ti96, ti99]) (fun _ => ?_) (fun hc => by cases hc)
    refine Wc.seq ?_
    refine Wc.reg fun K hK => ?_; simp only [go_sem, ti3, ti9, ti77, ti4, ti35, ti48, ti24, ti57, ti55, ti53, ti83, ti96, ti99]; refine hK _ _ ?_; clear hK K
    have e : packH l = none := by unfold packH; rw [hp]
    rw [e]
    exact Wc.ret (Pf.ret [.tmp 2, .tmp 3] [.c .nils, .c (.p (.bool false))] rfl rfl (by simp only [resultsD, go_sem, ti3, ti9, ti77, ti4, ti35, ti48, ti24, ti57, ti55, ti53, ti83, ti96, ti99]) rfl)
  intro out hp c4 s1 ho hnx
  have ePH : packH l = if (encV (l.map fun x => (x.h.bs.length : Int))).2 = 0 then (match packE (l.flatMap (·.h.bs)) bckCols with
      | none => none
      | some more => if (encI (l.map (·.h.s))).2 = 0 then some (out ++ [(encV (l.map fun x => (x.h.bs.length : Int))).1] ++ more ++ [(encI (l.map (·.h.s))).1]) else none) else none := by unfold packH; rw [hp]
  simp only [go_sem, ti3, ti9, ti77, ti4, ti35, ti48, ti24, ti57, ti55, ti53, ti83, ti96, ti99]; refine hK _ _ ?_; clear hK K
  rw [ePH]
  refine Wc.seq (Wc.seq ?_)
  refine Wc.reg fun K hK => ?_; simp only [go_sem, ti3, ti9, ti77, ti4, ti35, ti48, ti24, ti57, ti55, ti53, ti83, ti96, ti99]; refine hK _ _ ?_; clear hK K
  refine Wc.cond (t := false) (by simp only [go_sem, ti3, ti9, ti77, ti4, ti35, ti48, ti24, ti57, ti55, ti53, ti83, ti96, ti99]) (fun hc => by cases hc) (fun _ => Wc.skip ?_)
  refine Wc.seq ?_
  refine Wc.reg fun K hK => ?_; simp only [go_sem, ti3, ti9, ti77, ti4, ti35, ti48, ti24, ti57, ti55, ti53, ti83, ti96, ti99]; refine hK _ _ ?_; clear hK K
  refine Wc.seq ?_
  refine Wc.reg fun K hK => ?_; simp only [go_sem, ti3, ti9, ti77, ti4, ti35, ti48, ti24, ti57, ti55, ti53, ti83, ti96, ti99]; refine hK _ _ ?_; clear hK K
  refine Wc.seqA (fun y => ∃ c6 c7 c8, y.ds = [] ∧ y.e.length = 81 ∧ y.e.getD 4 .junk = .v (.c c4) ∧ y.e.getD 6 .junk = .v (.c c6) ∧ y.e.getD 7 .junk = .v (.c c7) ∧ y.e.getD 8 .junk = .v (.c c8) ∧
    OA y.s.nx y.s [(1, .v (.c c4), out.length, out.map .str), (2, .v (.c c6), (l.flatMap (·.h.bs)).length, (l.flatMap (·.h.bs)).flatMap p2), (1, .v (.c c7), (l.map fun x => (x.h.bs.length : Int)).length, (l.map fun x => (x.h.bs.length : Int)).map pI), (1, .v (.c c8), (l.map (·.h.s)).length, (l.map (·.h.s)).map pI)] []) ?_ ?_
  · refine Wc.seq ?_
    refine Wc.reg fun K hK => ?_; simp only [go_sem, ti3, ti9, ti77, ti4, ti35, ti48, ti24, ti57, ti55, ti53, ti83, ti96, ti99, Int.natCast_zero]; refine hK _ _ ?_; clear hK K
    refine Wc.block (Wc.loop (fun k y => ∃ (i : Nat) (c6 c7 c8 : C), k = l.length - i ∧ i ≤ l.length ∧ y.ds = [] ∧ y.e.length = 81 ∧ y.e.getD 0 .junk = P' (.lst l.length (l.flatMap HSm.pd)) ∧ y.e.getD 23 .junk = P' (.lst l.length (l.flatMap HSm.pd)) ∧ y.e.getD 24 .junk = P' (pI l.length) ∧ y.e.getD 25 .junk = P' (pI i) ∧ y.e.getD 4 .junk = .v (.c c4) ∧ y.e.getD 6 .junk = .v (.c c6) ∧ y.e.getD 7 .junk = .v (.c c7) ∧ y.e.getD 8 .junk = .v (.c c8) ∧
      OA y.s.nx y.s [(1, .v (.c c4), out.length, out.map .str), (2, .v (.c c6), ((l.take i).flatMap (·.h.bs)).length, ((l.take i).flatMap (·.h.bs)).flatMap p2), (1, .v (.c c7), i, ((l.take i).map fun x => (x.h.bs.length : Int)).map pI), (1, .v (.c c8), i, ((l.take i).map (·.h.s)).map pI)] []) ?_ (k := l.length) ?_)
    · clear ho hnx s1
      rintro k ⟨e, ds, s1⟩ ⟨i, c6, c7, c8, rfl, hi, rfl, hlen, h0, h23, h24, h25, h4, h6, h7, h8, ho⟩
      simp only at hlen h0 h23 h24 h25 h4 h6 h7 h8 ho
      refine Wc.seq ?_
      refine Wc.reg fun K hK => ?_; simp only [go_sem, ti3, ti9, ti77, ti4, ti35, ti48, ti24, ti57, ti55, ti53, ti83, ti96, ti99, hlen, h0, h23, h24, h25, h4, h6, h7, h8]; refine hK _ _ ?_; clear hK K
      refine Wc.seq (Wc.cond (t := decide ((i : Int) < l.length)) (by simp only [go_sem, ti3, ti9, ti77, ti4, ti35, ti48, ti24, ti57, ti55, ti53, ti83, ti96, ti99, hlen]) (fun hc => ?_) (fun hc => ?_))
      · have hil : i < l.length := by have : (i : Int) < l.length := by simpa using hc
                                      omega
        obtain ⟨x, hx⟩ : ∃ x, l[i]? = some x := ⟨l[i], List.getElem?_eq_getElem hil⟩
        have hxb := hb x (List.mem_of_getElem? hx)
        have htb : ((l.take i).flatMap (·.h.bs)).length ≤ l.length * 1048576 := Nat.le_trans (flat_le (k := 1048576) _ fun y hy => hb y (List.mem_of_mem_take hy)) (Nat.mul_le_mul_right _ (by simp; omega))
        have hix := ixA ti24 rfl ti57 (j := i) (m := l.length) (cs := l.flatMap HSm.pd) hil hfl (by decide)
        have hca := rpA (off := i * 7) (drop_flat (f := HSm.pd) (k := 7) (fun _ => rfl) hx) (by rw [hfl]; omega)
        refine Wc.skip (Wc.seq (Wc.block ?_))
        refine Wc.seqA (fun y => ∃ kx, y.ds = [] ∧ y.e.length = 81 ∧ y.e.getD 0 .junk = P' (.lst l.length (l.flatMap HSm.pd)) ∧ y.e.getD 23 .junk = P' (.lst l.length (l.flatMap HSm.pd)) ∧ y.e.getD 24 .junk = P' (pI l.length) ∧ y.e.getD 25 .junk = P' (pI i) ∧ y.e.getD 4 .junk = .v (.c c4) ∧ y.e.getD 6 .junk = .v (.c c6) ∧ y.e.getD 7 .junk = .v (.c c7) ∧ y.e.getD 8 .junk = .v (.c c8) ∧ y.e.getD 10 .junk = .v (.c (.ref kx 0)) ∧
          OA y.s.nx y.s [(1, .v (.c c4), out.length, out.map .str), (2, .v (.c c6), ((l.take i).flatMap (·.h.bs)).length, ((l.take i).flatMap (·.h.bs)).flatMap p2), (1, .v (.c c7), i, ((l.take i).map fun x => (x.h.bs.length : Int)).map pI), (1, .v (.c c8), i, ((l.take i).map (·.h.s)).map pI)] [(kx, .cells (x.pd.map .p) false)]) ?_ ?_
        · refine Wc.reg fun K hK => ?_; simp only [go_sem, ti3, ti9, ti77, ti4, ti35, ti48, ti24, ti57, ti55, ti53, ti83, ti96, ti99, hlen, h0, h23, h24, h25, h4, h6, h7, h8, hix, hca]; refine hK _ _ ?_; clear hK K
          refine ⟨rfl, s1.nx + 3, rfl, by simp only [go_sem, ti3, ti9, ti77, ti4, ti35, ti48, ti24, ti57, ti55, ti53, ti83, ti96, ti99, hlen], by simp only [go_sem, ti3, ti9, ti77, ti4, ti35, ti48, ti24, ti57, ti55, ti53, ti83, ti96, ti99, hlen, h0], by simp only [go_sem, ti3, ti9, ti77, ti4, ti35, ti48, ti24, ti57, ti55, ti53, ti83, ti96, ti99, hlen, h23], by simp only [go_sem, ti3, ti9, ti77, ti4, ti35, ti48, ti24, ti57, ti55, ti53, ti83, ti96, ti99, hlen, h24], by simp only [go_sem, ti3, ti9, ti77, ti4, ti35, ti48, ti24, ti57, ti55, ti53, ti83, ti96, ti99, hlen, h25], by simp only [go_sem, ti3, ti9, ti77, ti4, ti35, ti48, ti24, ti57, ti55, ti53, ti83, ti96, ti99, hlen, h4], by simp only [go_sem, ti3, ti9, ti77, ti4, ti35, ti48, ti24, ti57, ti55, ti53, ti83, ti96, ti99, hlen, h6], by simp only [go_sem, ti3, ti9, ti77, ti4, ti35, ti48, ti24, ti57, ti55, ti53, ti83, ti96, ti99, hlen, h7], by simp only [go_sem, ti3, ti9, ti77, ti4, ti35, ti48, ti24, ti57, ti55, ti53, ti83, ti96, ti99, hlen, h8], by simp only [go_sem, ti3, ti9, ti77, ti4, ti35, ti48, ti24, ti57, ti55, ti53, ti83, ti96, ti99, hlen], ?_⟩
          have h2 := OA.set (M1 := []) (o' := .cells (x.pd.map .p) false) ((ho.adv (n := 1)).adv (n := 4) |>.new (k := s1.nx + 3) (o := .cells [.p (.int .i64 0), .p (.int .i64 0), .p (.int .i64 0), .p (.int .i64 0), .p (.int .i64 0), .p (.int .i64 0), .nils] false) (by omega) rfl) rfl
          exact h2.mono (by simp only [St.nx_put, St.nx_adv]; omega)
        · clear hlen h0 h23 h24 h25 h4 h6 h7 h8 ho e s1
          rintro ⟨e, ds, s1⟩ ⟨kx, rfl, hlen, h0, h23, h24, h25, h4, h6, h7, h8, h10, ho⟩
          simp only at hlen h0 h23 h24 h25 h4 h6 h7 h8 h10 ho
          have gx := ho.at_ (kx, .cells (x.pd.map .p) false) (by simp)
          simp only [List.map_cons, List.map_nil] at gx
          refine Wc.seq ?_
          refine Wc.reg fun K hK => ?_; simp only [go_sem, ti3, ti9, ti77, ti4, ti35, ti48, ti24, ti57, ti55, ti53, ti83, ti96, ti99, hlen, h0, h23, h24, h25, h4, h6, h7, h8, h10, gx]
          refine OA.app (L1 := [(1, .v (.c c4), out.length, out.map .str)]) (L2 := [(1, .v (.c c7), i, ((l.take i).map fun x => (x.h.bs.length : Int)).map pI), (1, .v (.c c8), i, ((l.take i).map (·.h.s)).map pI)]) (by_ := 16) (n := ((l.take i).flatMap (·.h.bs)).length) (m := x.h.bs.length) (ys := x.h.bs.flatMap p2) (ho.adv (n := 6)) (by omega) ⟨_, ti53, rfl⟩ ti83 rfl rfl rfl (by decide) (by decide) (by simp only [go_sem, ti3, ti9, ti77, ti4, ti35, ti48, ti24, ti57, ti55, ti53, ti83, ti96, ti99]) (flat_len (k := 2) (fun _ => rfl) _) (by omega) fun b6 s2 ho2 hnx2 => ?_
          obtain ⟨d6, rfl⟩ := (ho2.own (2, b6, _, _) (List.mem_cons_of_mem _ (List.mem_cons_self ..))).v
          have ho3 := ho2.mono (b' := s2.nx) (by rw [hnx2]; simp only [St.nx_adv]; omega)
          clear ho2
          simp only [go_sem, ti3, ti9, ti77, ti4, ti35, ti48, ti24, ti57, ti55, ti53, ti83, ti96, ti99, hlen, h0, h23, h24, h25, h4, h6, h7, h8, h10]; refine hK _ _ ?_; clear hK K
          have gx2 := ho3.at_ (kx, .cells (x.pd.map .p) false) (by simp)
          simp only [List.map_cons, List.map_nil] at gx2
          refine Wc.seq ?_
          refine Wc.reg fun K hK => ?_; simp only [go_sem, ti3, ti9, ti77, ti4, ti35, ti48, ti24, ti57, ti55, ti53, ti83, ti96, ti99, hlen, h0, h23, h24, h25, h4, h6, h7, h8, h10, gx2]
          refine OA.app (L1 := [(1, .v (.c c4), out.length, out.map .str), (2, .v (.c d6), ((l.take i).flatMap (·.h.bs)).length + x.h.bs.length, ((l.take i).flatMap (·.h.bs)).flatMap p2 ++ x.h.bs.flatMap p2)]) (L2 := [(1, .v (.c c8), i, ((l.take i).map (·.h.s)).map pI)]) (by_ := 8) (n := i) (m := 1) (ys := [pI x.h.bs.length]) (OA.put (ho3.adv (n := 8)) (k := s2.nx + 5) (by omega)) (by omega) ⟨_, ti77, rfl⟩ ti3 rfl rfl rfl (by decide) (by decide) (by simp only [go_sem, ti3, ti9, ti77, ti4, ti35, ti48, ti24, ti57, ti55, ti53, ti83, ti96, ti99]) rfl (by omega) fun b7 s3 ho4 hnx3 => ?_
          obtain ⟨d7, rfl⟩ := (ho4.own (1, b7, _, _) (List.mem_cons_of_mem _ (List.mem_cons_of_mem _ (List.mem_cons_self ..)))).v
          have ho5 := ho4.mono (b' := s3.nx) (by rw [hnx3]; simp only [St.nx_put, St.nx_adv]; omega)
          clear ho4
          simp only [go_sem, ti3, ti9, ti77, ti4, ti35, ti48, ti24, ti57, ti55, ti53, ti83, ti96, ti99, hlen, h0, h23, h24, h25, h4, h6, h7, h8, h10]; refine hK _ _ ?_; clear hK K
          have gx3 := ho5.at_ (kx, .cells (x.pd.map .p) false) (by simp)
          simp only [List.map_cons, List.map_nil] at gx3
          refine Wc.reg fun K hK => ?_; simp only [go_sem, ti3, ti9, ti77, ti4, ti35, ti48, ti24, ti57, ti55, ti53, ti83, ti96, ti99, hlen, h0, h23, h24, h25, h4, h6, h7, h8, h10, gx3]
          refine OA.app (L1 := [(1, .v (.c c4), out.length, out.map .str), (2, .v (.c d6), ((l.take i).flatMap (·.h.bs)).length + x.h.bs.length, ((l.take i).flatMap (·.h.bs)).flatMap p2 ++ x.h.bs.flatMap p2), (1, .v (.c d7), i + 1, ((l.take i).map fun x => (x.h.bs.length : Int)).map pI ++ [pI x.h.bs.length])]) (L2 := []) (by_ := 8) (n := i) (m := 1) (ys := [pI x.h.s]) (OA.put (ho5.adv (n := 7)) (k := s3.nx + 4) (by omega)) (by omega) ⟨_, ti77, rfl⟩ ti3 rfl rfl rfl (by decide) (by decide) (by simp only [go_sem, ti3, ti9, ti77, ti4, ti35, ti48, ti24, ti57, ti55, ti53, ti83, ti96, ti99]) rfl (by omega) fun b8 s4 ho6 hnx4 => ?_
          obtain ⟨d8, rfl⟩ := (ho6.own (1, b8, _, _) (List.mem_cons_of_mem _ (List.mem_cons_of_mem _ (List.mem_cons_of_mem _ (List.mem_cons_self ..))))).v
          have ho7 := ho6.mono (b' := s4.nx) (by rw [hnx4]; simp only [St.nx_put, St.nx_adv]; omega)
          clear ho6
          simp only [go_sem, ti3, ti9, ti77, ti4, ti35, ti48, ti24, ti57, ti55, ti53, ti83, ti96, ti99, hlen, h0, h23, h24, h25, h4, h6, h7, h8, h10]; refine hK _ _ ?_; clear hK K
          refine Wc.reg fun K hK => ?_; simp only [go_sem, ti3, ti9, ti77, ti4, ti35, ti48, ti24, ti57, ti55, ti53, ti83, ti96, ti99, hlen, h0, h23, h24, h25, h4, h6, h7, h8, h10, i64n i (by omega)]; refine hK _ _ ?_; clear hK K
          refine ⟨l.length - (i + 1), by omega, i + 1, d6, d7, d8, rfl, by omega, rfl, by simp only [go_sem, ti3, ti9, ti77, ti4, ti35, ti48, ti24, ti57, ti55, ti53, ti83, ti96, ti99, hlen], by simp only [go_sem, ti3, ti9, ti77, ti4, ti35, ti48, ti24, ti57, ti55, ti53, ti83, ti96, ti99, hlen, h0], by simp only [go_sem, ti3, ti9, ti77, ti4, ti35, ti48, ti24, ti57, ti55, ti53, ti83, ti96, ti99, hlen, h23], by simp only [go_sem, ti3, ti9, ti77, ti4, ti35, ti48, ti24, ti57, ti55, ti53, ti83, ti96, ti99, hlen, h24], by simp only [go_sem, ti3, ti9, ti77, ti4, ti35, ti48, ti24, ti57, ti55, ti53, ti83, ti96, ti99, hlen], by simp only [go_sem, ti3, ti9, ti77, ti4, ti35, ti48, ti24, ti57, ti55, ti53, ti83, ti96, ti99, hlen, h4], by simp only [go_sem, ti3, ti9, ti77, ti4, ti35, ti48, ti24, ti57, ti55, ti53, ti83, ti96, ti99, hlen], by simp only [go_sem, ti3, ti9, ti77, ti4, ti35, ti48, ti24, ti57, ti55, ti53, ti83, ti96, ti99, hlen], by simp only [go_sem, ti3, ti9, ti77, ti4, ti35, ti48, ti24, ti57, ti55, ti53, ti83, ti96, ti99, hlen], ?_⟩
          have ho8 := ((OA.sub (M1 := []) ho7 (List.Sublist.refl _) (List.nil_sublist _)).adv (n := 2)).mono (Nat.le_add_right s4.nx 2)
          rw [flat_take hx, take_snoc hx]
          simpa only [List.length_append, List.flatMap_append, List.map_append, List.map_cons, List.map_nil, List.nil_append, List.cons_append, St.nx_adv] using ho8
      · have hil : i = l.length := by have : ¬ (i : Int) < l.length := by simpa using hc
                                      omega
        subst hil
        rw [List.take_length] at ho
        exact Wc.exit ⟨rfl, c6, c7, c8, rfl, by simp only [go_sem, ti3, ti9, ti77, ti4, ti35, ti48, ti24, ti57, ti55, ti53, ti83, ti96, ti99, hlen], by simp only [go_sem, ti3, ti9, ti77, ti4, ti35, ti48, ti24, ti57, ti55, ti53, ti83, ti96, ti99, hlen, h4], by simp only [go_sem, ti3, ti9, ti77, ti4, ti35, ti48, ti24, ti57, ti55, ti53, ti83, ti96, ti99, hlen, h6], by simp only [go_sem, ti3, ti9, ti77, ti4, ti35, ti48, ti24, ti57, ti55, ti53, ti83, ti96, ti99, hlen, h7], by simp only [go_sem, ti3, ti9, ti77, ti4, ti35, ti48, ti24, ti57, ti55, ti53, ti83, ti96, ti99, hlen, h8], by
          simp only [List.length_map]; exact (ho.adv (n := 1)).mono (by simp only [St.nx_adv]; omega)⟩
    · refine ⟨0, .nils, .nils, .nils, rfl, by omega, rfl, rfl, rfl, rfl, rfl, rfl, rfl, rfl, rfl, rfl, ?_⟩
      have h1 : OA s1.nx s1 ([(2, D.v (V.c C.nils), 0, []), (1, D.v (V.c C.nils), 0, []), (1, D.v (V.c C.nils), 0, [])] ++ [(1, D.v (V.c c4), out.length, out.map Pd.str)]) [] := ((ho.nil (es := 1)).nil (es := 1)).nil (es := 2)
      refine OA.mono (b := s1.nx) ?_ (by simp only [St.nx_adv]; omega)
      repeat refine OA.adv ?_
      exact h1.perm List.perm_append_comm
  · clear ho hnx s1
    rintro ⟨e, ds, s1⟩ ⟨c6, c7, c8, rfl, hlen, h4, h6, h7, h8, ho⟩
    simp only at hlen h4 h6 h7 h8 ho
    have o6 : Own s1 2 (.v (.c c6)) (l.flatMap (·.h.bs)).length ((l.flatMap (·.h.bs)).flatMap p2) := ho.own (2, .v (.c c6), _, _) (List.mem_cons_of_mem _ (List.mem_cons_self ..))
    have o7 := ho.own (1, .v (.c c7), _, _) (List.mem_cons_of_mem _ (List.mem_cons_of_mem _ (List.mem_cons_self ..)))
    have o8 := ho.own (1, .v (.c c8), _, _) (List.mem_cons_of_mem _ (List.mem_cons_of_mem _ (List.mem_cons_of_mem _ (List.mem_cons_self ..))))
    refine Wc.seq ?_
    refine Wc.reg fun K hK => ?_; simp only [go_sem, ti3, ti9, ti77, ti4, ti35, ti48, ti24, ti57, ti55, ti53, ti83, ti96, ti99, hlen, h4, h6, h7, h8]
    refine wpCall.pf (pf50 (l.map fun x => (x.h.bs.length : Int)) (by simp; omega)) (by kernel_rfl) (by kernel_rfl) rfl (o7.vs1 _) ?_
    simp only [go_sem, ti3, ti9, ti77, ti4, ti35, ti48, ti24, ti57, ti55, ti53, ti83, ti96, ti99, hlen, h4, h6, h7, h8]; refine hK _ _ ?_; clear hK K
    refine Wc.seq (Wc.seq ?_)
    refine Wc.reg fun K hK => ?_; simp only [go_sem, ti3, ti9, ti77, ti4, ti35, ti48, ti24, ti57, ti55, ti53, ti83, ti96, ti99, hlen, h4, h6, h7, h8]; refine hK _ _ ?_; clear hK K
    refine Wc.cond (t := ((encV (l.map fun x => (x.h.bs.length : Int))).2 != 0)) (by simp only [go_sem, ti3, ti9, ti77, ti4, ti35, ti48, ti24, ti57, ti55, ti53, ti83, ti96, ti99, hlen]) (fun hc => ?_) (fun hc => ?_)
    · rw [if_neg (by simpa using hc)]
      refine Wc.seq ?_
      refine Wc.reg fun K hK => ?_; simp only [go_sem, ti3, ti9, ti77, ti4, ti35, ti48, ti24, ti57, ti55, ti53, ti83, ti96, ti99, hlen]; refine hK _ _ ?_; clear hK K
      exact Wc.ret (Pf.ret [.tmp 2, .tmp 3] [.c .nils, .c (.p (.bool false))] rfl rfl (by simp only [resultsD, go_sem, ti3, ti9, ti77, ti4, ti35, ti48, ti24, ti57, ti55, ti53, ti83, ti96, ti99, hlen]) rfl)
    rw [if_pos (by simpa using hc)]
    refine Wc.skip (Wc.seq ?_)
    refine Wc.reg fun K hK => ?_; simp only [go_sem, ti3, ti9, ti77, ti4, ti35, ti48, ti24, ti57, ti55, ti53, ti83, ti96, ti99, hlen, h4, h6, h7, h8]
    refine wpCall.pf pf52 (by kernel_rfl) (by kernel_rfl) rfl rfl ?_
    simp only [go_sem, ti3, ti9, ti77, ti4, ti35, ti48, ti24, ti57, ti55, ti53, ti83, ti96, ti99, hlen, h4, h6, h7, h8]
    have htb : (l.flatMap (·.h.bs)).length ≤ l.length * 1048576 := flat_le (k := 1048576) _ hb
    refine call51 (L := [(1, .v (.c c4), out.length, out.map .str), (2, .v (.c c6), (l.flatMap (·.h.bs)).length, (l.flatMap (·.h.bs)).flatMap p2), (1, .v (.c c7), (l.map fun x => (x.h.bs.length : Int)).length, (l.map fun x => (x.h.bs.length : Int)).map pI), (1, .v (.c c8), (l.map (·.h.s)).length, (l.map (·.h.s)).map pI)]) (M := []) (l := l.flatMap fun x : HSm => x.h.bs) (cols := bckCols) ?_ (by omega) ⟨_, rfl⟩ (o6.len ti53 rfl) (fun j hj => ixO ti53 rfl ti83 o6 hj (by decide)) bckCols_ok (by decide) ?_ ?_
    · refine OA.mono (b := s1.nx) ?_ (by simp only [St.nx_adv]; omega)
      repeat refine OA.adv ?_
      exact ho
    · intro hp2 s2 ho2 hnx
      simp only [go_sem, ti3, ti9, ti77, ti4, ti35, ti48, ti24, ti57, ti55, ti53, ti83, ti96, ti99, hlen, h4, h6, h7, h8]; refine hK _ _ ?_; clear hK K
      rw [hp2]
      refine Wc.seq (Wc.seq ?_)
      refine Wc.reg fun K hK => ?_; simp only [go_sem, ti3, ti9, ti77, ti4, ti35, ti48, ti24, ti57, ti55, ti53, ti83, ti96, ti99, hlen, h4, h6, h7, h8]; refine hK _ _ ?_; clear hK K
      refine Wc.cond (t := true) (by simp only [go_sem, ti3, ti9, ti77, ti4, ti35, ti48, ti24, ti57, ti55, ti53, ti83, ti96, ti99, hlen]) (fun _ => ?_) (fun hc => by cases hc)
      refine Wc.seq ?_
      refine Wc.reg fun K hK => ?_; simp only [go_sem, ti3, ti9, ti77, ti4, ti35, ti48, ti24, ti57, ti55, ti53, ti83, ti96, ti99, hlen]; refine hK _ _ ?_; clear hK K
      exact Wc.ret (Pf.ret [.tmp 2, .tmp 3] [.c .nils, .c (.p (.bool false))] rfl rfl (by simp only [resultsD, go_sem, ti3, ti9, ti77, ti4, ti35, ti48, ti24, ti57, ti55, ti53, ti83, ti96, ti99, hlen]) rfl)
    intro more hp2 c13 s2 ho2 hnx
    simp only [go_sem, ti3, ti9, ti77, ti4, ti35, ti48, ti24, ti57, ti55, ti53, ti83, ti96, ti99, hlen, h4, h6, h7, h8]; refine hK _ _ ?_; clear hK K
    rw [hp2]
    refine Wc.seq (Wc.seq ?_)
    refine Wc.reg fun K hK => ?_; simp only [go_sem, ti3, ti9, ti77, ti4, ti35, ti48, ti24, ti57, ti55, ti53, ti83, ti96, ti99, hlen, h4, h6, h7, h8]; refine hK _ _ ?_; clear hK K
    refine Wc.cond (t := false) (by simp only [go_sem, ti3, ti9, ti77, ti4, ti35, ti48, ti24, ti57, ti55, ti53, ti83, ti96, ti99, hlen]) (fun hc => by cases hc) (fun _ => Wc.skip ?_)
    refine Wc.seq ?_
    refine Wc.reg fun K hK => ?_; simp only [go_sem, ti3, ti9, ti77, ti4, ti35, ti48, ti24, ti57, ti55, ti53, ti83, ti96, ti99, hlen, h4, h6, h7, h8]
    refine wpCall.pf (pf53 (l.map (·.h.s)) (by simp; omega)) (by kernel_rfl) (by kernel_rfl) rfl (o8.vs1 _) ?_
    simp only [go_sem, ti3, ti9, ti77, ti4, ti35, ti48, ti24, ti57, ti55, ti53, ti83, ti96, ti99, hlen, h4, h6, h7, h8]; refine hK _ _ ?_; clear hK K
    refine Wc.seq (Wc.seq ?_)
    refine Wc.reg fun K hK => ?_; simp only [go_sem, ti3, ti9, ti77, ti4, ti35, ti48, ti24, ti57, ti55, ti53, ti83, ti96, ti99, hlen, h4, h6, h7, h8]; refine hK _ _ ?_; clear hK K
    refine Wc.cond (t := ((encI (l.map (·.h.s))).2 != 0)) (by simp only [go_sem, ti3, ti9, ti77, ti4, ti35, ti48, ti24, ti57, ti55, ti53, ti83, ti96, ti99, hlen]) (fun hc => ?_) (fun hc => ?_)
    · simp only
      rw [if_neg (by simpa using hc)]
      refine Wc.seq ?_
      refine Wc.reg fun K hK => ?_; simp only [go_sem, ti3, ti9, ti77, ti4, ti35, ti48, ti24, ti57, ti55, ti53, ti83, ti96, ti99, hlen]; refine hK _ _ ?_; clear hK K
      exact Wc.ret (Pf.ret [.tmp 2, .tmp 3] [.c .nils, .c (.p (.bool false))] rfl rfl (by simp only [resultsD, go_sem, ti3, ti9, ti77, ti4, ti35, ti48, ti24, ti57, ti55, ti53, ti83, ti96, ti99, hlen]) rfl)
    simp only
    rw [if_pos (by simpa using hc)]
    refine Wc.skip (Wc.seq ?_)
    have hm0 : OA s2.nx s2 [(1, .v (.c c4), out.length, out.map .str), (1, .v (.c c13), more.length, more.map .str)] [] := by
      refine OA.sub (L := [(1, .v (.c c4), out.length, out.map .str)] ++ [(1, .v (.c c13), more.length, more.map .str)]) ?_ (List.Sublist.refl _) (List.Sublist.refl _)
      refine OA.perm (OA.sub (L1 := [(1, .v (.c c13), more.length, more.map .str)] ++ [(1, .v (.c c4), out.length, out.map .str)]) ho2 ?_ (List.Sublist.refl _)) List.perm_append_comm
      exact (List.sublist_append_left _ [_, _, _] : List.Sublist ([_] ++ [_]) (([_] ++ [_]) ++ [_, _, _]))
    have lo : out.length ≤ 5 := by
      have := packE_len hp
      simpa [hstCols] using this
    have lm : more.length ≤ 2 := by
      have := packE_len hp2
      simpa [bckCols] using this
    refine Wc.reg fun K hK => ?_; simp only [go_sem, ti3, ti9, ti77, ti4, ti35, ti48, ti24, ti57, ti55, ti53, ti83, ti96, ti99, hlen, h4]
    refine OA.app (L1 := []) (L2 := [(1, .v (.c c13), more.length, more.map .str)]) (by_ := 16) (n := out.length) (m := 1) (ys := [.str (encV (l.map fun x => (x.h.bs.length : Int))).1]) (OA.put (k := s2.nx + 13) (b := s2.nx) hm0.adv.adv.adv.adv (by omega)) (by omega) ⟨_, ti48, rfl⟩ ti9 rfl rfl rfl (by decide) (by decide) (by simp only [go_sem, ti3, ti9, ti77, ti4, ti35, ti48, ti24, ti57, ti55, ti53, ti83, ti96, ti99]) rfl (by omega) fun b4 s3 ho3 hnx3 => ?_
    obtain ⟨d4, rfl⟩ := (ho3.own (1, b4, _, _) (List.mem_cons_self ..)).v
    have hm1 := ho3.mono (b' := s3.nx) (by rw [hnx3]; simp only [St.nx_put, St.nx_adv]; omega)
    clear ho3
    simp only [go_sem, ti3, ti9, ti77, ti4, ti35, ti48, ti24, ti57, ti55, ti53, ti83, ti96, ti99, hlen, h4]; refine hK _ _ ?_; clear hK K
    refine Wc.seq ?_
    have om : Own s3 1 (.v (.c c13)) more.length (more.map .str) := hm1.own (1, .v (.c c13), more.length, more.map .str) (by simp)
    refine Wc.reg fun K hK => ?_; simp only [go_sem, ti3, ti9, ti77, ti4, ti35, ti48, ti24, ti57, ti55, ti53, ti83, ti96, ti99, hlen, h4]
    refine OA.app (L1 := []) (L2 := [(1, .v (.c c13), more.length, more.map .str)]) (by_ := 16) (n := out.length + 1) (m := more.length) (ys := more.map .str) (hm1.adv (n := 4)) (by omega) ⟨_, ti48, rfl⟩ ti9 rfl rfl rfl (by decide) (by decide) (om.src' ti48 rfl _) (by simp) (by omega) fun b5 s4 ho4 hnx4 => ?_
    obtain ⟨d5, rfl⟩ := (ho4.own (1, b5, _, _) (List.mem_cons_self ..)).v
    have hm2 := ho4.mono (b' := s4.nx) (by rw [hnx4]; simp only [St.nx_put, St.nx_adv]; omega)
    clear ho4
    simp only [go_sem, ti3, ti9, ti77, ti4, ti35, ti48, ti24, ti57, ti55, ti53, ti83, ti96, ti99, hlen, h4]; refine hK _ _ ?_; clear hK K
    refine Wc.seq ?_
    refine Wc.reg fun K hK => ?_; simp only [go_sem, ti3, ti9, ti77, ti4, ti35, ti48, ti24, ti57, ti55, ti53, ti83, ti96, ti99, hlen, h4]
    refine OA.app (L1 := []) (L2 := [(1, .v (.c c13), more.length, more.map .str)]) (by_ := 16) (n := out.length + 1 + more.length) (m := 1) (ys := [.str (encI (l.map (·.h.s))).1]) (OA.put (k := s4.nx + 2) (b := s4.nx) (hm2.adv (n := 6)) (by omega)) (by omega) ⟨_, ti48, rfl⟩ ti9 rfl rfl rfl (by decide) (by decide) (by simp only [go_sem, ti3, ti9, ti77, ti4, ti35, ti48, ti24, ti57, ti55, ti53, ti83, ti96, ti99]) rfl (by omega) fun b6 s5 ho5 hnx5 => ?_
    obtain ⟨d6, rfl⟩ := (ho5.own (1, b6, _, _) (List.mem_cons_self ..)).v
    simp only [go_sem, ti3, ti9, ti77, ti4, ti35, ti48, ti24, ti57, ti55, ti53, ti83, ti96, ti99, hlen, h4]; refine hK _ _ ?_; clear hK K
    refine Wc.ret (Op.ret [.tmp 2, .tmp 3] [.c d6, .c (.p (.bool true))] rfl rfl (by simp only [resultsD, go_sem, ti3, ti9, ti77, ti4, ti35, ti48, ti24, ti57, ti55, ti53, ti83, ti96, ti99, hlen]) ⟨s5, ?_⟩)
    have o9 := (ho5.own (1, .v (.c d6), _, _) (List.mem_cons_self ..)).vs1 s5
    have e9 := purVs_cp (x := .bool true) o9
    simp only [packD, purD, e9, packR]
    simp only [List.length_append, List.map_append, List.length_cons, List.length_nil, List.map_cons, List.map_nil, Nat.zero_add]
end Go.Proofs.YtafaoldmemcigaaGreat.Ab
namespace Go.Proofs.YtafaoldmemcigaaGreat.Ab
set_option maxHeartbeats 4000000
set_option maxRecDepth 10000
set_option linter.unusedSimpArgs false
set_option linter.unusedVariables false
/-- A byte of a name. -/
def nb (c : Int) : Bool := decide (97 ≤ c ∧ c ≤ 122) || decide (65 ≤ c ∧ c ≤ 90) || decide (48 ≤ c ∧ c ≤ 57) || decide (c = 95)
/-- 123: a byte of a name -/
theorem pf123 (c : Int) : Pf E0 123 [.c (.p (.int .u8 c))] (P' (.bool (nb c))) := by
  refine Pf.body (fn := Tryz.f123) (by kernel_rfl) rfl ?_; simp only [List.map_cons, List.map_nil, List.cons_append, List.nil_append, List.length_cons, List.length_nil, Tryz.ntmps123, List.replicate, Nat.reduceSub, Nat.reduceAdd]
  refine Wc.seq ?_
  refine Wc.reg fun K hK => ?_; simp only [go_sem, ti3, ti9, ti5, ti4, ti35]; refine hK _ _ ?_; clear hK K
  refine Wc.seq ?_
  have hcs : (c < 48) ∨ (48 ≤ c ∧ c ≤ 57) ∨ (58 ≤ c ∧ c ≤ 64) ∨ (65 ≤ c ∧ c ≤ 90) ∨ (91 ≤ c ∧ c ≤ 96) ∨ (97 ≤ c ∧ c ≤ 122) ∨ (123 ≤ c) := by omega
  rcases hcs with hi | hi | hi | hi | hi | hi | hi
  ·
    have f0 : (97 ≤ c) = False := by simp only [eq_iff_iff, iff_false]; omega
    have f1 : (c ≤ 122) = True := by simp only [eq_iff_iff, iff_true]; omega
    have f2 : (65 ≤ c) = False := by simp only [eq_iff_iff, iff_false]; omega
    have f3 : (c ≤ 90) = True := by simp only [eq_iff_iff, iff_true]; omega
    have f4 : (48 ≤ c) = False := by simp only [eq_iff_iff, iff_false]; omega
    have f5 : (c ≤ 57) = True := by simp only [eq_iff_iff, iff_true]; omega
    have hb : (c == 95) = false := by simp; omega
    refine Wc.reg fun K hK => ?_; simp only [go_sem, ti3, ti9, ti5, ti4, ti35, f0, f1, f2, f3, f4, f5, hb]; refine hK _ _ ?_; clear hK K
    have e : nb c = false := by simp [nb]; omega
    rw [e]
    exact Wc.ret (Pf.ret [.tmp 2] [.c (.p (.bool false))] rfl rfl (by simp only [resultsD, go_sem, ti3, ti9, ti5, ti4, ti35, f0, f1, f2, f3, f4, f5, hb]) rfl)
  ·
    have f0 : (97 ≤ c) = False := by simp only [eq_iff_iff, iff_false]; omega
    have f1 : (c ≤ 122) = True := by simp only [eq_iff_iff, iff_true]; omega
    have f2 : (65 ≤ c) = False := by simp only [eq_iff_iff, iff_false]; omega
    have f3 : (c ≤ 90) = True := by simp only [eq_iff_iff, iff_true]; omega
    have f4 : (48 ≤ c) = True := by simp only [eq_iff_iff, iff_true]; omega
    have f5 : (c ≤ 57) = True := by simp only [eq_iff_iff, iff_true]; omega
    have hb : (c == 95) = false := by simp; omega
    refine Wc.reg fun K hK => ?_; simp only [go_sem, ti3, ti9, ti5, ti4, ti35, f0, f1, f2, f3, f4, f5, hb]; refine hK _ _ ?_; clear hK K
    have e : nb c = true := by simp [nb]; omega
    rw [e]
    exact Wc.ret (Pf.ret [.tmp 2] [.c (.p (.bool true))] rfl rfl (by simp only [resultsD, go_sem, ti3, ti9, ti5, ti4, ti35, f0, f1, f2, f3, f4, f5, hb]) rfl)
  ·
    have f0 : (97 ≤ c) = False := by simp only [eq_iff_iff, iff_false]; omega
    have f1 : (c ≤ 122) = True := by simp only [eq_iff_iff, iff_true]; omega
    have f2 : (65 ≤ c) = False := by simp only [eq_iff_iff, iff_false]; omega
    have f3 : (c ≤ 90) = True := by simp only [eq_iff_iff, iff_true]; omega
    have f4 : (48 ≤ c) = True := by simp only [eq_iff_iff, iff_true]; omega
    have f5 : (c ≤ 57) = False := by simp only [eq_iff_iff, iff_false]; omega
    have hb : (c == 95) = false := by simp; omega
    refine Wc.reg fun K hK => ?_; simp only [go_sem, ti3, ti9, ti5, ti4, ti35, f0, f1, f2, f3, f4, f5, hb]; refine hK _ _ ?_; clear hK K
    have e : nb c = false := by simp [nb]; omega
    rw [e]
    exact Wc.ret (Pf.ret [.tmp 2] [.c (.p (.bool false))] rfl rfl (by simp only [resultsD, go_sem, ti3, ti9, ti5, ti4, ti35, f0, f1, f2, f3, f4, f5, hb]) rfl)
  ·
    have f0 : (97 ≤ c) = False := by simp only [eq_iff_iff, iff_false]; omega
    have f1 : (c ≤ 122) = True := by simp only [eq_iff_iff, iff_true]; omega
    have f2 : (65 ≤ c) = True := by simp only [eq_iff_iff, iff_true]; omega
    have f3 : (c ≤ 90) = True := by simp only [eq_iff_iff, iff_true]; omega
    have f4 : (48 ≤ c) = True := by simp only [eq_iff_iff, iff_true]; omega
    have f5 : (c ≤ 57) = False := by simp only [eq_iff_iff, iff_false]; omega
    have hb : (c == 95) = false := by simp; omega
    refine Wc.reg fun K hK => ?_; simp only [go_sem, ti3, ti9, ti5, ti4, ti35, f0, f1, f2, f3, f4, f5, hb]; refine hK _ _ ?_; clear hK K
    have e : nb c = true := by simp [nb]; omega
    rw [e]
    exact Wc.ret (Pf.ret [.tmp 2] [.c (.p (.bool true))] rfl rfl (by simp only [resultsD, go_sem, ti3, ti9, ti5, ti4, ti35, f0, f1, f2, f3, f4, f5, hb]) rfl)
  ·
    have f0 : (97 ≤ c) = False := by simp only [eq_iff_iff, iff_false]; omega
    have f1 : (c ≤ 122) = True := by simp only [eq_iff_iff, iff_true]; omega
    have f2 : (65 ≤ c) = True := by simp only [eq_iff_iff, iff_true]; omega
    have f3 : (c ≤ 90) = False := by simp only [eq_iff_iff, iff_false]; omega
    have f4 : (48 ≤ c) = True := by simp only [eq_iff_iff, iff_true]; omega
    have f5 : (c ≤ 57) = False := by simp only [eq_iff_iff, iff_false]; omega
    by_cases h95 : c = 95
    · have hb : (c == 95) = true := by simpa using h95
      refine Wc.reg fun K hK => ?_; simp only [go_sem, ti3, ti9, ti5, ti4, ti35, f0, f1, f2, f3, f4, f5, hb]; refine hK _ _ ?_; clear hK K
      have e : nb c = true := by simp [nb]; omega
      rw [e]
      exact Wc.ret (Pf.ret [.tmp 2] [.c (.p (.bool true))] rfl rfl (by simp only [resultsD, go_sem, ti3, ti9, ti5, ti4, ti35, f0, f1, f2, f3, f4, f5, hb]) rfl)
    · have hb : (c == 95) = false := by simpa using h95
      refine Wc.reg fun K hK => ?_; simp only [go_sem, ti3, ti9, ti5, ti4, ti35, f0, f1, f2, f3, f4, f5, hb]; refine hK _ _ ?_; clear hK K
      have e : nb c = false := by simp [nb]; omega
      rw [e]
      exact Wc.ret (Pf.ret [.tmp 2] [.c (.p (.bool false))] rfl rfl (by simp only [resultsD, go_sem, ti3, ti9, ti5, ti4, ti35, f0, f1, f2, f3, f4, f5, hb]) rfl)
  ·
    have f0 : (97 ≤ c) = True := by simp only [eq_iff_iff, iff_true]; omega
    have f1 : (c ≤ 122) = True := by simp only [eq_iff_iff, iff_true]; omega
    have f2 : (65 ≤ c) = True := by simp only [eq_iff_iff, iff_true]; omega
    have f3 : (c ≤ 90) = False := by simp only [eq_iff_iff, iff_false]; omega
    have f4 : (48 ≤ c) = True := by simp only [eq_iff_iff, iff_true]; omega
    have f5 : (c ≤ 57) = False := by simp only [eq_iff_iff, iff_false]; omega
    have hb : (c == 95) = false := by simp; omega
    refine Wc.reg fun K hK => ?_; simp only [go_sem, ti3, ti9, ti5, ti4, ti35, f0, f1, f2, f3, f4, f5, hb]; refine hK _ _ ?_; clear hK K
    have e : nb c = true := by simp [nb]; omega
    rw [e]
    exact Wc.ret (Pf.ret [.tmp 2] [.c (.p (.bool true))] rfl rfl (by simp only [resultsD, go_sem, ti3, ti9, ti5, ti4, ti35, f0, f1, f2, f3, f4, f5, hb]) rfl)
  ·
    have f0 : (97 ≤ c) = True := by simp only [eq_iff_iff, iff_true]; omega
    have f1 : (c ≤ 122) = False := by simp only [eq_iff_iff, iff_false]; omega
    have f2 : (65 ≤ c) = True := by simp only [eq_iff_iff, iff_true]; omega
    have f3 : (c ≤ 90) = False := by simp only [eq_iff_iff, iff_false]; omega
    have f4 : (48 ≤ c) = True := by simp only [eq_iff_iff, iff_true]; omega
    have f5 : (c ≤ 57) = False := by simp only [eq_iff_iff, iff_false]; omega
    have hb : (c == 95) = false := by simp; omega
    refine Wc.reg fun K hK => ?_; simp only [go_sem, ti3, ti9, ti5, ti4, ti35, f0, f1, f2, f3, f4, f5, hb]; refine hK _ _ ?_; clear hK K
    have e : nb c = false := by simp [nb]; omega
    rw [e]
    exact Wc.ret (Pf.ret [.tmp 2] [.c (.p (.bool false))] rfl rfl (by simp only [resultsD, go_sem, ti3, ti9, ti5, ti4, ti35, f0, f1, f2, f3, f4, f5, hb]) rfl)
end Go.Proofs.YtafaoldmemcigaaGreat.Ab
namespace Go.Proofs.YtafaoldmemcigaaGreat.Ab
set_option maxHeartbeats 4000000
set_option maxRecDepth 10000
set_option linter.unusedSimpArgs false
set_option linter.unusedVariables false
def nbs (s : List UInt8) : Bool := s.all fun b => nb b.toNat
def digit (s : List UInt8) : Bool := match s with
  | [] => false
  | b :: _ => decide (48 ≤ b.toNat ∧ b.toNat ≤ 57)
/-- A name. -/
def nameOK (s : List UInt8) : Bool := decide (1 ≤ s.length ∧ s.length ≤ 60) && !digit s && nbs s
theorem digit_at {s : List UInt8} {b : UInt8} (h : s[0]? = some b) : digit s = decide (48 ≤ b.toNat ∧ b.toNat ≤ 57) := by
  cases s with
  | nil => simp at h
  | cons a r => simp at h; subst h; rfl
theorem nbs_bad {s : List UInt8} {b : UInt8} {i : Nat} (h : s[i]? = some b) (hb : nb b.toNat = false) : nbs s = false := by
  rw [Bool.eq_false_iff]
  intro hs
  have := List.all_eq_true.1 hs b (List.mem_of_getElem? h)
  rw [hb] at this; cases this
theorem nbs_take {s : List UInt8} {b : UInt8} {i : Nat} (h : s[i]? = some b) (hb : nb b.toNat = true) (ht : nbs (s.take i) = true) : nbs (s.take (i + 1)) = true := by
  unfold nbs at *
  rw [take_snoc h, List.all_append, ht]; simp [hb]
/-- 83: isName -/
theorem pf83 (s : List UInt8) : Pf E0 83 [.c (.p (.str s))] (P' (.bool (nameOK s))) := by
  refine Pf.body (fn := Tryz.f83) (by kernel_rfl) rfl ?_; simp only [List.map_cons, List.map_nil, List.cons_append, List.nil_append, List.length_cons, List.length_nil, Tryz.ntmps83, List.replicate, Nat.reduceSub, Nat.reduceAdd]
  refine Wc.seq ?_
  refine Wc.reg fun K hK => ?_; simp only [go_sem, ti3, ti9, ti5, ti4, ti35]; refine hK _ _ ?_; clear hK K
  refine Wc.seqR (fun y => (1 ≤ s.length ∧ s.length ≤ 60 ∧ digit s = false) ∧ y.ds = [] ∧ y.e.length = 33 ∧ y.e.getD 0 .junk = P' (.str s)) ?_ ?_
  · have bad : ¬ (1 ≤ s.length ∧ s.length ≤ 60 ∧ digit s = false) → nameOK s = false := fun h => by
      unfold nameOK
      rw [Bool.and_eq_false_iff, Bool.and_eq_false_iff, decide_eq_false_iff_not]
      by_cases h1 : 1 ≤ s.length ∧ s.length ≤ 60
      · cases hd : digit s with
        | true => exact .inl (.inr rfl)
        | false => exact absurd ⟨h1.1, h1.2, hd⟩ h
      · exact .inl (.inl h1)
    refine Wc.seq ?_
    by_cases h1 : s.length < 1
    · have f1 : ((s.length : Int) < 1) = True := by simp only [eq_iff_iff, iff_true]; omega
      refine Wc.reg fun K hK => ?_; simp only [go_sem, ti3, ti9, ti5, ti4, ti35, f1]; refine hK _ _ ?_; clear hK K
      refine Wc.cond (t := true) (by simp only [go_sem, ti3, ti9, ti5, ti4, ti35, f1]) (fun _ => ?_) (fun hc => by cases hc)
      refine Wc.seq ?_
      refine Wc.reg fun K hK => ?_; simp only [go_sem, ti3, ti9, ti5, ti4, ti35]; refine hK _ _ ?_; clear hK K
      rw [bad (by omega)]
      exact Wc.ret (Pf.ret [.tmp 2] [.c (.p (.bool false))] rfl rfl (by simp only [resultsD, go_sem, ti3, ti9, ti5, ti4, ti35]) rfl)
    have f1 : ((s.length : Int) < 1) = False := by simp only [eq_iff_iff, iff_false]; omega
    by_cases h2 : 60 < s.length
    · have f2 : (60 < (s.length : Int)) = True := by simp only [eq_iff_iff, iff_true]; omega
      refine Wc.reg fun K hK => ?_; simp only [go_sem, ti3, ti9, ti5, ti4, ti35, f1, f2]; refine hK _ _ ?_; clear hK K
      refine Wc.cond (t := true) (by simp only [go_sem, ti3, ti9, ti5, ti4, ti35, f1, f2]) (fun _ => ?_) (fun hc => by cases hc)
      refine Wc.seq ?_
      refine Wc.reg fun K hK => ?_; simp only [go_sem, ti3, ti9, ti5, ti4, ti35]; refine hK _ _ ?_; clear hK K
      rw [bad (by omega)]
      exact Wc.ret (Pf.ret [.tmp 2] [.c (.p (.bool false))] rfl rfl (by simp only [resultsD, go_sem, ti3, ti9, ti5, ti4, ti35]) rfl)
    have f2 : (60 < (s.length : Int)) = False := by simp only [eq_iff_iff, iff_false]; omega
    obtain ⟨b, hb⟩ : ∃ b, s[0]? = some b := ⟨s[0], List.getElem?_eq_getElem (by omega)⟩
    have hd := digit_at hb
    by_cases h3 : 48 ≤ b.toNat
    · have f3 : ((48 : Int) ≤ (b.toNat : Int)) = True := by simp only [eq_iff_iff, iff_true]; omega
      refine Wc.reg fun K hK => ?_; simp only [go_sem, ti3, ti9, ti5, ti4, ti35, f1, f2, f3, hb, pdOfByte]; refine hK _ _ ?_; clear hK K
      refine Wc.cond (t := decide ((b.toNat : Int) ≤ 57)) (by simp only [go_sem, ti3, ti9, ti5, ti4, ti35, f1, f2, f3]) (fun hc => ?_) (fun hc => ?_)
      · have h4 : (b.toNat : Int) ≤ 57 := by simpa using hc
        refine Wc.seq ?_
        refine Wc.reg fun K hK => ?_; simp only [go_sem, ti3, ti9, ti5, ti4, ti35]; refine hK _ _ ?_; clear hK K
        rw [bad (by rw [hd]; simp; omega)]
        exact Wc.ret (Pf.ret [.tmp 2] [.c (.p (.bool false))] rfl rfl (by simp only [resultsD, go_sem, ti3, ti9, ti5, ti4, ti35]) rfl)
      · have h4 : ¬ (b.toNat : Int) ≤ 57 := by simpa using hc
        exact Wc.skip ⟨⟨by omega, by omega, by rw [hd]; simp; omega⟩, rfl, rfl, rfl⟩
    · have f3 : ((48 : Int) ≤ (b.toNat : Int)) = False := by simp only [eq_iff_iff, iff_false]; omega
      refine Wc.reg fun K hK => ?_; simp only [go_sem, ti3, ti9, ti5, ti4, ti35, f1, f2, f3, hb, pdOfByte]; refine hK _ _ ?_; clear hK K
      refine Wc.cond (t := false) (by simp only [go_sem, ti3, ti9, ti5, ti4, ti35, f1, f2, f3]) (fun hc => by cases hc) (fun _ => ?_)
      exact Wc.skip ⟨⟨by omega, by omega, by rw [hd]; simp; omega⟩, rfl, rfl, rfl⟩
  · rintro ⟨e, ds, s1⟩ ⟨⟨h1, h2, h3⟩, rfl, hlen, h0⟩
    simp only at hlen h0
    have e0 : nameOK s = nbs s := by unfold nameOK; rw [h3]; simp [h1, h2]
    rw [e0]
    refine Wc.seq (Wc.seq ?_)
    refine Wc.reg fun K hK => ?_; simp only [go_sem, ti3, ti9, ti5, ti4, ti35, hlen, h0, Int.natCast_zero]; refine hK _ _ ?_; clear hK K
    refine Wc.block (Wc.loop (fun k y => ∃ i : Nat, k = s.length - i ∧ i ≤ s.length ∧ y.ds = [] ∧ y.e.length = 33 ∧ y.e.getD 0 .junk = P' (.str s) ∧ y.e.getD 3 .junk = P' (pI i) ∧ nbs (s.take i) = true) ?_ (k := s.length) ?_)
    · clear hlen h0 e s1
      rintro k ⟨e, ds, s1⟩ ⟨i, rfl, hi, rfl, hlen, h0, h3, hn⟩
      simp only at hlen h0 h3
      refine Wc.seq (Wc.seq ?_)
      refine Wc.reg fun K hK => ?_; simp only [go_sem, ti3, ti9, ti5, ti4, ti35, hlen, h0, h3]; refine hK _ _ ?_; clear hK K
      refine Wc.cond (t := decide ((i : Int) < s.length)) (by simp only [go_sem, ti3, ti9, ti5, ti4, ti35, hlen]) (fun hc => ?_) (fun hc => ?_)
      · have hil : i < s.length := by have : (i : Int) < s.length := by simpa using hc
                                      omega
        obtain ⟨b, hb⟩ : ∃ b, s[i]? = some b := ⟨s[i], List.getElem?_eq_getElem hil⟩
        refine Wc.skip (Wc.seq (Wc.block (Wc.seq ?_)))
        refine Wc.reg fun K hK => ?_; simp only [go_sem, ti3, ti9, ti5, ti4, ti35, hlen, h0, h3, hb, pdOfByte]
        refine wpCall.pf (pf123 b.toNat) (by kernel_rfl) (by kernel_rfl) rfl rfl ?_
        simp only [go_sem, ti3, ti9, ti5, ti4, ti35, hlen, h0, h3]; refine hK _ _ ?_; clear hK K
        refine Wc.cond (t := !(nb b.toNat)) (by simp only [go_sem, ti3, ti9, ti5, ti4, ti35, hlen]) (fun hc => ?_) (fun hc => ?_)
        · have hbf : nb b.toNat = false := by simpa using hc
          refine Wc.seq ?_
          refine Wc.reg fun K hK => ?_; simp only [go_sem, ti3, ti9, ti5, ti4, ti35, hlen]; refine hK _ _ ?_; clear hK K
          rw [nbs_bad hb hbf]
          exact Wc.ret (Pf.ret [.tmp 2] [.c (.p (.bool false))] rfl rfl (by simp only [resultsD, go_sem, ti3, ti9, ti5, ti4, ti35, hlen]) rfl)
        · have hbt : nb b.toNat = true := by simpa using hc
          refine Wc.skip ?_
          refine Wc.reg fun K hK => ?_; simp only [go_sem, ti3, ti9, ti5, ti4, ti35, hlen, h0, h3, i64n i (by omega)]; refine hK _ _ ?_; clear hK K
          exact ⟨s.length - (i + 1), by omega, i + 1, rfl, by omega, rfl, by simp only [go_sem, ti3, ti9, ti5, ti4, ti35, hlen], by simp only [go_sem, ti3, ti9, ti5, ti4, ti35, hlen, h0], by simp only [go_sem, ti3, ti9, ti5, ti4, ti35, hlen], nbs_take hb hbt hn⟩
      · have hil : i = s.length := by have : ¬ (i : Int) < s.length := by simpa using hc
                                      omega
        subst hil
        rw [List.take_length] at hn
        refine Wc.exit (Wc.seq ?_)
        refine Wc.reg fun K hK => ?_; simp only [go_sem, ti3, ti9, ti5, ti4, ti35, hlen]; refine hK _ _ ?_; clear hK K
        rw [hn]
        exact Wc.ret (Pf.ret [.tmp 2] [.c (.p (.bool true))] rfl rfl (by simp only [resultsD, go_sem, ti3, ti9, ti5, ti4, ti35, hlen]) rfl)
    · exact ⟨0, rfl, by omega, rfl, by simp only [go_sem, ti3, ti9, ti5, ti4, ti35, hlen], by simp only [go_sem, ti3, ti9, ti5, ti4, ti35, hlen, h0], by simp only [go_sem, ti3, ti9, ti5, ti4, ti35, hlen]; rfl, rfl⟩
end Go.Proofs.YtafaoldmemcigaaGreat.Ab
