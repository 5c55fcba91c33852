/- A part of the proof: an evaluator of the code, its contracts, the law. No condition. -/
import Derived.Test.YtafaoldmemcigaaGreatT28
import Derived.Test.YtafaoldmemcigaaGreatT27
namespace Go.Proofs.YtafaoldmemcigaaGreat.Ab
set_option maxHeartbeats 8000000
set_option maxRecDepth 10000
set_option linter.unusedSimpArgs false
set_option linter.unusedVariables false
abbrev encF' (x : HSm) : List C := x.pd.map .p
theorem o49 : E0.opn 49 = false := by kernel_rfl
theorem x49 : E0.xt 49 = none := by kernel_rfl
theorem o118 : E0.opn 118 = true := by kernel_rfl
theorem o52 : E0.opn 52 = false := by kernel_rfl
theorem x52 : E0.xt 52 = none := by kernel_rfl
theorem o120 : E0.opn 120 = false := by kernel_rfl
theorem x120 : E0.xt 120 = none := by kernel_rfl
theorem unpkG_len {A : Type} : ∀ (cs : List (ColR A)) (ss : List (List UInt8)) (l l' : List A), unpkG cs ss l = some l' → l'.length = l.length
  | [], ss, l, l', h => by
    unfold unpkG at h; cases h; rfl
  | c :: cs, [], l, l', h => by
    unfold unpkG at h; cases h; rfl
  | c :: cs, s :: ss, l, l', h => by
    unfold unpkG at h
    split at h
    · cases h
    · rename_i h1
      have h2 : (decF c.1 s).1.length = l.length := Decidable.not_not.1 fun hn => h1 (.inr hn)
      rw [unpkG_len cs ss _ l' h, List.length_zipWith, h2, Nat.min_self]
theorem unpk_len {A : Type} {z : A} {cs : List (ColR A)} {ss : List (List UInt8)} {l : List A} (h : unpk z cs ss = some l) : l.length ≤ 20001 := by
  cases cs with
  | nil => unfold unpk at h; cases h; simp
  | cons c cs =>
    cases ss with
    | nil => unfold unpk at h; cases h; simp
    | cons s ss =>
      simp only [unpk] at h
      split at h
      · cases h
      · rw [unpkG_len _ _ _ _ h, List.length_map]
        exact decF_len _ _
theorem flat_dropN {A : Type} {f : A → List Pd} {k : Nat} (hk : ∀ x, (f x).length = k) : ∀ (l : List A) (m : Nat), (l.flatMap f).drop (m * k) = (l.drop m).flatMap f
  | [], m => by simp
  | x :: r, 0 => by simp
  | x :: r, m + 1 => by
    have : (m + 1) * k = (f x).length + m * k := by rw [hk, Nat.add_mul]; omega
    rw [this, List.flatMap_cons, ← List.drop_drop, List.drop_left, flat_dropN hk r m]
    rfl
theorem flat_takeN {A : Type} {f : A → List Pd} {k : Nat} (hk : ∀ x, (f x).length = k) : ∀ (l : List A) (m : Nat), (l.flatMap f).take (m * k) = (l.take m).flatMap f
  | [], m => by simp
  | x :: r, 0 => by simp
  | x :: r, m + 1 => by
    have : (m + 1) * k = (f x).length + m * k := by rw [hk, Nat.add_mul]; omega
    rw [this, List.flatMap_cons, List.take_append, List.take_of_length_le (by omega), Nat.add_sub_cancel_left, flat_takeN hk r m]
    rfl
/-- The histograms' slice, the first ones whole. -/
def HSt (l D : List HSm) (i : Nat) (cl : C) (s : St) : Prop := (l = [] ∧ (cl = .nils ∨ ∃ k, cl = .own 0 [] k)) ∨ ∃ k, cl = .mt k 0 l.length 7 ∧ OA s.nx s [] [(k, .cells (D.flatMap encF' ++ (l.drop i).flatMap encZ) false)] ∧ l ≠ []
theorem HSt.adv {l D : List HSm} {i n : Nat} {cl : C} {s : St} (h : HSt l D i cl s) : HSt l D i cl (s.adv n) := by
  rcases h with h | ⟨k, h1, h2, h3⟩
  · exact .inl h
  · exact .inr ⟨k, h1, (h2.mono (Nat.le_add_right _ n)).adv, h3⟩
/-- 80: unpackHists -/
theorem pf80 (c0 c1 c2 c3 c4 c5 c6 c7 c8 : List UInt8) (hs : ∀ x ∈ [c0, c1, c2, c3, c4, c5, c6, c7, c8], x.length < 2^40) : ∃ d, Pf E0 80 [.c (.p (.lst 9 [.str c0, .str c1, .str c2, .str c3, .str c4, .str c5, .str c6, .str c7, .str c8]))] d ∧
    ∃ l : List HSm, d = .tup [.c (.p (.lst l.length (l.flatMap HSm.pd))), .c (.p (.bool (unpH [c0, c1, c2, c3, c4, c5, c6, c7, c8]).isSome))] ∧ ∀ x, unpH [c0, c1, c2, c3, c4, c5, c6, c7, c8] = some x → l = x := by
  refine Pf.bodyE (fn := Tryz.f80) (by kernel_rfl) rfl ?_; simp only [List.map_cons, List.map_nil, List.cons_append, List.nil_append, List.length_cons, List.length_nil, Tryz.ntmps80, List.replicate, Nat.reduceSub, Nat.reduceAdd]
  have hi5 : indexAddrD E0 48 (.v (.c (.p (.lst 9 [.str c0, .str c1, .str c2, .str c3, .str c4, .str c5, .str c6, .str c7, .str c8])))) (.v (.c (.p (.int .i64 5)))) = some (.v (.c (.rp [.str c0, .str c1, .str c2, .str c3, .str c4, .str c5, .str c6, .str c7, .str c8] 5))) := ixA ti48 rfl ti9 (j := 5) (m := 9) (by decide) rfl (by decide)
  have hi8 : indexAddrD E0 48 (.v (.c (.p (.lst 9 [.str c0, .str c1, .str c2, .str c3, .str c4, .str c5, .str c6, .str c7, .str c8])))) (.v (.c (.p (.int .i64 8)))) = some (.v (.c (.rp [.str c0, .str c1, .str c2, .str c3, .str c4, .str c5, .str c6, .str c7, .str c8] 8))) := ixA ti48 rfl ti9 (j := 8) (m := 9) (by decide) rfl (by decide)
  have hc5 := rpA (cs := [.str c0, .str c1, .str c2, .str c3, .str c4, .str c5, .str c6, .str c7, .str c8]) (off := 5) (pre := [.str c5]) (rest := [.str c6, .str c7, .str c8]) rfl (by simp)
  have hc8 := rpA (cs := [.str c0, .str c1, .str c2, .str c3, .str c4, .str c5, .str c6, .str c7, .str c8]) (off := 8) (pre := [.str c8]) (rest := []) rfl (by simp)
  have c9 : ((9 : Nat) : Int) = 9 := rfl
  generalize hR : unpH [c0, c1, c2, c3, c4, c5, c6, c7, c8] = R
  have bad : ∀ (e : List D) (s : St), R = none → resultsD E0 e s [.tmp 2, .tmp 3] = some [.c .nils, .c (.p (.bool false))] → bodyQ E0 Tryz.f80 (fun d0 s2 => ∃ d s3, purD s2 d0 = some (d, s3) ∧ ∃ l : List HSm, d = .tup [.c (.p (.lst l.length (l.flatMap HSm.pd))), .c (.p (.bool R.isSome))] ∧ ∀ x, R = some x → l = x) .ret { e := e, ds := [], s := s } := fun e s hn hr => by
    subst hn
    exact Pf.retE [.tmp 2, .tmp 3] [.c .nils, .c (.p (.bool false))] rfl rfl hr rfl ⟨[], rfl, fun x h => by cases h⟩
  refine Wc.seq ?_
  refine Wc.reg fun K hK => ?_; simp only [go_sem, ti3, ti9, ti4, ti35, ti48, ti77, ti24, ti57, ti55, ti53, ti83]; refine hK _ _ ?_; clear hK K
  refine Wc.seq ?_
  refine Wc.regT fun K hK => ?_; simp only [go_sem, ti3, ti9, ti4, ti35, ti48, ti77, ti24, ti57, ti55, ti53, ti83, c9, o49, x49, o118, List.all_nil, Option.isNone_none]
  refine wpCall.pf pf49 x49 o49 rfl rfl ?_
  simp only [go_sem, ti3, ti9, ti4, ti35, ti48, ti77, ti24, ti57, ti55, ti53, ti83, o49, x49, o118, List.all_nil, Option.isNone_none]
  have hs5 : ∀ x ∈ [c0, c1, c2, c3, c4], x.length < 2^40 := fun x hx => hs x (by simp only [List.mem_cons, List.mem_nil_iff, or_false] at hx ⊢; rcases hx with h | h | h | h | h <;> simp [h])
  refine call118 (ss := [c0, c1, c2, c3, c4]) (L := []) (M := []) (by simp only [St.nx_put, St.nx_adv]; repeat (first | exact OA.mono s00_oa (by omega) | refine OA.newB ?_ (by omega) rfl | refine OA.advB ?_)) rfl hs5 (fun hN s' ho => ?_) (fun l hl s' cl ho => ?_)
  · have hRn : R = none := by rw [← hR]; simp only [unpH, hN]
    simp only [go_sem, ti3, ti9, ti4, ti35, ti48, ti77, ti24, ti57, ti55, ti53, ti83, o49, x49, o118, List.all_nil, Option.isNone_none]
    refine ⟨by rfl, hK _ _ ?_⟩
    refine Wc.seq (Wc.seq ?_)
    refine Wc.reg fun K hK => ?_; simp only [go_sem, ti3, ti9, ti4, ti35, ti48, ti77, ti24, ti57, ti55, ti53, ti83]; refine hK _ _ ?_; clear hK K
    refine Wc.cond (t := true) (by simp only [go_sem, ti3, ti9, ti4, ti35, ti48, ti77, ti24, ti57, ti55, ti53, ti83]) (fun _ => ?_) (fun hc => by cases hc)
    refine Wc.seq ?_
    refine Wc.reg fun K hK => ?_; simp only [go_sem, ti3, ti9, ti4, ti35, ti48, ti77, ti24, ti57, ti55, ti53, ti83]; refine hK _ _ ?_; clear hK K
    exact Wc.ret (bad _ _ hRn (by simp only [resultsD, go_sem, ti3, ti9, ti4, ti35, ti48, ti77, ti24, ti57, ti55, ti53, ti83]))
  have hll := unpk_len hl
  simp only [unpH, hl] at hR
  simp only [go_sem, ti3, ti9, ti4, ti35, ti48, ti77, ti24, ti57, ti55, ti53, ti83, o49, x49, o118, List.all_nil, Option.isNone_none]
  refine ⟨by rfl, hK _ _ ?_⟩
  clear hK K
  refine Wc.seq (Wc.seq ?_)
  refine Wc.reg fun K hK => ?_; simp only [go_sem, ti3, ti9, ti4, ti35, ti48, ti77, ti24, ti57, ti55, ti53, ti83]; refine hK _ _ ?_; clear hK K
  refine Wc.cond (t := false) (by simp only [go_sem, ti3, ti9, ti4, ti35, ti48, ti77, ti24, ti57, ti55, ti53, ti83]) (fun hc => by cases hc) (fun _ => Wc.skip ?_)
  have hlen : lenD E0 24 (.v (.c cl)) = some (.v (.c (.p (.int .i64 (l.length : Int))))) := ho.len ti24 rfl
  have p119 := pf119 c5 (hs c5 (by simp))
  generalize hN : decV c5 = N at hR p119
  obtain ⟨N, er⟩ := N
  simp only at hR p119
  refine Wc.seq ?_
  refine Wc.reg fun K hK => ?_; simp only [go_sem, ti3, ti9, ti4, ti35, ti48, ti77, ti24, ti57, ti55, ti53, ti83, hi5, hc5]
  refine wpCall.pf p119 (by kernel_rfl) (by kernel_rfl) rfl rfl ?_
  simp only [go_sem, ti3, ti9, ti4, ti35, ti48, ti77, ti24, ti57, ti55, ti53, ti83]; refine hK _ _ ?_; clear hK K
  refine Wc.seqR (fun y => (er = 0 ∧ N.length = l.length) ∧ y.ds = [] ∧ Fs y.e 103 [(0, P' (.lst 9 [.str c0, .str c1, .str c2, .str c3, .str c4, .str c5, .str c6, .str c7, .str c8])), (4, .v (.c cl)), (6, P' (.lst N.length (N.map pI)))] ∧ SlS encZ 7 l [] [] cl y.s) ?_ ?_
  · refine Wc.seq ?_
    by_cases he : er = 0
    · have d0 : (er != 0) = false := by simpa using he
      refine Wc.reg fun K hK => ?_; simp only [go_sem, ti3, ti9, ti4, ti35, ti48, ti77, ti24, ti57, ti55, ti53, ti83, d0, hlen]; refine hK _ _ ?_; clear hK K
      refine Wc.cond (t := ((N.length : Int) != (l.length : Int))) (by simp only [go_sem, ti3, ti9, ti4, ti35, ti48, ti77, ti24, ti57, ti55, ti53, ti83]) (fun hc => ?_) (fun hc => ?_)
      · have h1 : N.length ≠ l.length := by have : ¬ (N.length : Int) = (l.length : Int) := by simpa using hc
                                            omega
        rw [if_pos (.inr h1)] at hR
        refine Wc.seq ?_
        refine Wc.reg fun K hK => ?_; simp only [go_sem, ti3, ti9, ti4, ti35, ti48, ti77, ti24, ti57, ti55, ti53, ti83]; refine hK _ _ ?_; clear hK K
        exact Wc.ret (bad _ _ hR.symm (by simp only [resultsD, go_sem, ti3, ti9, ti4, ti35, ti48, ti77, ti24, ti57, ti55, ti53, ti83]))
      · have h1 : N.length = l.length := by have : (N.length : Int) = (l.length : Int) := by simpa using hc
                                            omega
        refine Wc.skip ⟨⟨he, h1⟩, rfl, by simp only [Fs, Int.natCast_zero, go_sem, ti3, ti9, ti4, ti35, ti48, ti77, ti24, ti57, ti55, ti53, ti83], ?_⟩
        repeat refine SlS.adv ?_
        exact ho
    · have d0 : (er != 0) = true := by simpa using he
      rw [if_pos (.inl he)] at hR
      refine Wc.reg fun K hK => ?_; simp only [go_sem, ti3, ti9, ti4, ti35, ti48, ti77, ti24, ti57, ti55, ti53, ti83, d0, hlen]; refine hK _ _ ?_; clear hK K
      refine Wc.cond (t := true) (by simp only [go_sem, ti3, ti9, ti4, ti35, ti48, ti77, ti24, ti57, ti55, ti53, ti83]) (fun _ => ?_) (fun hc => by cases hc)
      refine Wc.seq ?_
      refine Wc.reg fun K hK => ?_; simp only [go_sem, ti3, ti9, ti4, ti35, ti48, ti77, ti24, ti57, ti55, ti53, ti83]; refine hK _ _ ?_; clear hK K
      exact Wc.ret (bad _ _ hR.symm (by simp only [resultsD, go_sem, ti3, ti9, ti4, ti35, ti48, ti77, ti24, ti57, ti55, ti53, ti83]))
  clear ho
  rintro ⟨e, ds, s1⟩ ⟨⟨he, hNl⟩, rfl, hF, ho⟩
  simp only [Fs] at hF ho
  rw [if_neg (by rintro (h | h) <;> contradiction)] at hR
  have p120 := pf120 [c6, c7] rfl (fun x hx => hs x (by simp only [List.mem_cons, List.mem_nil_iff, or_false] at hx ⊢; rcases hx with h | h <;> simp [h]))
  have p121 := pf121 c8 (hs c8 (by simp))
  refine Wc.seq ?_
  refine Wc.regD fun K hK => ?_; simp only [go_sem, ti3, ti9, ti4, ti35, ti48, ti77, ti24, ti57, ti55, ti53, ti83, hF, c9]
  refine ⟨by simp [o52, x52], ?_⟩
  refine wpCall.pf pf52 x52 o52 rfl rfl ?_
  simp only [go_sem, ti3, ti9, ti4, ti35, ti48, ti77, ti24, ti57, ti55, ti53, ti83, hF]
  refine ⟨by simp [o120, x120, plainD, plainV, plainC], ?_⟩
  refine wpCall.pf p120 x120 o120 rfl rfl ?_
  cases hB : unpk (0, 0) bckR [c6, c7] with
  | none =>
    rw [hB] at hR
    simp only [unpR]
    simp only [go_sem, ti3, ti9, ti4, ti35, ti48, ti77, ti24, ti57, ti55, ti53, ti83, hF]; refine hK _ _ ?_; clear hK K
    refine Wc.seq (Wc.seq ?_)
    refine Wc.reg fun K hK => ?_; simp only [go_sem, ti3, ti9, ti4, ti35, ti48, ti77, ti24, ti57, ti55, ti53, ti83, hF]; refine hK _ _ ?_; clear hK K
    refine Wc.cond (t := true) (by simp only [go_sem, ti3, ti9, ti4, ti35, ti48, ti77, ti24, ti57, ti55, ti53, ti83, hF]) (fun _ => ?_) (fun hc => by cases hc)
    refine Wc.seq ?_
    refine Wc.reg fun K hK => ?_; simp only [go_sem, ti3, ti9, ti4, ti35, ti48, ti77, ti24, ti57, ti55, ti53, ti83, hF]; refine hK _ _ ?_; clear hK K
    exact Wc.ret (bad _ _ hR.symm (by simp only [resultsD, go_sem, ti3, ti9, ti4, ti35, ti48, ti77, ti24, ti57, ti55, ti53, ti83, hF]))
  | some bk =>
    rw [hB] at hR
    have hbk := unpk_len hB
    simp only at hR
    simp only [unpR]
    simp only [go_sem, ti3, ti9, ti4, ti35, ti48, ti77, ti24, ti57, ti55, ti53, ti83, hF]; refine hK _ _ ?_; clear hK K
    refine Wc.seq (Wc.seq ?_)
    refine Wc.reg fun K hK => ?_; simp only [go_sem, ti3, ti9, ti4, ti35, ti48, ti77, ti24, ti57, ti55, ti53, ti83, hF]; refine hK _ _ ?_; clear hK K
    refine Wc.cond (t := false) (by simp only [go_sem, ti3, ti9, ti4, ti35, ti48, ti77, ti24, ti57, ti55, ti53, ti83, hF]) (fun hc => by cases hc) (fun _ => Wc.skip ?_)
    generalize hS : decI c8 = S at hR p121
    obtain ⟨S, er2⟩ := S
    simp only at hR p121
    refine Wc.seq ?_
    refine Wc.reg fun K hK => ?_; simp only [go_sem, ti3, ti9, ti4, ti35, ti48, ti77, ti24, ti57, ti55, ti53, ti83, hF, hi8, hc8]
    refine wpCall.pf p121 (by kernel_rfl) (by kernel_rfl) rfl rfl ?_
    simp only [go_sem, ti3, ti9, ti4, ti35, ti48, ti77, ti24, ti57, ti55, ti53, ti83, hF]; refine hK _ _ ?_; clear hK K
    refine Wc.seqR (fun y => (er2 = 0 ∧ S.length = l.length) ∧ y.ds = [] ∧ Fs y.e 103 [(4, .v (.c cl)), (6, P' (.lst N.length (N.map pI))), (8, P' (.lst bk.length (bk.flatMap p2))), (9, P' (.lst S.length (S.map pI)))] ∧ SlS encZ 7 l [] [] cl y.s) ?_ ?_
    · refine Wc.seq ?_
      by_cases he : er2 = 0
      · have d0 : (er2 != 0) = false := by simpa using he
        refine Wc.reg fun K hK => ?_; simp only [go_sem, ti3, ti9, ti4, ti35, ti48, ti77, ti24, ti57, ti55, ti53, ti83, hF, d0, hlen]; refine hK _ _ ?_; clear hK K
        refine Wc.cond (t := ((S.length : Int) != (l.length : Int))) (by simp only [go_sem, ti3, ti9, ti4, ti35, ti48, ti77, ti24, ti57, ti55, ti53, ti83, hF]) (fun hc => ?_) (fun hc => ?_)
        · have h1 : S.length ≠ l.length := by have : ¬ (S.length : Int) = (l.length : Int) := by simpa using hc
                                              omega
          rw [if_pos (.inr h1)] at hR
          refine Wc.seq ?_
          refine Wc.reg fun K hK => ?_; simp only [go_sem, ti3, ti9, ti4, ti35, ti48, ti77, ti24, ti57, ti55, ti53, ti83, hF]; refine hK _ _ ?_; clear hK K
          exact Wc.ret (bad _ _ hR.symm (by simp only [resultsD, go_sem, ti3, ti9, ti4, ti35, ti48, ti77, ti24, ti57, ti55, ti53, ti83, hF]))
        · have h1 : S.length = l.length := by have : (S.length : Int) = (l.length : Int) := by simpa using hc
                                              omega
          refine Wc.skip ⟨⟨he, h1⟩, rfl, by simp only [Fs, Int.natCast_zero, go_sem, ti3, ti9, ti4, ti35, ti48, ti77, ti24, ti57, ti55, ti53, ti83, hF], ?_⟩
          repeat refine SlS.adv ?_
          exact ho
      · have d0 : (er2 != 0) = true := by simpa using he
        rw [if_pos (.inl he)] at hR
        refine Wc.reg fun K hK => ?_; simp only [go_sem, ti3, ti9, ti4, ti35, ti48, ti77, ti24, ti57, ti55, ti53, ti83, hF, d0, hlen]; refine hK _ _ ?_; clear hK K
        refine Wc.cond (t := true) (by simp only [go_sem, ti3, ti9, ti4, ti35, ti48, ti77, ti24, ti57, ti55, ti53, ti83, hF]) (fun _ => ?_) (fun hc => by cases hc)
        refine Wc.seq ?_
        refine Wc.reg fun K hK => ?_; simp only [go_sem, ti3, ti9, ti4, ti35, ti48, ti77, ti24, ti57, ti55, ti53, ti83, hF]; refine hK _ _ ?_; clear hK K
        exact Wc.ret (bad _ _ hR.symm (by simp only [resultsD, go_sem, ti3, ti9, ti4, ti35, ti48, ti77, ti24, ti57, ti55, ti53, ti83, hF]))
    clear ho hF e s1
    rintro ⟨e, ds, s1⟩ ⟨⟨he2, hSl⟩, rfl, hF, ho⟩
    simp only [Fs] at hF ho
    rw [if_neg (by rintro (h | h) <;> contradiction)] at hR
    refine Wc.seqR (fun y => ∃ (D : List HSm) (bs : List I2), y.ds = [] ∧ Fs y.e 103 [(4, .v (.c cl)), (8, P' (.lst bs.length (bs.flatMap p2)))] ∧ HSt l D l.length cl y.s ∧ D.length = l.length ∧ R = if bs = [] then some D else none) ?_ ?_
    · refine Wc.seq ?_
      refine Wc.reg fun K hK => ?_; simp only [go_sem, ti3, ti9, ti4, ti35, ti48, ti77, ti24, ti57, ti55, ti53, ti83, hF, Int.natCast_zero]; refine hK _ _ ?_; clear hK K
      refine Wc.block (Wc.loop (fun k y => ∃ (i : Nat) (D : List HSm) (bs : List I2), k = N.length - i ∧ i ≤ N.length ∧ bs.length ≤ 20001 ∧ y.ds = [] ∧ Fs y.e 103 [(4, .v (.c cl)), (8, P' (.lst bs.length (bs.flatMap p2))), (9, P' (.lst S.length (S.map pI))), (62, P' (.lst N.length (N.map pI))), (63, P' (pI N.length)), (64, P' (pI i))] ∧ HSt l D i cl y.s ∧ D.length = i ∧ R = (distH (l.drop i) (N.drop i) (S.drop i) bs).map (D ++ ·)) ?_ (k := N.length) ?_)
      · clear hF ho e s1
        rintro k ⟨e, ds, s1⟩ ⟨i, D, bs, rfl, hi, hbs, rfl, hF, ho, hDl, hRi⟩
        simp only [Fs] at hF ho
        refine Wc.seq ?_
        refine Wc.reg fun K hK => ?_; simp only [go_sem, ti3, ti9, ti4, ti35, ti48, ti77, ti24, ti57, ti55, ti53, ti83, hF]; refine hK _ _ ?_; clear hK K
        refine Wc.seq (Wc.cond (t := decide ((i : Int) < N.length)) (by simp only [go_sem, ti3, ti9, ti4, ti35, ti48, ti77, ti24, ti57, ti55, ti53, ti83, hF]) (fun hc => ?_) (fun hc => ?_))
        · have hil : i < N.length := by have : (i : Int) < N.length := by simpa using hc
                                        omega
          obtain ⟨n, hn⟩ : ∃ n, N[i]? = some n := ⟨N[i], List.getElem?_eq_getElem hil⟩
          obtain ⟨a, ha⟩ : ∃ a, l[i]? = some a := ⟨l[i], List.getElem?_eq_getElem (by omega)⟩
          obtain ⟨v, hv⟩ : ∃ v, S[i]? = some v := ⟨S[i], List.getElem?_eq_getElem (by omega)⟩
          have hin := ixA ti77 rfl ti3 (j := i) (m := N.length) (cs := N.map pI) hil (by simp) (by decide)
          have hcn := rpA (off := i) (drop_map pI hn) (by simp; omega)
          have hiv := ixA ti77 rfl ti3 (j := i) (m := S.length) (cs := S.map pI) (by omega) (by simp) (by decide)
          have hcv := rpA (off := i) (drop_map pI hv) (by simp; omega)
          have hla : l.drop i = a :: l.drop (i + 1) := by rw [List.drop_eq_getElem_cons (by omega), (List.getElem?_eq_some_iff.1 ha).2]
          rw [hla, List.drop_eq_getElem_cons hil, (List.getElem?_eq_some_iff.1 hn).2, List.drop_eq_getElem_cons (by omega : i < S.length), (List.getElem?_eq_some_iff.1 hv).2, distH] at hRi
          refine Wc.skip (Wc.seq (Wc.block (Wc.seq ?_)))
          refine Wc.reg fun K hK => ?_; simp only [go_sem, ti3, ti9, ti4, ti35, ti48, ti77, ti24, ti57, ti55, ti53, ti83, hF, hin, hcn]; refine hK _ _ ?_; clear hK K
          refine Wc.seqR (fun y => ¬ (n < 0 ∨ (bs.length : Int) < n) ∧ y.ds = [] ∧ Fs y.e 103 [(4, .v (.c cl)), (8, P' (.lst bs.length (bs.flatMap p2))), (9, P' (.lst S.length (S.map pI))), (62, P' (.lst N.length (N.map pI))), (63, P' (pI N.length)), (64, P' (pI i)), (10, P' (pI i)), (11, P' (pI n))] ∧ HSt l D i cl y.s) ?_ ?_
          · refine Wc.seq ?_
            by_cases hn0 : n < 0
            · rw [if_pos (.inl hn0)] at hRi
              refine Wc.reg fun K hK => ?_; simp only [go_sem, ti3, ti9, ti4, ti35, ti48, ti77, ti24, ti57, ti55, ti53, ti83, hF, hn0]; refine hK _ _ ?_; clear hK K
              refine Wc.cond (t := true) (by simp only [go_sem, ti3, ti9, ti4, ti35, ti48, ti77, ti24, ti57, ti55, ti53, ti83, hF]) (fun _ => ?_) (fun hc => by cases hc)
              refine Wc.seq ?_
              refine Wc.reg fun K hK => ?_; simp only [go_sem, ti3, ti9, ti4, ti35, ti48, ti77, ti24, ti57, ti55, ti53, ti83, hF]; refine hK _ _ ?_; clear hK K
              exact Wc.ret (bad _ _ hRi (by simp only [resultsD, go_sem, ti3, ti9, ti4, ti35, ti48, ti77, ti24, ti57, ti55, ti53, ti83, hF]))
            · refine Wc.reg fun K hK => ?_; simp only [go_sem, ti3, ti9, ti4, ti35, ti48, ti77, ti24, ti57, ti55, ti53, ti83, hF, hn0]; refine hK _ _ ?_; clear hK K
              refine Wc.cond (t := decide ((bs.length : Int) < n)) (by simp only [go_sem, ti3, ti9, ti4, ti35, ti48, ti77, ti24, ti57, ti55, ti53, ti83, hF]) (fun hc => ?_) (fun hc => ?_)
              · rw [if_pos (.inr (of_decide_eq_true hc))] at hRi
                refine Wc.seq ?_
                refine Wc.reg fun K hK => ?_; simp only [go_sem, ti3, ti9, ti4, ti35, ti48, ti77, ti24, ti57, ti55, ti53, ti83, hF]; refine hK _ _ ?_; clear hK K
                exact Wc.ret (bad _ _ hRi (by simp only [resultsD, go_sem, ti3, ti9, ti4, ti35, ti48, ti77, ti24, ti57, ti55, ti53, ti83, hF]))
              · have h1 := of_decide_eq_false hc
                refine Wc.skip ⟨by rintro (h | h) <;> contradiction, rfl, by simp only [Fs, Int.natCast_zero, go_sem, ti3, ti9, ti4, ti35, ti48, ti77, ti24, ti57, ti55, ti53, ti83, hF], ?_⟩
                repeat refine HSt.adv ?_
                exact ho
          clear hF ho e s1
          rintro ⟨e, ds, s1⟩ ⟨hgood, rfl, hF, ho⟩
          simp only [Fs] at hF ho
          rw [if_neg hgood] at hRi
          obtain ⟨m, rfl⟩ : ∃ m : Nat, n = (m : Int) := ⟨n.toNat, by omega⟩
          rw [Int.toNat_natCast] at hRi
          have hmb : m ≤ bs.length := by omega
          obtain ⟨k6, rfl, ho6⟩ : ∃ k, cl = .mt k 0 l.length 7 ∧ OA s1.nx s1 [] [(k, .cells (D.flatMap encF' ++ encZ a ++ (l.drop (i + 1)).flatMap encZ) false)] := by
            rcases ho with ⟨h, _⟩ | ⟨k, h1, h2, _⟩
            · rw [h] at ha; simp at ha
            · rw [hla, List.flatMap_cons, ← List.append_assoc] at h2
              exact ⟨k, h1, h2⟩
          generalize hP : D.flatMap encF' = P at ho6
          generalize hQ : (l.drop (i + 1)).flatMap encZ = Q at ho6
          have hPl : P.length = i * 7 := by rw [← hP, flatC_len (k := 7) (fun _ => rfl), hDl]
          have g6 := ho6.at_ (k6, .cells (P ++ encZ a ++ Q) false) (by simp)
          simp only at g6
          have hi6 := ixM ti24 rfl ti57 (r := k6) (off := 0) (j := i) (m := l.length) (es := 7) (by omega) rfl
          have b1 : (i * 7 + 4 ≤ (P ++ encZ a ++ Q).length) = True := by simp; omega
          obtain ⟨E, hE⟩ : ∃ E, (encZ a).set 3 (.p (pI v)) = E := ⟨_, rfl⟩
          have r1 : List.take (i * 7 + 3) (P ++ encZ a ++ Q) ++ [C.p (pI v)] ++ List.drop (i * 7 + 4) (P ++ encZ a ++ Q) = P ++ E ++ Q := by
            rw [← hE]
            have := setR_mid (pre := P) (E := encZ a) (post := Q) (o := 3) (c := .p (pI v)) (by simp)
            rw [hPl] at this
            exact this
          refine Wc.seq ?_
          refine Wc.reg fun K hK => ?_; simp only [go_sem, ti3, ti9, ti4, ti35, ti48, ti77, ti24, ti57, ti55, ti53, ti83, hF, hiv, hcv, hi6, g6, b1, r1]; refine hK _ _ ?_; clear hK K
          have b2 : (i * 7 + 7 ≤ (P ++ E ++ Q).length) = True := by rw [← hE]; simp; omega
          have r2 : List.take (i * 7 + 6) (P ++ E ++ Q) ++ [C.p (.lst m ((bs.take m).flatMap p2))] ++ List.drop (i * 7 + 7) (P ++ E ++ Q) = P ++ E.set 6 (.p (.lst m ((bs.take m).flatMap p2))) ++ Q := by
            have := setR_mid (pre := P) (E := E) (post := Q) (o := 6) (c := .p (.lst m ((bs.take m).flatMap p2))) (by rw [← hE]; simp)
            rw [hPl] at this
            exact this
          have hfl : (bs.flatMap p2).length = bs.length * 2 := flat_len (k := 2) (fun _ => rfl) _
          have d1 : ((m : Int) ≤ (bs.length : Int)) = True := by simp; omega
          have ho7 := OA.set (M1 := []) (k := k6) (o' := .cells (P ++ E ++ Q) false) ho6 rfl
          have g7 : ∀ n1 n2 n3 : Nat, ((((s1.adv n1).put k6 (.cells (P ++ E ++ Q) false)).adv n2).adv n3).get k6 = some (.cells (P ++ E ++ Q) false) := fun _ _ _ => by simp only [St.get_adv, St.get_put_same]
          refine Wc.seqA (fun y => y.ds = [] ∧ Fs y.e 103 [(4, .v (.c (.mt k6 0 l.length 7))), (8, P' (.lst bs.length (bs.flatMap p2))), (9, P' (.lst S.length (S.map pI))), (62, P' (.lst N.length (N.map pI))), (63, P' (pI N.length)), (64, P' (pI i)), (10, P' (pI i)), (11, P' (pI m))] ∧ OA y.s.nx y.s [] [(k6, .cells (P ++ E.set 6 (.p (.lst m ((bs.take m).flatMap p2))) ++ Q) false)]) ?_ ?_
          · by_cases hm0 : m = 0
            · subst hm0
              simp only [List.take_zero, List.flatMap_nil] at r2 ⊢
              refine Wc.reg fun K hK => ?_; simp only [go_sem, ti3, ti9, ti4, ti35, ti48, ti77, ti24, ti57, ti55, ti53, ti83, hF, hi6, b2, r2, hfl, Option.isSome_some, Int.natCast_zero, Int.le_refl]; refine hK _ _ ?_; clear hK K
              exact ⟨rfl, rfl, by simp only [Fs, Int.natCast_zero, go_sem, ti3, ti9, ti4, ti35, ti48, ti77, ti24, ti57, ti55, ti53, ti83, hF], by simp only [St.nx_put, St.nx_adv]; (repeat refine OA.advB ?_); refine OA.ofS (M1 := []) (M2 := []) ?_; repeat (first | exact ⟨_, OA.mono ho6 (by omega)⟩ | refine OAs.adv ?_ | refine OAs.put ?_)⟩
            · have d2 : ((0 : Int) = (m : Int)) = False := by simp; omega
              have f1 : (bs.flatMap p2).take (m * 2) = (bs.take m).flatMap p2 := flat_takeN (k := 2) (fun _ => rfl) bs m
              refine Wc.reg fun K hK => ?_; simp only [go_sem, ti3, ti9, ti4, ti35, ti48, ti77, ti24, ti57, ti55, ti53, ti83, hF, hi6, b2, hfl, d1, d2, f1, r2, Option.isSome_some, Int.le_refl, Nat.sub_zero]; refine hK _ _ ?_; clear hK K
              exact ⟨rfl, rfl, by simp only [Fs, Int.natCast_zero, go_sem, ti3, ti9, ti4, ti35, ti48, ti77, ti24, ti57, ti55, ti53, ti83, hF], by simp only [St.nx_put, St.nx_adv]; (repeat refine OA.advB ?_); refine OA.ofS (M1 := []) (M2 := []) ?_; repeat (first | exact ⟨_, OA.mono ho6 (by omega)⟩ | refine OAs.adv ?_ | refine OAs.put ?_)⟩
          clear hF ho g6 g7 ho7 r2 e ho6
          rintro ⟨e, ds, s2⟩ ⟨rfl, hF, ho⟩
          simp only [Fs] at hF ho
          have f2 : (bs.flatMap p2).drop (m * 2) = (bs.drop m).flatMap p2 := flat_dropN (k := 2) (fun _ => rfl) bs m
          have f3 : ((bs.drop m).flatMap p2).take ((bs.length - m) * 2) = (bs.drop m).flatMap p2 := List.take_of_length_le (by rw [flat_len (k := 2) (fun _ => rfl), List.length_drop]; exact Nat.le_refl _)
          refine Wc.reg fun K hK => ?_; simp only [go_sem, ti3, ti9, ti4, ti35, ti48, ti77, ti24, ti57, ti55, ti53, ti83, hF, hfl, d1, f2, f3, Int.le_refl]; refine hK _ _ ?_; clear hK K
          refine Wc.reg fun K hK => ?_; simp only [go_sem, ti3, ti9, ti4, ti35, ti48, ti77, ti24, ti57, ti55, ti53, ti83, hF, i64n i (by omega)]; refine hK _ _ ?_; clear hK K
          have hEa : E.set 6 (.p (.lst m ((bs.take m).flatMap p2))) = encF' { a with h := { a.h with s := v, bs := bs.take m } } := by
            rw [← hE]
            simp only [encZ, encF', HSm.pd, List.set_cons_succ, List.set_cons_zero, List.map_cons, List.map_nil, List.length_take, Nat.min_eq_left hmb]
          refine ⟨N.length - (i + 1), by omega, i + 1, D ++ [{ a with h := { a.h with s := v, bs := bs.take m } }], bs.drop m, rfl, by omega, by rw [List.length_drop]; omega, rfl, by rw [List.length_drop]; exact by simp only [Fs, Int.natCast_zero, go_sem, ti3, ti9, ti4, ti35, ti48, ti77, ti24, ti57, ti55, ti53, ti83, hF], .inr ⟨k6, rfl, ?_, fun e => by rw [e] at ha; simp at ha⟩, by simp [hDl], ?_⟩
          · rw [List.flatMap_append, List.flatMap_cons, List.flatMap_nil, List.append_nil, hP, hQ, ← hEa]
            exact by simp only [St.nx_put, St.nx_adv]; repeat (first | exact OA.mono ho (by omega) | refine OA.newB ?_ (by omega) rfl | refine OA.advB ?_)
          · rw [hRi]
            cases distH (l.drop (i + 1)) (N.drop (i + 1)) (S.drop (i + 1)) (bs.drop m) <;> simp
        · have hil : i = N.length := by have : ¬ (i : Int) < N.length := by simpa using hc
                                        omega
          subst hil
          have e1 : l.drop N.length = [] := List.drop_of_length_le (by omega)
          have e2 : N.drop N.length = [] := List.drop_length ..
          rw [e1, e2] at hRi
          refine Wc.exit ⟨D, bs, rfl, by simp only [Fs, Int.natCast_zero, go_sem, ti3, ti9, ti4, ti35, ti48, ti77, ti24, ti57, ti55, ti53, ti83, hF], ?_, by omega, ?_⟩
          · rw [← hNl]; exact ho.adv
          · rw [hRi]
            unfold distH
            split <;> simp
      · refine ⟨0, [], bk, rfl, by omega, hbk, rfl, by simp only [Fs, Int.natCast_zero, go_sem, ti3, ti9, ti4, ti35, ti48, ti77, ti24, ti57, ti55, ti53, ti83, hF], ?_, rfl, ?_⟩
        · repeat refine HSt.adv ?_
          rcases ho with ⟨h1, h2, h3⟩ | ⟨k, h1, h2, h3⟩
          · exact .inl ⟨h1, h2⟩
          · exact .inr ⟨k, h1, h2, h3⟩
        · simp only [List.drop_zero, List.nil_append]
          rw [← hR]; simp
    clear hF ho e s1
    rintro ⟨e, ds, s1⟩ ⟨D, bs, rfl, hF, ho, hDl, hRD⟩
    simp only [Fs] at hF ho
    refine Wc.seq ?_
    refine Wc.reg fun K hK => ?_; simp only [go_sem, ti3, ti9, ti4, ti35, ti48, ti77, ti24, ti57, ti55, ti53, ti83, hF]; refine hK _ _ ?_; clear hK K
    have hfin : SlS (fun a : HSm => a.pd.map C.p) 7 D [] [] cl (s1.adv 6) ∨ (D = [] ∧ (cl = .nils ∨ ∃ k, cl = .own 0 [] k)) := by
      rcases ho with ⟨h1, h2⟩ | ⟨k, h1, h2, h3⟩
      · subst h1; exact .inr ⟨List.length_eq_zero_iff.1 hDl, h2⟩
      · refine .inl (.inr ⟨k, by rw [hDl]; exact h1, ?_, fun e => h3 (List.length_eq_zero_iff.1 (by rw [← hDl, e]; rfl))⟩)
        rw [List.drop_length, List.flatMap_nil, List.append_nil] at h2
        exact by simp only [St.nx_put, St.nx_adv]; repeat (first | exact OA.mono h2 (by omega) | refine OA.newB ?_ (by omega) rfl | refine OA.advB ?_)
    have hres : R.isSome = ((bs.length : Int) == 0) ∧ ∀ x, R = some x → D = x := by
      rw [hRD]
      by_cases hb : bs = []
      · subst hb
        exact ⟨rfl, fun x hx => by simpa using hx⟩
      · rw [if_neg hb]
        refine ⟨?_, fun x hx => by cases hx⟩
        have : bs.length ≠ 0 := fun e => hb (List.length_eq_zero_iff.1 e)
        simp; exact hb
    obtain ⟨s', hp⟩ : ∃ s', purD (s1.adv 6) (.tup [.c cl, .c (.p (.bool ((bs.length : Int) == 0)))]) = some (.tup [.c (.p (.lst D.length (D.flatMap HSm.pd))), .c (.p (.bool ((bs.length : Int) == 0)))], s') := by
      rcases hfin with h | ⟨rfl, rfl | ⟨k, rfl⟩⟩
      · exact purD_mt (enc := HSm.pd) (fun _ => rfl) h
      · exact ⟨_, rfl⟩
      · exact ⟨_, rfl⟩
    exact Wc.ret (Pf.retE [.tmp 2, .tmp 3] [.c cl, .c (.p (.bool ((bs.length : Int) == 0)))] rfl rfl (by simp only [resultsD, go_sem, ti3, ti9, ti4, ti35, ti48, ti77, ti24, ti57, ti55, ti53, ti83, hF]) hp ⟨D, by rw [hres.1], hres.2⟩)
end Go.Proofs.YtafaoldmemcigaaGreat.Ab
namespace Go.Proofs.YtafaoldmemcigaaGreat.Ab
set_option maxHeartbeats 4000000
set_option linter.unusedSimpArgs false
set_option linter.unusedVariables false
/-! ### slices of a series -/
def slc {A : Type} (t : A → Int) (f u : Int) (l : List A) : List A := l.filter fun a => decide (f < t a) && decide (t a ≤ u)
theorem slc_split {A : Type} (t : A → Int) (q : Int) : ∀ l : List A, l.Pairwise (fun a b => t a < t b) → (∀ a ∈ l, 1 ≤ t a ∧ t a ≤ 1099511627776) →
    slc t 0 q l ++ slc t (if 0 > q then 0 else q) 1099511627776 l = l
  | [], _, _ => rfl
  | a :: r, hs, hb => by
    obtain ⟨h1, h2⟩ := List.pairwise_cons.1 hs
    have hba := hb a (by simp)
    have hr := slc_split t q r h2 fun b hb' => hb b (by simp [hb'])
    unfold slc at hr ⊢
    by_cases hq : t a ≤ q
    · have c1 : (decide (0 < t a) && decide (t a ≤ q)) = true := by simp; omega
      have c2 : (decide ((if 0 > q then 0 else q) < t a) && decide (t a ≤ 1099511627776)) = false := by
        rw [if_neg (by omega)]; simp; omega
      rw [List.filter_cons, if_pos c1, List.filter_cons, if_neg (by rw [c2]; decide), List.cons_append, hr]
    · have e1 : (a :: r).filter (fun a => decide (0 < t a) && decide (t a ≤ q)) = [] := by
        rw [List.filter_eq_nil_iff]
        intro b hb'
        rcases List.mem_cons.1 hb' with rfl | hb'
        · simp; omega
        · have := h1 b hb'; simp; omega
      have e2 : (a :: r).filter (fun a => decide ((if 0 > q then 0 else q) < t a) && decide (t a ≤ 1099511627776)) = a :: r := by
        rw [List.filter_eq_self]
        intro b hb'
        have hbb := hb b hb'
        rcases List.mem_cons.1 hb' with rfl | hb'
        · split <;> simp <;> omega
        · have := h1 b hb'; split <;> simp <;> omega
      rw [e1, e2]; rfl
theorem slc_le {A : Type} (t : A → Int) (f u : Int) (l : List A) : ∀ a ∈ slc t f u l, t a ≤ u := fun a ha => by
  have := (List.mem_filter.1 ha).2
  simp at this; exact this.2
theorem slc_take {A : Type} {t : A → Int} {f u : Int} {l : List A} {i : Nat} {x : A} (h : l[i]? = some x) : slc t f u (l.take (i + 1)) = slc t f u (l.take i) ++ if f < t x ∧ t x ≤ u then [x] else [] := by
  rw [take_snoc h, slc, List.filter_append, slc]
  congr 1
  by_cases h1 : f < t x ∧ t x ≤ u
  · rw [if_pos h1, List.filter_cons, if_pos (by simpa using h1)]; rfl
  · rw [if_neg h1, List.filter_cons, if_neg (by simpa using h1)]; rfl
theorem slc_len {A : Type} (t : A → Int) (f u : Int) (l : List A) : (slc t f u l).length ≤ l.length := List.length_filter_le _ _
theorem sck_sorted {k : Int} : ∀ {l : List I2} {p : Option Int}, sck k p l = 0 → l.Pairwise (fun a b => a.1 < b.1) ∧ ∀ y, p = some y → ∀ a ∈ l, y < a.1
  | [], p, _ => ⟨List.Pairwise.nil, fun _ _ a ha => by cases ha⟩
  | x :: r, p, h => by
    simp only [sck] at h
    split at h
    · cases h
    · have key : sck k (some x.1) r = 0 ∧ ∀ y, p = some y → y < x.1 := by
        split at h
        · rename_i y
          split at h
          · cases h
          · refine ⟨h, fun z hz => ?_⟩
            cases hz; omega
        · exact ⟨h, fun z hz => by cases hz⟩
      obtain ⟨h1, h2⟩ := sck_sorted key.1
      refine ⟨List.pairwise_cons.2 ⟨fun b hb => h2 x.1 rfl b hb, h1⟩, fun y hy a ha => ?_⟩
      have := key.2 y hy
      rcases List.mem_cons.1 ha with rfl | ha
      · exact this
      · have := h2 x.1 rfl a ha; omega
theorem vh_sorted : ∀ {l : List HSm} {p : Int}, vh p l = true → l.Pairwise (fun a b => a.t < b.t) ∧ ∀ a ∈ l, p < a.t
  | [], p, _ => ⟨List.Pairwise.nil, fun a ha => by cases ha⟩
  | x :: r, p, h => by
    simp only [vh] at h
    split at h
    · cases h
    · rename_i h0
      obtain ⟨h1, h2⟩ := vh_sorted h
      refine ⟨List.pairwise_cons.2 ⟨fun b hb => h2 b hb, h1⟩, fun a ha => ?_⟩
      rcases List.mem_cons.1 ha with rfl | ha
      · omega
      · have := h2 a ha; omega
/-- The samples and the histograms of a valid series are those of its two slices. -/
theorem ser_split {x : Ser} (h : serOK x = true) (q : Int) :
    slc (·.1) 0 q x.sm ++ slc (·.1) (if 0 > q then 0 else q) 1099511627776 x.sm = x.sm ∧ slc (·.t) 0 q x.hs ++ slc (·.t) (if 0 > q then 0 else q) 1099511627776 x.hs = x.hs := by
  by_cases hk : x.k = 3
  · have hsm : x.sm = [] ∧ validH x.hs = true := by
      unfold serOK at h
      split at h
      · cases h
      · simp only [Bool.and_eq_true, beq_iff_eq] at h
        exact ⟨List.length_eq_zero_iff.1 h.1, h.2⟩
    refine ⟨by rw [hsm.1]; rfl, slc_split _ q _ ?_ ?_⟩
    · have hv := hsm.2
      unfold validH at hv
      simp only [Bool.and_eq_true] at hv
      exact (vh_sorted hv.2).1
    · intro a ha
      have := (validH_ok hsm.2).2 a ha
      simp only [isT, Bool.and_eq_true, decide_eq_true_eq] at this
      omega
  · have hsm : x.hs = [] ∧ sckA x.k x.sm = 0 := by
      unfold serOK at h
      split at h
      · cases h
      · simp only [Bool.and_eq_true, beq_iff_eq] at h
        exact ⟨List.length_eq_zero_iff.1 h.1, h.2.2⟩
    refine ⟨slc_split _ q _ ?_ ?_, by rw [hsm.1]; rfl⟩
    · have hv := hsm.2
      unfold sckA at hv
      split at hv
      · cases hv
      · split at hv
        · cases hv
        · exact (sck_sorted hv).1
    · intro a ha
      have := (sckA_ok hsm.2).2.2 a ha
      simp only [isT, Bool.and_eq_true, decide_eq_true_eq] at this
      omega
end Go.Proofs.YtafaoldmemcigaaGreat.Ab
