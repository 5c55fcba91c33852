/- A part of the proof: an evaluator of the code, its contracts, the law. No condition. -/
import Derived.Test.YtedcnhbblgmdnaaGreatT15
import Derived.KernelRfl
namespace Go.Proofs.YtedcnhbblgmdnaaGreat.Ab
set_option maxHeartbeats 4000000
set_option maxRecDepth 10000
set_option linter.unusedSimpArgs false
set_option linter.unusedVariables false
/-- A column's numbers, encoded in a form. -/
def encF (f : Int) (l : List Int) : List UInt8 × Int := if f = 0 then encT l else if f = 1 then encV l else encI l
/-- 56: form.encode -/
theorem pf156 (f : Int) (l : List Int) (hl : l.length < 2^40) : Pf E0 156 [.c (.p (pI f)), .c (.p (.lst l.length (l.map pI)))] (.tup [.c (.p (.str (encF f l).1)), .c (.p (.int .i64 (encF f l).2))]) := by
  refine Pf.body (fn := Tryz.f156) (by kernel_rfl) rfl ?_; simp only [List.map_cons, List.map_nil, List.cons_append, List.nil_append, List.length_cons, List.length_nil, Tryz.ntmps156, List.replicate, Nat.reduceSub, Nat.reduceAdd]
  refine Wc.seq ?_
  refine Wc.reg fun K hK => ?_; simp only [go_sem, ti3, ti216, ti9, ti5, ti214, ti175, ti4, ti32, ti208, ti39, ti152, ti150, ti205]; refine hK _ _ ?_; clear hK K
  refine Wc.seq (Wc.seq ?_)
  refine Wc.reg fun K hK => ?_; simp only [go_sem, ti3, ti216, ti9, ti5, ti214, ti175, ti4, ti32, ti208, ti39, ti152, ti150, ti205]; refine hK _ _ ?_; clear hK K
  refine Wc.block (Wc.seq ?_)
  refine Wc.reg fun K hK => ?_; simp only [go_sem, ti3, ti216, ti9, ti5, ti214, ti175, ti4, ti32, ti208, ti39, ti152, ti150, ti205]; refine hK _ _ ?_; clear hK K
  refine Wc.cond (t := (f == 0)) (by simp only [go_sem, ti3, ti216, ti9, ti5, ti214, ti175, ti4, ti32, ti208, ti39, ti152, ti150, ti205]) (fun hc => ?_) (fun hc => ?_)
  · have e : encF f l = encT l := by unfold encF; rw [if_pos (by simpa using hc)]
    rw [e]
    refine Wc.seq ?_
    refine Wc.reg fun K hK => ?_; simp only [go_sem, ti3, ti216, ti9, ti5, ti214, ti175, ti4, ti32, ti208, ti39, ti152, ti150, ti205]
    refine wpCall.pf (pf225 l hl) (by kernel_rfl) (by kernel_rfl) rfl rfl ?_
    simp only [go_sem, ti3, ti216, ti9, ti5, ti214, ti175, ti4, ti32, ti208, ti39, ti152, ti150, ti205]; refine hK _ _ ?_; clear hK K
    exact Wc.ret (Pf.ret [.tmp 4, .tmp 5] [.c (.p (.str (encT l).1)), .c (.p (.int .i64 (encT l).2))] rfl rfl (by simp only [resultsD, go_sem, ti3, ti216, ti9, ti5, ti214, ti175, ti4, ti32, ti208, ti39, ti152, ti150, ti205]) rfl)
  · have h0 : ¬ f = 0 := by simpa using hc
    refine Wc.seq ?_
    refine Wc.reg fun K hK => ?_; simp only [go_sem, ti3, ti216, ti9, ti5, ti214, ti175, ti4, ti32, ti208, ti39, ti152, ti150, ti205]; refine hK _ _ ?_; clear hK K
    refine Wc.cond (t := (f == 1)) (by simp only [go_sem, ti3, ti216, ti9, ti5, ti214, ti175, ti4, ti32, ti208, ti39, ti152, ti150, ti205]) (fun hc => ?_) (fun hc => ?_)
    · have e : encF f l = encV l := by unfold encF; rw [if_neg h0, if_pos (by simpa using hc)]
      rw [e]
      refine Wc.seq ?_
      refine Wc.reg fun K hK => ?_; simp only [go_sem, ti3, ti216, ti9, ti5, ti214, ti175, ti4, ti32, ti208, ti39, ti152, ti150, ti205]
      refine wpCall.pf (pf226 l hl) (by kernel_rfl) (by kernel_rfl) rfl rfl ?_
      simp only [go_sem, ti3, ti216, ti9, ti5, ti214, ti175, ti4, ti32, ti208, ti39, ti152, ti150, ti205]; refine hK _ _ ?_; clear hK K
      exact Wc.ret (Pf.ret [.tmp 4, .tmp 5] [.c (.p (.str (encV l).1)), .c (.p (.int .i64 (encV l).2))] rfl rfl (by simp only [resultsD, go_sem, ti3, ti216, ti9, ti5, ti214, ti175, ti4, ti32, ti208, ti39, ti152, ti150, ti205]) rfl)
    · have h1 : ¬ f = 1 := by simpa using hc
      have e : encF f l = encI l := by unfold encF; rw [if_neg h0, if_neg h1]
      rw [e]
      refine Wc.skip (Wc.seq ?_)
      refine Wc.reg fun K hK => ?_; simp only [go_sem, ti3, ti216, ti9, ti5, ti214, ti175, ti4, ti32, ti208, ti39, ti152, ti150, ti205]
      refine wpCall.pf (pf227 l hl) (by kernel_rfl) (by kernel_rfl) rfl rfl ?_
      simp only [go_sem, ti3, ti216, ti9, ti5, ti214, ti175, ti4, ti32, ti208, ti39, ti152, ti150, ti205]; refine hK _ _ ?_; clear hK K
      exact Wc.ret (Pf.ret [.tmp 4, .tmp 5] [.c (.p (.str (encI l).1)), .c (.p (.int .i64 (encI l).2))] rfl rfl (by simp only [resultsD, go_sem, ti3, ti216, ti9, ti5, ti214, ti175, ti4, ti32, ti208, ti39, ti152, ti150, ti205]) rfl)
/-- Two numbers: a sample, a bucket. -/
abbrev I2 := Int × Int
abbrev p2 (x : I2) : List Pd := [pI x.1, pI x.2]
structure Hst where
  p : Int
  c : Int
  s : Int
  mn : Int
  mx : Int
  bs : List I2
abbrev Hst.pd (h : Hst) : List Pd := [pI h.p, pI h.c, pI h.s, pI h.mn, pI h.mx, .lst h.bs.length (h.bs.flatMap p2)]
structure HSm where
  t : Int
  h : Hst
abbrev HSm.pd (x : HSm) : List Pd := [pI x.t, pI x.h.p, pI x.h.c, pI x.h.s, pI x.h.mn, pI x.h.mx, .lst x.h.bs.length (x.h.bs.flatMap p2)]
/-- A column: its form, its getter (and what that tells), its setter. -/
structure Col (A : Type) where
  f : Int
  g : Nat
  w : Nat
  get : A → Int
abbrev Col.pd {A : Type} (c : Col A) : List Pd := [pI c.f, .fnc c.g, .fnc c.w]
/-- All columns, encoded; none: one is too long. -/
def packE {A : Type} (l : List A) : List (Col A) → Option (List (List UInt8))
  | [] => some []
  | c :: r => if (encF c.f (l.map c.get)).2 = 0 then (match packE l r with
      | some ss => some ((encF c.f (l.map c.get)).1 :: ss)
      | none => none) else none
/-- The numbers that are laid so far: j of them. -/
def fillZ {A : Type} (l : List A) (g : A → Int) (j : Nat) : List C := ((l.take j).map fun a => C.p (pI (g a))) ++ List.replicate (l.length - j) (.p (pI 0))
theorem fillZ_len {A : Type} (l : List A) (g : A → Int) {j : Nat} (h : j ≤ l.length) : (fillZ l g j).length = l.length := by simp [fillZ]; omega
theorem fillZ_set {A : Type} {l : List A} {g : A → Int} {j : Nat} {a : A} (h : l[j]? = some a) : (fillZ l g j).take j ++ [.p (pI (g a))] ++ (fillZ l g j).drop (j + 1) = fillZ l g (j + 1) := by
  have hj := (List.getElem?_eq_some_iff.1 h).1
  have e1 : ((l.take j).map fun a => C.p (pI (g a))).length = j := by simp; omega
  have e2 : l.length - j = (l.length - (j + 1)) + 1 := by omega
  unfold fillZ
  rw [take_snoc h, List.take_append_of_le_length (by omega), List.take_of_length_le (by omega), List.drop_append, List.drop_of_length_le (by omega), e1, e2, List.replicate_succ]
  simp
theorem fillZ_all {A : Type} (l : List A) (g : A → Int) : fillZ l g l.length = ((l.map g).map pI).map .p := by simp [fillZ]
theorem allM_purS : ∀ l : List Pd, allM purS (l.map .p) = some l
  | [] => rfl
  | x :: r => by simp only [List.map_cons, allM, purS, allM_purS r]
theorem repl_one (n : Nat) (c : C) : repl n [c] = List.replicate n c := by
  induction n with
  | zero => rfl
  | succ n ih => simp only [repl, ih, List.replicate_succ]; rfl
theorem fillZ_0 {A : Type} (l : List A) (g : A → Int) : fillZ l g 0 = repl l.length [.p (pI 0)] := by simp [fillZ, repl_one]
theorem ixM {E : Env} {t e : Nat} {i ie : TI} (ht : E.ti t = some i) (hk : i.kn = .slice e) (he : E.ti e = some ie) {r off j m es : Nat} (hj : j < m) (hs : es = ie.size) :
    indexAddrD E t (.v (.c (.mt r off m es))) (.v (.c (.p (.int .i64 (j : Int))))) = some (.v (.c (.ref r (off + j * es)))) := by
  unfold indexAddrD
  rw [ht]
  simp only [D.int?, hk, he, Int.toNat_natCast]
  rw [if_pos ⟨Int.natCast_nonneg j, by omega, hs⟩]
/-- The numbers' slice in the state, j of them laid. -/
def NumS {A : Type} (l : List A) (g : A → Int) (j : Nat) (L : List (Nat × D × Nat × List Pd)) (M : List (Nat × Ob)) (c9 : C) (s : St) : Prop :=
  (l = [] ∧ (∃ k, c9 = .own 0 [] k) ∧ OA s.nx s L M) ∨ ∃ k9, c9 = .mt k9 0 l.length 1 ∧ OA s.nx s L ((k9, .cells (fillZ l g j) false) :: M)
theorem NumS.adv {A : Type} {l : List A} {g : A → Int} {j : Nat} {L : List (Nat × D × Nat × List Pd)} {M : List (Nat × Ob)} {c9 : C} {s : St} (h : NumS l g j L M c9 s) {n : Nat} : NumS l g j L M c9 (s.adv n) := by
  rcases h with ⟨h1, h2, h3⟩ | ⟨k9, h1, h2⟩
  · exact .inl ⟨h1, h2, (h3.mono (Nat.le_add_right _ n)).adv⟩
  · exact .inr ⟨k9, h1, (h2.mono (Nat.le_add_right _ n)).adv⟩
theorem purVs_pc {s s' : St} {x y : Pd} {c : C} (h : purC s c = some (y, s')) : purVs s [.c (.p x), .c c] = some ([.c (.p x), .c (.p y)], s') := by
  have h0 : purC s (.p x) = some (x, s) := rfl
  simp only [purVs, purV, h0, h]
/-- As pure data. -/
theorem NumS.pur {A : Type} {l : List A} {g : A → Int} {L : List (Nat × D × Nat × List Pd)} {M : List (Nat × Ob)} {c9 : C} {s : St} (h : NumS l g l.length L M c9 s) :
    ∃ s', purC s c9 = some (.lst (l.map g).length ((l.map g).map pI), s') ∧ OA s'.nx s' L M ∧ s'.nx = s.nx := by
  rcases h with ⟨rfl, ⟨k, rfl⟩, h3⟩ | ⟨k9, rfl, h2⟩
  · exact ⟨s, rfl, h3, rfl⟩
  · have hg : s.get k9 = some (.cells (fillZ l g l.length) false) := h2.at_ (k9, .cells (fillZ l g l.length) false) (by simp)
    refine ⟨s.put k9 (.cells (((l.map g).map pI).map .p) true), ?_, ?_, rfl⟩
    · simp only [purC, hg, fillZ_all, allM_purS, List.drop_zero, List.length_map, Nat.zero_add, Nat.mul_one, Nat.le_refl, if_true]
      rw [List.take_of_length_le (by simp)]
    · exact OA.sub (M := [] ++ _ :: M) (h2.set (M1 := []) (o' := .cells (((l.map g).map pI).map .p) true) rfl) (List.Sublist.refl _) (List.sublist_cons_self _ _)
end Go.Proofs.YtedcnhbblgmdnaaGreat.Ab
namespace Go.Proofs.YtedcnhbblgmdnaaGreat.Ab
set_option maxHeartbeats 4000000
set_option maxRecDepth 10000
set_option linter.unusedSimpArgs false
set_option linter.unusedVariables false
end Go.Proofs.YtedcnhbblgmdnaaGreat.Ab
namespace Go.Proofs.YtedcnhbblgmdnaaGreat.Ab
set_option maxHeartbeats 4000000
set_option maxRecDepth 10000
set_option linter.unusedSimpArgs false
set_option linter.unusedVariables false
end Go.Proofs.YtedcnhbblgmdnaaGreat.Ab
namespace Go.Proofs.YtedcnhbblgmdnaaGreat.Ab
set_option maxHeartbeats 4000000
set_option maxRecDepth 10000
set_option linter.unusedSimpArgs false
set_option linter.unusedVariables false
end Go.Proofs.YtedcnhbblgmdnaaGreat.Ab
namespace Go.Proofs.YtedcnhbblgmdnaaGreat.Ab
set_option maxHeartbeats 4000000
set_option maxRecDepth 10000
set_option linter.unusedSimpArgs false
set_option linter.unusedVariables false
/-- Some bytes and the parts with these strings; none: they are too long. -/
def jn (t : List UInt8) : List (List UInt8) → Option (List UInt8)
  | [] => some t
  | s :: r => if 262144 < (t ++ vb s.length ++ s).length then none else jn (t ++ vb s.length ++ s) r
/-- 62: join -/
theorem pf178 (t : List UInt8) (ss : List (List UInt8)) (ht : t.length ≤ 262144) (hs : ∀ s ∈ ss, s.length ≤ 35184372088832) (hl : ss.length < 2^40) :
    Pf E0 178 [.c (.p (.str t)), .c (.p (.lst ss.length (ss.map .str)))] (.tup [.c (.p (.str ((jn t ss).getD []))), .c (.p (.bool (jn t ss).isSome))]) := by
  refine Pf.body (fn := Tryz.f178) (by kernel_rfl) rfl ?_; simp only [List.map_cons, List.map_nil, List.cons_append, List.nil_append, List.length_cons, List.length_nil, Tryz.ntmps178, List.replicate, Nat.reduceSub, Nat.reduceAdd]
  refine Wc.seq ?_
  refine Wc.reg fun K hK => ?_; simp only [go_sem, ti3, ti9, ti175, ti4, ti32, ti245, ti155]; refine hK _ _ ?_; clear hK K
  refine Wc.seq ?_
  refine Wc.reg fun K hK => ?_; simp only [go_sem, ti3, ti9, ti175, ti4, ti32, ti245, ti155]; refine hK _ _ ?_; clear hK K
  have hb0 : BSt 2 [] (((({ ob := [], nx := 0 } : St).adv 2).adv 1).put 2 (.tc 245 [.p .nilp, .nils])) [] := ⟨.p .nilp, .nils, BSt.new (b := 0) (s00_oa.adv.adv) (by omega) (by simp only [St.nx_put, St.nx_adv]; omega), rfl, .inl rfl⟩
  refine Wc.seq ?_
  refine Wc.reg fun K hK => ?_; simp only [go_sem, ti3, ti9, ti175, ti4, ti32, ti245, ti155]
  refine BSt.w (hb0.adv 2) (by simp; omega) fun s1 hB hnx => ?_
  clear hb0 hnx
  rw [List.nil_append] at hB
  simp only [go_sem, ti3, ti9, ti175, ti4, ti32, ti245, ti155]; refine hK _ _ ?_; clear hK K
  refine Wc.seq (Wc.seq ?_)
  refine Wc.reg fun K hK => ?_; simp only [go_sem, ti3, ti9, ti175, ti4, ti32, ti245, ti155, Int.natCast_zero]; refine hK _ _ ?_; clear hK K
  refine Wc.block (Wc.loop (fun k y => ∃ (i : Nat) (u : List UInt8), k = ss.length - i ∧ i ≤ ss.length ∧ y.ds = [] ∧ y.e.length = 33 ∧ y.e.getD 13 .junk = P' (.lst ss.length (ss.map .str)) ∧ y.e.getD 14 .junk = P' (pI ss.length) ∧ y.e.getD 15 .junk = P' (pI i) ∧ y.e.getD 6 .junk = .v (.c (.ref 2 0)) ∧ BSt 2 u y.s [] ∧ u.length ≤ 262144 ∧ jn t ss = jn u (ss.drop i)) ?_ (k := ss.length) ?_)
  · clear hB s1
    rintro k ⟨e, ds, s1⟩ ⟨i, u, rfl, hi, rfl, hlen, h13, h14, h15, h6, hB, hul, hj⟩
    simp only at hlen h13 h14 h15 h6 hB
    refine Wc.seq ?_
    refine Wc.reg fun K hK => ?_; simp only [go_sem, ti3, ti9, ti175, ti4, ti32, ti245, ti155, hlen, h13, h14, h15, h6]; refine hK _ _ ?_; clear hK K
    refine Wc.seq (Wc.cond (t := decide ((i : Int) < ss.length)) (by simp only [go_sem, ti3, ti9, ti175, ti4, ti32, ti245, ti155, hlen]) (fun hc => ?_) (fun hc => ?_))
    · have hil : i < ss.length := by have : (i : Int) < ss.length := by simpa using hc
                                     omega
      obtain ⟨x, hx⟩ : ∃ x, ss[i]? = some x := ⟨ss[i], List.getElem?_eq_getElem hil⟩
      have hxl := hs x (List.mem_of_getElem? hx)
      have hix := ixA ti155 rfl ti9 (j := i) (m := ss.length) (cs := ss.map .str) hil (by simp) (by decide)
      have hca := rpA (off := i) (drop_map Pd.str hx) (by simp; omega)
      have ea : appV [] (x.length : Int) = (vb x.length, 0) := by unfold appV; rw [if_neg (by omega), Int.toNat_natCast]; rfl
      have hz := vb_len10 (n := x.length) (by omega)
      have hd : jn u (ss.drop i) = if 262144 < (u ++ vb x.length ++ x).length then none else jn (u ++ vb x.length ++ x) (ss.drop (i + 1)) := by
        rw [List.drop_eq_getElem_cons hil, (List.getElem?_eq_some_iff.1 hx).2]; rfl
      rw [hd] at hj
      refine Wc.skip (Wc.seq (Wc.block (Wc.seq ?_)))
      refine Wc.reg fun K hK => ?_; simp only [go_sem, ti3, ti9, ti175, ti4, ti32, ti245, ti155, hlen, h13, h14, h15, h6, hix, hca]; refine hK _ _ ?_; clear hK K
      refine Wc.seq ?_
      refine Wc.reg fun K hK => ?_; simp only [go_sem, ti3, ti9, ti175, ti4, ti32, ti245, ti155, hlen, h13, h14, h15, h6]
      refine wpCall.pf (pf100 [] (x.length : Int) (by simp)) (by kernel_rfl) (by kernel_rfl) rfl rfl ?_
      simp only [go_sem, ti3, ti9, ti175, ti4, ti32, ti245, ti155, hlen, h13, h14, h15, h6, ea]; refine hK _ _ ?_; clear hK K
      refine Wc.seq ?_
      refine Wc.reg fun K hK => ?_; simp only [go_sem, ti3, ti9, ti175, ti4, ti32, ti245, ti155, hlen, h13, h14, h15, h6]
      refine BSt.w ((((hB.adv 1).adv 3).adv 8).adv 2) (by omega) fun s2 hB2 hnx => ?_
      simp only [go_sem, ti3, ti9, ti175, ti4, ti32, ti245, ti155, hlen, h13, h14, h15, h6]; refine hK _ _ ?_; clear hK K
      refine Wc.seq ?_
      refine Wc.reg fun K hK => ?_; simp only [go_sem, ti3, ti9, ti175, ti4, ti32, ti245, ti155, hlen, h13, h14, h15, h6]
      refine BSt.w (hB2.adv 2) (by simp only [List.length_append]; omega) fun s3 hB3 hnx => ?_
      simp only [go_sem, ti3, ti9, ti175, ti4, ti32, ti245, ti155, hlen, h13, h14, h15, h6]; refine hK _ _ ?_; clear hK K
      refine Wc.seq ?_
      refine Wc.reg fun K hK => ?_; simp only [go_sem, ti3, ti9, ti175, ti4, ti32, ti245, ti155, hlen, h13, h14, h15, h6]
      refine BSt.len (hB3.adv 2) fun m => ?_
      simp only [go_sem, ti3, ti9, ti175, ti4, ti32, ti245, ti155, hlen, h13, h14, h15, h6]; refine hK _ _ ?_; clear hK K
      refine Wc.cond (t := decide ((262144 : Int) < (u ++ vb x.length ++ x).length)) (by simp only [go_sem, ti3, ti9, ti175, ti4, ti32, ti245, ti155, hlen]) (fun hc => ?_) (fun hc => ?_)
      · have hbig : 262144 < (u ++ vb x.length ++ x).length := by
          have : (262144 : Int) < (u ++ vb x.length ++ x).length := of_decide_eq_true hc
          omega
        rw [if_pos hbig] at hj
        refine Wc.seq ?_
        refine Wc.reg fun K hK => ?_; simp only [go_sem, ti3, ti9, ti175, ti4, ti32, ti245, ti155, hlen]; refine hK _ _ ?_; clear hK K
        rw [hj]
        exact Wc.ret (Pf.ret [.tmp 4, .tmp 5] [.c (.p (.str [])), .c (.p (.bool false))] rfl rfl (by simp only [resultsD, go_sem, ti3, ti9, ti175, ti4, ti32, ti245, ti155, hlen]) rfl)
      · have hbig : ¬ 262144 < (u ++ vb x.length ++ x).length := by
          have : ¬ (262144 : Int) < (u ++ vb x.length ++ x).length := of_decide_eq_false hc
          omega
        rw [if_neg hbig] at hj
        refine Wc.skip ?_
        refine Wc.reg fun K hK => ?_; simp only [go_sem, ti3, ti9, ti175, ti4, ti32, ti245, ti155, hlen, h13, h14, h15, h6, i64n i (by omega)]; refine hK _ _ ?_; clear hK K
        exact ⟨ss.length - (i + 1), by omega, i + 1, _, rfl, by omega, rfl, by simp only [go_sem, ti3, ti9, ti175, ti4, ti32, ti245, ti155, hlen], by simp only [go_sem, ti3, ti9, ti175, ti4, ti32, ti245, ti155, hlen, h13], by simp only [go_sem, ti3, ti9, ti175, ti4, ti32, ti245, ti155, hlen, h14], by simp only [go_sem, ti3, ti9, ti175, ti4, ti32, ti245, ti155, hlen], by simp only [go_sem, ti3, ti9, ti175, ti4, ti32, ti245, ti155, hlen, h6], ((hB3.adv 2).adv m).adv 2, by omega, hj⟩
    · have hil : i = ss.length := by have : ¬ (i : Int) < ss.length := by simpa using hc
                                     omega
      subst hil
      rw [List.drop_length] at hj
      refine Wc.exit (Wc.seq ?_)
      refine Wc.reg fun K hK => ?_; simp only [go_sem, ti3, ti9, ti175, ti4, ti32, ti245, ti155, hlen, h13, h14, h15, h6]
      refine BSt.str ((hB.adv 1).adv 3) ?_
      simp only [go_sem, ti3, ti9, ti175, ti4, ti32, ti245, ti155, hlen, h13, h14, h15, h6]; refine hK _ _ ?_; clear hK K
      rw [hj]
      exact Wc.ret (Pf.ret [.tmp 4, .tmp 5] [.c (.p (.str u)), .c (.p (.bool true))] rfl rfl (by simp only [resultsD, go_sem, ti3, ti9, ti175, ti4, ti32, ti245, ti155, hlen]) rfl)
  · exact ⟨0, t, rfl, by omega, rfl, rfl, rfl, rfl, rfl, rfl, hB.adv 3, ht, by simp⟩
end Go.Proofs.YtedcnhbblgmdnaaGreat.Ab
namespace Go.Proofs.YtedcnhbblgmdnaaGreat.Ab
set_option maxHeartbeats 4000000
set_option maxRecDepth 10000
set_option linter.unusedSimpArgs false
set_option linter.unusedVariables false
/-- A chunk out of what it consists of. -/
def finE (sig : Int) (lab : Pd) (z : List Pd) (o : Option (List UInt8)) : D := match o with
  | none => .tup [noCh, .c (.p (pI 4))]
  | some d => .tup [chV sig lab z d, .c (.p (pI 0))]
/-- 27: finish -/
theorem pf101 (sig : Int) (n : Nat) (cs : List Pd) (z0 z1 z2 z3 z4 z5 z6 z7 z8 z9 z10 z11 z12 : Pd) (t : List UInt8) (ss : List (List UInt8)) (ht : t.length ≤ 262144) (hs : ∀ s ∈ ss, s.length ≤ 35184372088832) (hl : ss.length < 2^40) :
    Pf E0 101 [.c (.p (pI sig)), .c (.p (.lst n cs)), .agg [.p z0, .p z1, .p z2, .p z3, .p z4, .p z5, .p z6, .p z7, .p z8, .p z9, .p z10, .p z11, .p z12], .c (.p (.str t)), .c (.p (.lst ss.length (ss.map .str)))] (finE sig (.lst n cs) [z0, z1, z2, z3, z4, z5, z6, z7, z8, z9, z10, z11, z12] (jn t ss)) := by
  refine Pf.body (fn := Tryz.f101) (by kernel_rfl) rfl ?_; simp only [List.map_cons, List.map_nil, List.cons_append, List.nil_append, List.length_cons, List.length_nil, Tryz.ntmps101, List.replicate, Nat.reduceSub, Nat.reduceAdd]
  refine Wc.seq ?_
  refine Wc.reg fun K hK => ?_; simp only [go_sem, ti3, ti9, ti175, ti4, ti32, ti178, ti96, ti94, ti22, ti155]; refine hK _ _ ?_; clear hK K
  refine Wc.seq ?_
  refine Wc.reg fun K hK => ?_; simp only [go_sem, ti3, ti9, ti175, ti4, ti32, ti178, ti96, ti94, ti22, ti155]
  refine wpCall.pf (pf178 t ss ht hs hl) (by kernel_rfl) (by kernel_rfl) rfl rfl ?_
  simp only [go_sem, ti3, ti9, ti175, ti4, ti32, ti178, ti96, ti94, ti22, ti155]; refine hK _ _ ?_; clear hK K
  refine Wc.seq (Wc.seq ?_)
  refine Wc.reg fun K hK => ?_; simp only [go_sem, ti3, ti9, ti175, ti4, ti32, ti178, ti96, ti94, ti22, ti155]; refine hK _ _ ?_; clear hK K
  cases hj : jn t ss with
  | none =>
    refine Wc.cond (t := true) (by simp only [go_sem, ti3, ti9, ti175, ti4, ti32, ti178, ti96, ti94, ti22, ti155, Option.isSome]) (fun hc => ?_) (fun hc => by cases hc)
    refine Wc.seq ?_
    refine Wc.reg fun K hK => ?_; simp only [go_sem, ti3, ti9, ti175, ti4, ti32, ti178, ti96, ti94, ti22, ti155]; refine hK _ _ ?_; clear hK K
    exact Wc.ret (Pf.ret [.cell 10 96, .tmp 11] [.agg ([.p (pI 0), .nils] ++ zz0.map .p ++ [.p (.str [])]), .c (.p (pI 4))] rfl rfl (by simp only [resultsD, go_sem, ti3, ti9, ti175, ti4, ti32, ti178, ti96, ti94, ti22, ti155]) rfl)
  | some d =>
    refine Wc.cond (t := false) (by simp only [go_sem, ti3, ti9, ti175, ti4, ti32, ti178, ti96, ti94, ti22, ti155, Option.isSome]) (fun hc => by cases hc) (fun hc => ?_)
    refine Wc.skip (Wc.seq ?_)
    refine Wc.reg fun K hK => ?_; simp only [go_sem, ti3, ti9, ti175, ti4, ti32, ti178, ti96, ti94, ti22, ti155, Option.getD]; refine hK _ _ ?_; clear hK K
    exact Wc.ret (Pf.ret [.cell 10 96, .tmp 11] [chV sig (.lst n cs) [z0, z1, z2, z3, z4, z5, z6, z7, z8, z9, z10, z11, z12] d, .c (.p (pI 0))] rfl rfl (by simp only [resultsD, go_sem, ti3, ti9, ti175, ti4, ti32, ti178, ti96, ti94, ti22, ti155]; rfl) rfl)
end Go.Proofs.YtedcnhbblgmdnaaGreat.Ab
namespace Go.Proofs.YtedcnhbblgmdnaaGreat.Ab
set_option maxHeartbeats 4000000
set_option maxRecDepth 10000
set_option linter.unusedSimpArgs false
set_option linter.unusedVariables false
theorem Own.vs1 {s : St} {es n : Nat} {c : C} {cs : List Pd} (h : Own s es (.v (.c c)) n cs) (s' : St) : purVs s' [.c c] = some ([.c (.p (.lst n cs))], s') := by
  obtain ⟨h1, h2⟩ := h
  rcases h2 with ⟨h2, rfl⟩ | ⟨id, h2, _⟩
  · cases h2
    have : cs = [] := List.length_eq_zero_iff.1 (by simpa using h1)
    subst this; rfl
  · cases h2; rfl
theorem purVs_cp {s s' : St} {x y : Pd} {c : C} (h : purVs s [.c c] = some ([.c (.p y)], s')) : purVs s [.c c, .c (.p x)] = some ([.c (.p y), .c (.p x)], s') := by
  cases hc : purC s c with
  | none => simp [purVs, purV, hc] at h
  | some z =>
    simp only [purVs, purV, hc, Option.some.injEq, Prod.mk.injEq, List.cons.injEq, V.c.injEq, C.p.injEq, and_true] at h
    obtain ⟨h1, h2⟩ := h
    have h0 : purC s' (.p x) = some (x, s') := rfl
    simp only [purVs, purV, hc, h1, h2, h0]
theorem packE_len {A : Type} {l : List A} : ∀ {cols : List (Col A)} {ss : List (List UInt8)}, packE l cols = some ss → ss.length ≤ cols.length
  | [], ss, h => by simp only [packE, Option.some.injEq] at h; subst h; simp
  | c :: r, ss, h => by
    simp only [packE] at h
    split at h
    · split at h
      · rename_i ss' hs
        cases h
        have := packE_len hs
        simp only [List.length_cons]; omega
      · cases h
    · cases h
def packR : Option (List (List UInt8)) → D
  | none => .tup [.c (.p (.lst 0 [])), .c (.p (.bool false))]
  | some ss => .tup [.c (.p (.lst ss.length (ss.map .str))), .c (.p (.bool true))]
end Go.Proofs.YtedcnhbblgmdnaaGreat.Ab
namespace Go.Proofs.YtedcnhbblgmdnaaGreat.Ab
set_option maxHeartbeats 4000000
set_option maxRecDepth 10000
set_option linter.unusedSimpArgs false
set_option linter.unusedVariables false
/-- A byte of a name. -/
def nb (c : Int) : Bool := decide (97 ≤ c ∧ c ≤ 122) || decide (65 ≤ c ∧ c ≤ 90) || decide (48 ≤ c ∧ c ≤ 57) || decide (c = 95)
/-- 123: a byte of a name -/
theorem pf246 (c : Int) : Pf E0 246 [.c (.p (.int .u8 c))] (P' (.bool (nb c))) := by
  refine Pf.body (fn := Tryz.f246) (by kernel_rfl) rfl ?_; simp only [List.map_cons, List.map_nil, List.cons_append, List.nil_append, List.length_cons, List.length_nil, Tryz.ntmps246, List.replicate, Nat.reduceSub, Nat.reduceAdd]
  refine Wc.seq ?_
  refine Wc.reg fun K hK => ?_; simp only [go_sem, ti3, ti9, ti5, ti4, ti32]; refine hK _ _ ?_; clear hK K
  refine Wc.seq ?_
  have hcs : (c < 48) ∨ (48 ≤ c ∧ c ≤ 57) ∨ (58 ≤ c ∧ c ≤ 64) ∨ (65 ≤ c ∧ c ≤ 90) ∨ (91 ≤ c ∧ c ≤ 96) ∨ (97 ≤ c ∧ c ≤ 122) ∨ (123 ≤ c) := by omega
  rcases hcs with hi | hi | hi | hi | hi | hi | hi
  ·
    have f0 : (97 ≤ c) = False := by simp only [eq_iff_iff, iff_false]; omega
    have f1 : (c ≤ 122) = True := by simp only [eq_iff_iff, iff_true]; omega
    have f2 : (65 ≤ c) = False := by simp only [eq_iff_iff, iff_false]; omega
    have f3 : (c ≤ 90) = True := by simp only [eq_iff_iff, iff_true]; omega
    have f4 : (48 ≤ c) = False := by simp only [eq_iff_iff, iff_false]; omega
    have f5 : (c ≤ 57) = True := by simp only [eq_iff_iff, iff_true]; omega
    have hb : (c == 95) = false := by simp; omega
    refine Wc.reg fun K hK => ?_; simp only [go_sem, ti3, ti9, ti5, ti4, ti32, f0, f1, f2, f3, f4, f5, hb]; refine hK _ _ ?_; clear hK K
    have e : nb c = false := by simp [nb]; omega
    rw [e]
    exact Wc.ret (Pf.ret [.tmp 2] [.c (.p (.bool false))] rfl rfl (by simp only [resultsD, go_sem, ti3, ti9, ti5, ti4, ti32, f0, f1, f2, f3, f4, f5, hb]) rfl)
  ·
    have f0 : (97 ≤ c) = False := by simp only [eq_iff_iff, iff_false]; omega
    have f1 : (c ≤ 122) = True := by simp only [eq_iff_iff, iff_true]; omega
    have f2 : (65 ≤ c) = False := by simp only [eq_iff_iff, iff_false]; omega
    have f3 : (c ≤ 90) = True := by simp only [eq_iff_iff, iff_true]; omega
    have f4 : (48 ≤ c) = True := by simp only [eq_iff_iff, iff_true]; omega
    have f5 : (c ≤ 57) = True := by simp only [eq_iff_iff, iff_true]; omega
    have hb : (c == 95) = false := by simp; omega
    refine Wc.reg fun K hK => ?_; simp only [go_sem, ti3, ti9, ti5, ti4, ti32, f0, f1, f2, f3, f4, f5, hb]; refine hK _ _ ?_; clear hK K
    have e : nb c = true := by simp [nb]; omega
    rw [e]
    exact Wc.ret (Pf.ret [.tmp 2] [.c (.p (.bool true))] rfl rfl (by simp only [resultsD, go_sem, ti3, ti9, ti5, ti4, ti32, f0, f1, f2, f3, f4, f5, hb]) rfl)
  ·
    have f0 : (97 ≤ c) = False := by simp only [eq_iff_iff, iff_false]; omega
    have f1 : (c ≤ 122) = True := by simp only [eq_iff_iff, iff_true]; omega
    have f2 : (65 ≤ c) = False := by simp only [eq_iff_iff, iff_false]; omega
    have f3 : (c ≤ 90) = True := by simp only [eq_iff_iff, iff_true]; omega
    have f4 : (48 ≤ c) = True := by simp only [eq_iff_iff, iff_true]; omega
    have f5 : (c ≤ 57) = False := by simp only [eq_iff_iff, iff_false]; omega
    have hb : (c == 95) = false := by simp; omega
    refine Wc.reg fun K hK => ?_; simp only [go_sem, ti3, ti9, ti5, ti4, ti32, f0, f1, f2, f3, f4, f5, hb]; refine hK _ _ ?_; clear hK K
    have e : nb c = false := by simp [nb]; omega
    rw [e]
    exact Wc.ret (Pf.ret [.tmp 2] [.c (.p (.bool false))] rfl rfl (by simp only [resultsD, go_sem, ti3, ti9, ti5, ti4, ti32, f0, f1, f2, f3, f4, f5, hb]) rfl)
  ·
    have f0 : (97 ≤ c) = False := by simp only [eq_iff_iff, iff_false]; omega
    have f1 : (c ≤ 122) = True := by simp only [eq_iff_iff, iff_true]; omega
    have f2 : (65 ≤ c) = True := by simp only [eq_iff_iff, iff_true]; omega
    have f3 : (c ≤ 90) = True := by simp only [eq_iff_iff, iff_true]; omega
    have f4 : (48 ≤ c) = True := by simp only [eq_iff_iff, iff_true]; omega
    have f5 : (c ≤ 57) = False := by simp only [eq_iff_iff, iff_false]; omega
    have hb : (c == 95) = false := by simp; omega
    refine Wc.reg fun K hK => ?_; simp only [go_sem, ti3, ti9, ti5, ti4, ti32, f0, f1, f2, f3, f4, f5, hb]; refine hK _ _ ?_; clear hK K
    have e : nb c = true := by simp [nb]; omega
    rw [e]
    exact Wc.ret (Pf.ret [.tmp 2] [.c (.p (.bool true))] rfl rfl (by simp only [resultsD, go_sem, ti3, ti9, ti5, ti4, ti32, f0, f1, f2, f3, f4, f5, hb]) rfl)
  ·
    have f0 : (97 ≤ c) = False := by simp only [eq_iff_iff, iff_false]; omega
    have f1 : (c ≤ 122) = True := by simp only [eq_iff_iff, iff_true]; omega
    have f2 : (65 ≤ c) = True := by simp only [eq_iff_iff, iff_true]; omega
    have f3 : (c ≤ 90) = False := by simp only [eq_iff_iff, iff_false]; omega
    have f4 : (48 ≤ c) = True := by simp only [eq_iff_iff, iff_true]; omega
    have f5 : (c ≤ 57) = False := by simp only [eq_iff_iff, iff_false]; omega
    by_cases h95 : c = 95
    · have hb : (c == 95) = true := by simpa using h95
      refine Wc.reg fun K hK => ?_; simp only [go_sem, ti3, ti9, ti5, ti4, ti32, f0, f1, f2, f3, f4, f5, hb]; refine hK _ _ ?_; clear hK K
      have e : nb c = true := by simp [nb]; omega
      rw [e]
      exact Wc.ret (Pf.ret [.tmp 2] [.c (.p (.bool true))] rfl rfl (by simp only [resultsD, go_sem, ti3, ti9, ti5, ti4, ti32, f0, f1, f2, f3, f4, f5, hb]) rfl)
    · have hb : (c == 95) = false := by simpa using h95
      refine Wc.reg fun K hK => ?_; simp only [go_sem, ti3, ti9, ti5, ti4, ti32, f0, f1, f2, f3, f4, f5, hb]; refine hK _ _ ?_; clear hK K
      have e : nb c = false := by simp [nb]; omega
      rw [e]
      exact Wc.ret (Pf.ret [.tmp 2] [.c (.p (.bool false))] rfl rfl (by simp only [resultsD, go_sem, ti3, ti9, ti5, ti4, ti32, f0, f1, f2, f3, f4, f5, hb]) rfl)
  ·
    have f0 : (97 ≤ c) = True := by simp only [eq_iff_iff, iff_true]; omega
    have f1 : (c ≤ 122) = True := by simp only [eq_iff_iff, iff_true]; omega
    have f2 : (65 ≤ c) = True := by simp only [eq_iff_iff, iff_true]; omega
    have f3 : (c ≤ 90) = False := by simp only [eq_iff_iff, iff_false]; omega
    have f4 : (48 ≤ c) = True := by simp only [eq_iff_iff, iff_true]; omega
    have f5 : (c ≤ 57) = False := by simp only [eq_iff_iff, iff_false]; omega
    have hb : (c == 95) = false := by simp; omega
    refine Wc.reg fun K hK => ?_; simp only [go_sem, ti3, ti9, ti5, ti4, ti32, f0, f1, f2, f3, f4, f5, hb]; refine hK _ _ ?_; clear hK K
    have e : nb c = true := by simp [nb]; omega
    rw [e]
    exact Wc.ret (Pf.ret [.tmp 2] [.c (.p (.bool true))] rfl rfl (by simp only [resultsD, go_sem, ti3, ti9, ti5, ti4, ti32, f0, f1, f2, f3, f4, f5, hb]) rfl)
  ·
    have f0 : (97 ≤ c) = True := by simp only [eq_iff_iff, iff_true]; omega
    have f1 : (c ≤ 122) = False := by simp only [eq_iff_iff, iff_false]; omega
    have f2 : (65 ≤ c) = True := by simp only [eq_iff_iff, iff_true]; omega
    have f3 : (c ≤ 90) = False := by simp only [eq_iff_iff, iff_false]; omega
    have f4 : (48 ≤ c) = True := by simp only [eq_iff_iff, iff_true]; omega
    have f5 : (c ≤ 57) = False := by simp only [eq_iff_iff, iff_false]; omega
    have hb : (c == 95) = false := by simp; omega
    refine Wc.reg fun K hK => ?_; simp only [go_sem, ti3, ti9, ti5, ti4, ti32, f0, f1, f2, f3, f4, f5, hb]; refine hK _ _ ?_; clear hK K
    have e : nb c = false := by simp [nb]; omega
    rw [e]
    exact Wc.ret (Pf.ret [.tmp 2] [.c (.p (.bool false))] rfl rfl (by simp only [resultsD, go_sem, ti3, ti9, ti5, ti4, ti32, f0, f1, f2, f3, f4, f5, hb]) rfl)
end Go.Proofs.YtedcnhbblgmdnaaGreat.Ab
namespace Go.Proofs.YtedcnhbblgmdnaaGreat.Ab
set_option maxHeartbeats 4000000
set_option maxRecDepth 10000
set_option linter.unusedSimpArgs false
set_option linter.unusedVariables false
def nbs (s : List UInt8) : Bool := s.all fun b => nb b.toNat
def digit (s : List UInt8) : Bool := match s with
  | [] => false
  | b :: _ => decide (48 ≤ b.toNat ∧ b.toNat ≤ 57)
/-- A name. -/
def nameOK (s : List UInt8) : Bool := decide (1 ≤ s.length ∧ s.length ≤ 60) && !digit s && nbs s
theorem digit_at {s : List UInt8} {b : UInt8} (h : s[0]? = some b) : digit s = decide (48 ≤ b.toNat ∧ b.toNat ≤ 57) := by
  cases s with
  | nil => simp at h
  | cons a r => simp at h; subst h; rfl
theorem nbs_bad {s : List UInt8} {b : UInt8} {i : Nat} (h : s[i]? = some b) (hb : nb b.toNat = false) : nbs s = false := by
  rw [Bool.eq_false_iff]
  intro hs
  have := List.all_eq_true.1 hs b (List.mem_of_getElem? h)
  rw [hb] at this; cases this
theorem nbs_take {s : List UInt8} {b : UInt8} {i : Nat} (h : s[i]? = some b) (hb : nb b.toNat = true) (ht : nbs (s.take i) = true) : nbs (s.take (i + 1)) = true := by
  unfold nbs at *
  rw [take_snoc h, List.all_append, ht]; simp [hb]
/-- 83: isName -/
theorem pf208 (s : List UInt8) : Pf E0 208 [.c (.p (.str s))] (P' (.bool (nameOK s))) := by
  refine Pf.body (fn := Tryz.f208) (by kernel_rfl) rfl ?_; simp only [List.map_cons, List.map_nil, List.cons_append, List.nil_append, List.length_cons, List.length_nil, Tryz.ntmps208, List.replicate, Nat.reduceSub, Nat.reduceAdd]
  refine Wc.seq ?_
  refine Wc.reg fun K hK => ?_; simp only [go_sem, ti3, ti9, ti5, ti4, ti32]; refine hK _ _ ?_; clear hK K
  refine Wc.seqR (fun y => (1 ≤ s.length ∧ s.length ≤ 60 ∧ digit s = false) ∧ y.ds = [] ∧ y.e.length = 33 ∧ y.e.getD 0 .junk = P' (.str s)) ?_ ?_
  · have bad : ¬ (1 ≤ s.length ∧ s.length ≤ 60 ∧ digit s = false) → nameOK s = false := fun h => by
      unfold nameOK
      rw [Bool.and_eq_false_iff, Bool.and_eq_false_iff, decide_eq_false_iff_not]
      by_cases h1 : 1 ≤ s.length ∧ s.length ≤ 60
      · cases hd : digit s with
        | true => exact .inl (.inr rfl)
        | false => exact absurd ⟨h1.1, h1.2, hd⟩ h
      · exact .inl (.inl h1)
    refine Wc.seq ?_
    by_cases h1 : s.length < 1
    · have f1 : ((s.length : Int) < 1) = True := by simp only [eq_iff_iff, iff_true]; omega
      refine Wc.reg fun K hK => ?_; simp only [go_sem, ti3, ti9, ti5, ti4, ti32, f1]; refine hK _ _ ?_; clear hK K
      refine Wc.cond (t := true) (by simp only [go_sem, ti3, ti9, ti5, ti4, ti32, f1]) (fun _ => ?_) (fun hc => by cases hc)
      refine Wc.seq ?_
      refine Wc.reg fun K hK => ?_; simp only [go_sem, ti3, ti9, ti5, ti4, ti32]; refine hK _ _ ?_; clear hK K
      rw [bad (by omega)]
      exact Wc.ret (Pf.ret [.tmp 2] [.c (.p (.bool false))] rfl rfl (by simp only [resultsD, go_sem, ti3, ti9, ti5, ti4, ti32]) rfl)
    have f1 : ((s.length : Int) < 1) = False := by simp only [eq_iff_iff, iff_false]; omega
    by_cases h2 : 60 < s.length
    · have f2 : (60 < (s.length : Int)) = True := by simp only [eq_iff_iff, iff_true]; omega
      refine Wc.reg fun K hK => ?_; simp only [go_sem, ti3, ti9, ti5, ti4, ti32, f1, f2]; refine hK _ _ ?_; clear hK K
      refine Wc.cond (t := true) (by simp only [go_sem, ti3, ti9, ti5, ti4, ti32, f1, f2]) (fun _ => ?_) (fun hc => by cases hc)
      refine Wc.seq ?_
      refine Wc.reg fun K hK => ?_; simp only [go_sem, ti3, ti9, ti5, ti4, ti32]; refine hK _ _ ?_; clear hK K
      rw [bad (by omega)]
      exact Wc.ret (Pf.ret [.tmp 2] [.c (.p (.bool false))] rfl rfl (by simp only [resultsD, go_sem, ti3, ti9, ti5, ti4, ti32]) rfl)
    have f2 : (60 < (s.length : Int)) = False := by simp only [eq_iff_iff, iff_false]; omega
    obtain ⟨b, hb⟩ : ∃ b, s[0]? = some b := ⟨s[0], List.getElem?_eq_getElem (by omega)⟩
    have hd := digit_at hb
    by_cases h3 : 48 ≤ b.toNat
    · have f3 : ((48 : Int) ≤ (b.toNat : Int)) = True := by simp only [eq_iff_iff, iff_true]; omega
      refine Wc.reg fun K hK => ?_; simp only [go_sem, ti3, ti9, ti5, ti4, ti32, f1, f2, f3, hb, pdOfByte]; refine hK _ _ ?_; clear hK K
      refine Wc.cond (t := decide ((b.toNat : Int) ≤ 57)) (by simp only [go_sem, ti3, ti9, ti5, ti4, ti32, f1, f2, f3]) (fun hc => ?_) (fun hc => ?_)
      · have h4 : (b.toNat : Int) ≤ 57 := by simpa using hc
        refine Wc.seq ?_
        refine Wc.reg fun K hK => ?_; simp only [go_sem, ti3, ti9, ti5, ti4, ti32]; refine hK _ _ ?_; clear hK K
        rw [bad (by rw [hd]; simp; omega)]
        exact Wc.ret (Pf.ret [.tmp 2] [.c (.p (.bool false))] rfl rfl (by simp only [resultsD, go_sem, ti3, ti9, ti5, ti4, ti32]) rfl)
      · have h4 : ¬ (b.toNat : Int) ≤ 57 := by simpa using hc
        exact Wc.skip ⟨⟨by omega, by omega, by rw [hd]; simp; omega⟩, rfl, rfl, rfl⟩
    · have f3 : ((48 : Int) ≤ (b.toNat : Int)) = False := by simp only [eq_iff_iff, iff_false]; omega
      refine Wc.reg fun K hK => ?_; simp only [go_sem, ti3, ti9, ti5, ti4, ti32, f1, f2, f3, hb, pdOfByte]; refine hK _ _ ?_; clear hK K
      refine Wc.cond (t := false) (by simp only [go_sem, ti3, ti9, ti5, ti4, ti32, f1, f2, f3]) (fun hc => by cases hc) (fun _ => ?_)
      exact Wc.skip ⟨⟨by omega, by omega, by rw [hd]; simp; omega⟩, rfl, rfl, rfl⟩
  · rintro ⟨e, ds, s1⟩ ⟨⟨h1, h2, h3⟩, rfl, hlen, h0⟩
    simp only at hlen h0
    have e0 : nameOK s = nbs s := by unfold nameOK; rw [h3]; simp [h1, h2]
    rw [e0]
    refine Wc.seq (Wc.seq ?_)
    refine Wc.reg fun K hK => ?_; simp only [go_sem, ti3, ti9, ti5, ti4, ti32, hlen, h0, Int.natCast_zero]; refine hK _ _ ?_; clear hK K
    refine Wc.block (Wc.loop (fun k y => ∃ i : Nat, k = s.length - i ∧ i ≤ s.length ∧ y.ds = [] ∧ y.e.length = 33 ∧ y.e.getD 0 .junk = P' (.str s) ∧ y.e.getD 3 .junk = P' (pI i) ∧ nbs (s.take i) = true) ?_ (k := s.length) ?_)
    · clear hlen h0 e s1
      rintro k ⟨e, ds, s1⟩ ⟨i, rfl, hi, rfl, hlen, h0, h3, hn⟩
      simp only at hlen h0 h3
      refine Wc.seq (Wc.seq ?_)
      refine Wc.reg fun K hK => ?_; simp only [go_sem, ti3, ti9, ti5, ti4, ti32, hlen, h0, h3]; refine hK _ _ ?_; clear hK K
      refine Wc.cond (t := decide ((i : Int) < s.length)) (by simp only [go_sem, ti3, ti9, ti5, ti4, ti32, hlen]) (fun hc => ?_) (fun hc => ?_)
      · have hil : i < s.length := by have : (i : Int) < s.length := by simpa using hc
                                      omega
        obtain ⟨b, hb⟩ : ∃ b, s[i]? = some b := ⟨s[i], List.getElem?_eq_getElem hil⟩
        refine Wc.skip (Wc.seq (Wc.block (Wc.seq ?_)))
        refine Wc.reg fun K hK => ?_; simp only [go_sem, ti3, ti9, ti5, ti4, ti32, hlen, h0, h3, hb, pdOfByte]
        refine wpCall.pf (pf246 b.toNat) (by kernel_rfl) (by kernel_rfl) rfl rfl ?_
        simp only [go_sem, ti3, ti9, ti5, ti4, ti32, hlen, h0, h3]; refine hK _ _ ?_; clear hK K
        refine Wc.cond (t := !(nb b.toNat)) (by simp only [go_sem, ti3, ti9, ti5, ti4, ti32, hlen]) (fun hc => ?_) (fun hc => ?_)
        · have hbf : nb b.toNat = false := by simpa using hc
          refine Wc.seq ?_
          refine Wc.reg fun K hK => ?_; simp only [go_sem, ti3, ti9, ti5, ti4, ti32, hlen]; refine hK _ _ ?_; clear hK K
          rw [nbs_bad hb hbf]
          exact Wc.ret (Pf.ret [.tmp 2] [.c (.p (.bool false))] rfl rfl (by simp only [resultsD, go_sem, ti3, ti9, ti5, ti4, ti32, hlen]) rfl)
        · have hbt : nb b.toNat = true := by simpa using hc
          refine Wc.skip ?_
          refine Wc.reg fun K hK => ?_; simp only [go_sem, ti3, ti9, ti5, ti4, ti32, hlen, h0, h3, i64n i (by omega)]; refine hK _ _ ?_; clear hK K
          exact ⟨s.length - (i + 1), by omega, i + 1, rfl, by omega, rfl, by simp only [go_sem, ti3, ti9, ti5, ti4, ti32, hlen], by simp only [go_sem, ti3, ti9, ti5, ti4, ti32, hlen, h0], by simp only [go_sem, ti3, ti9, ti5, ti4, ti32, hlen], nbs_take hb hbt hn⟩
      · have hil : i = s.length := by have : ¬ (i : Int) < s.length := by simpa using hc
                                      omega
        subst hil
        rw [List.take_length] at hn
        refine Wc.exit (Wc.seq ?_)
        refine Wc.reg fun K hK => ?_; simp only [go_sem, ti3, ti9, ti5, ti4, ti32, hlen]; refine hK _ _ ?_; clear hK K
        rw [hn]
        exact Wc.ret (Pf.ret [.tmp 2] [.c (.p (.bool true))] rfl rfl (by simp only [resultsD, go_sem, ti3, ti9, ti5, ti4, ti32, hlen]) rfl)
    · exact ⟨0, rfl, by omega, rfl, by simp only [go_sem, ti3, ti9, ti5, ti4, ti32, hlen], by simp only [go_sem, ti3, ti9, ti5, ti4, ti32, hlen, h0], by simp only [go_sem, ti3, ti9, ti5, ti4, ti32, hlen]; rfl, rfl⟩
end Go.Proofs.YtedcnhbblgmdnaaGreat.Ab
namespace Go.Proofs.YtedcnhbblgmdnaaGreat.Ab
set_option maxHeartbeats 4000000
set_option maxRecDepth 10000
set_option linter.unusedSimpArgs false
set_option linter.unusedVariables false
/-- A label: name, value. -/
abbrev Lb := List UInt8 × List UInt8
abbrev lbP (x : Lb) : List Pd := [.str x.1, .str x.2]
def leB (x y : List UInt8) : Bool := Op.bytesLess x y || x == y
/-- Why a list is no label set, behind a name. -/
def lck : Option (List UInt8) → List Lb → Int
  | _, [] => 0
  | p, x :: r => if nameOK x.1 = false then 5 else if x.2 = [] then 1 else if 200 < x.2.length then 4 else match p with
    | some y => if leB x.1 y = true then 9 else lck (some x.1) r
    | none => lck (some x.1) r
def lckA (l : List Lb) : Int := if 16 < l.length then 4 else lck none l
def prevL (l : List Lb) (i : Nat) : Option (List UInt8) := if i = 0 then none else (l[i - 1]?).map (·.1)
theorem lck_step {l : List Lb} {i : Nat} {x : Lb} (h : l[i]? = some x) : lck (prevL l i) (l.drop i) = if nameOK x.1 = false then 5 else if x.2 = [] then 1 else if 200 < x.2.length then 4 else match prevL l i with
    | some y => if leB x.1 y = true then 9 else lck (prevL l (i + 1)) (l.drop (i + 1))
    | none => lck (prevL l (i + 1)) (l.drop (i + 1)) := by
  have hi := (List.getElem?_eq_some_iff.1 h).1
  have hx := (List.getElem?_eq_some_iff.1 h).2
  have hp : prevL l (i + 1) = some x.1 := by simp [prevL, h]
  rw [List.drop_eq_getElem_cons hi, hx, hp]
  cases prevL l i <;> rfl
theorem lck_end (p : Option (List UInt8)) : lck p [] = 0 := by cases p <;> rfl
/-- 45: labels.Check -/
theorem pf134 (l : List Lb) (hl : l.length < 2^40) (hs : ∀ x ∈ l, x.1.length < 2^50 ∧ x.2.length < 2^50) : Pf E0 134 [.c (.p (.lst l.length (l.flatMap lbP)))] (P' (pI (lckA l))) := by
  have hfl : (l.flatMap lbP).length = l.length * 2 := flat_len (k := 2) (fun _ => rfl) l
  refine Pf.body (fn := Tryz.f134) (by kernel_rfl) rfl ?_; simp only [List.map_cons, List.map_nil, List.cons_append, List.nil_append, List.length_cons, List.length_nil, Tryz.ntmps134, List.replicate, Nat.reduceSub, Nat.reduceAdd]
  refine Wc.seq ?_
  refine Wc.reg fun K hK => ?_; simp only [go_sem, ti3, ti9, ti5, ti4, ti32, ti22, ti117]; refine hK _ _ ?_; clear hK K
  refine Wc.seq (Wc.seq ?_)
  refine Wc.reg fun K hK => ?_; simp only [go_sem, ti3, ti9, ti5, ti4, ti32, ti22, ti117]; refine hK _ _ ?_; clear hK K
  refine Wc.cond (t := decide ((16 : Int) < l.length)) (by simp only [go_sem, ti3, ti9, ti5, ti4, ti32, ti22, ti117]) (fun hc => ?_) (fun hc => ?_)
  · have hc' : 16 < l.length := by have : (16 : Int) < l.length := by simpa using hc
                                   omega
    refine Wc.seq ?_
    refine Wc.reg fun K hK => ?_; simp only [go_sem, ti3, ti9, ti5, ti4, ti32, ti22, ti117]; refine hK _ _ ?_; clear hK K
    have e : lckA l = 4 := by unfold lckA; rw [if_pos hc']
    rw [e]
    exact Wc.ret (Pf.ret [.tmp 2] [.c (.p (pI 4))] rfl rfl (by simp only [resultsD, go_sem, ti3, ti9, ti5, ti4, ti32, ti22, ti117]) rfl)
  have hc' : ¬ 16 < l.length := by have : ¬ (16 : Int) < l.length := by simpa using hc
                                   omega
  have e0 : lckA l = lck (prevL l 0) (l.drop 0) := by unfold lckA; rw [if_neg hc']; rfl
  refine Wc.skip (Wc.seqR (fun y => lckA l = 0 ∧ y.ds = [] ∧ y.e.length = 44) ?_ ?_)
  · refine Wc.seq ?_
    refine Wc.reg fun K hK => ?_; simp only [go_sem, ti3, ti9, ti5, ti4, ti32, ti22, ti117, Int.natCast_zero]; refine hK _ _ ?_; clear hK K
    refine Wc.block (Wc.loop (fun k y => ∃ i : Nat, k = l.length - i ∧ i ≤ l.length ∧ y.ds = [] ∧ y.e.length = 44 ∧ y.e.getD 0 .junk = P' (.lst l.length (l.flatMap lbP)) ∧ y.e.getD 8 .junk = P' (.lst l.length (l.flatMap lbP)) ∧ y.e.getD 9 .junk = P' (pI l.length) ∧ y.e.getD 10 .junk = P' (pI i) ∧ lckA l = lck (prevL l i) (l.drop i)) ?_ (k := l.length) ?_)
    · rintro k ⟨e, ds, s1⟩ ⟨i, rfl, hi, rfl, hlen, h0, h8, h9, h10, hch⟩
      simp only at hlen h0 h8 h9 h10
      refine Wc.seq ?_
      refine Wc.reg fun K hK => ?_; simp only [go_sem, ti3, ti9, ti5, ti4, ti32, ti22, ti117, hlen, h0, h8, h9, h10]; refine hK _ _ ?_; clear hK K
      refine Wc.seq (Wc.cond (t := decide ((i : Int) < l.length)) (by simp only [go_sem, ti3, ti9, ti5, ti4, ti32, ti22, ti117, hlen]) (fun hc => ?_) (fun hc => ?_))
      · have hil : i < l.length := by have : (i : Int) < l.length := by simpa using hc
                                      omega
        obtain ⟨x, hx⟩ : ∃ x, l[i]? = some x := ⟨l[i], List.getElem?_eq_getElem hil⟩
        have hxs := hs x (List.mem_of_getElem? hx)
        have hix := ixA ti22 rfl ti117 (j := i) (m := l.length) (cs := l.flatMap lbP) hil hfl (by decide)
        have hca := rpA (off := i * 2) (drop_flat (f := lbP) (k := 2) (fun _ => rfl) hx) (by rw [hfl]; omega)
        rw [lck_step hx] at hch
        refine Wc.skip (Wc.seq (Wc.block (Wc.seq ?_)))
        refine Wc.reg fun K hK => ?_; simp only [go_sem, ti3, ti9, ti5, ti4, ti32, ti22, ti117, hlen, h0, h8, h9, h10, hix, hca]; refine hK _ _ ?_; clear hK K
        refine Wc.block (Wc.seq ?_)
        refine Wc.reg fun K hK => ?_; simp only [go_sem, ti3, ti9, ti5, ti4, ti32, ti22, ti117, hlen, h0, h8, h9, h10]
        refine wpCall.pf (pf208 x.1) (by kernel_rfl) (by kernel_rfl) rfl rfl ?_
        simp only [go_sem, ti3, ti9, ti5, ti4, ti32, ti22, ti117, hlen, h0, h8, h9, h10]; refine hK _ _ ?_; clear hK K
        refine Wc.cond (t := !(nameOK x.1)) (by simp only [go_sem, ti3, ti9, ti5, ti4, ti32, ti22, ti117, hlen]) (fun hc => ?_) (fun hc => ?_)
        · have hn : nameOK x.1 = false := by simpa using hc
          rw [if_pos hn] at hch
          refine Wc.seq ?_
          refine Wc.reg fun K hK => ?_; simp only [go_sem, ti3, ti9, ti5, ti4, ti32, ti22, ti117, hlen]; refine hK _ _ ?_; clear hK K
          rw [hch]
          exact Wc.ret (Pf.ret [.tmp 2] [.c (.p (pI 5))] rfl rfl (by simp only [resultsD, go_sem, ti3, ti9, ti5, ti4, ti32, ti22, ti117, hlen]) rfl)
        have hn : ¬ nameOK x.1 = false := by simpa using hc
        rw [if_neg hn] at hch
        refine Wc.seq ?_
        refine Wc.reg fun K hK => ?_; simp only [go_sem, ti3, ti9, ti5, ti4, ti32, ti22, ti117, hlen, h0, h8, h9, h10]; refine hK _ _ ?_; clear hK K
        refine Wc.cond (t := (x.2 == [])) (by simp only [go_sem, ti3, ti9, ti5, ti4, ti32, ti22, ti117, hlen]) (fun hc => ?_) (fun hc => ?_)
        · have hv : x.2 = [] := by simpa using hc
          rw [if_pos hv] at hch
          refine Wc.seq ?_
          refine Wc.reg fun K hK => ?_; simp only [go_sem, ti3, ti9, ti5, ti4, ti32, ti22, ti117, hlen]; refine hK _ _ ?_; clear hK K
          rw [hch]
          exact Wc.ret (Pf.ret [.tmp 2] [.c (.p (pI 1))] rfl rfl (by simp only [resultsD, go_sem, ti3, ti9, ti5, ti4, ti32, ti22, ti117, hlen]) rfl)
        have hv : ¬ x.2 = [] := by simpa using hc
        rw [if_neg hv] at hch
        refine Wc.seq ?_
        refine Wc.reg fun K hK => ?_; simp only [go_sem, ti3, ti9, ti5, ti4, ti32, ti22, ti117, hlen, h0, h8, h9, h10]; refine hK _ _ ?_; clear hK K
        refine Wc.cond (t := decide ((200 : Int) < x.2.length)) (by simp only [go_sem, ti3, ti9, ti5, ti4, ti32, ti22, ti117, hlen]) (fun hc => ?_) (fun hc => ?_)
        · have hv2 : 200 < x.2.length := by have : (200 : Int) < x.2.length := by simpa using hc
                                            omega
          rw [if_pos hv2] at hch
          refine Wc.seq ?_
          refine Wc.reg fun K hK => ?_; simp only [go_sem, ti3, ti9, ti5, ti4, ti32, ti22, ti117, hlen]; refine hK _ _ ?_; clear hK K
          rw [hch]
          exact Wc.ret (Pf.ret [.tmp 2] [.c (.p (pI 4))] rfl rfl (by simp only [resultsD, go_sem, ti3, ti9, ti5, ti4, ti32, ti22, ti117, hlen]) rfl)
        have hv2 : ¬ 200 < x.2.length := by have : ¬ (200 : Int) < x.2.length := by simpa using hc
                                            omega
        rw [if_neg hv2] at hch
        refine Wc.seq ?_
        by_cases hi0 : 0 < i
        · obtain ⟨y, hy⟩ : ∃ y, l[i - 1]? = some y := ⟨l[i - 1], List.getElem?_eq_getElem (by omega)⟩
          have hiy := ixA ti22 rfl ti117 (j := i - 1) (m := l.length) (cs := l.flatMap lbP) (by omega) hfl (by decide)
          have hcb := rpA (off := (i - 1) * 2) (drop_flat (f := lbP) (k := 2) (fun _ => rfl) hy) (by rw [hfl]; omega)
          have e1 : IntKind.i64.wrap ((i : Int) - 1) = ((i - 1 : Nat) : Int) := by rw [wi64]; omega
          have hd : (0 < (i : Int)) = True := by simp; omega
          have hpr : prevL l i = some y.1 := by unfold prevL; rw [if_neg (by omega), hy]; rfl
          rw [hpr] at hch
          simp only at hch
          refine Wc.regD fun K hK => ?_; simp only [go_sem, ti3, ti9, ti5, ti4, ti32, ti22, ti117, hlen, h0, h8, h9, h10, hiy, hcb, e1, hd]; refine hK _ _ ?_; clear hK K
          refine Wc.cond (t := leB x.1 y.1) (by simp only [go_sem, ti3, ti9, ti5, ti4, ti32, ti22, ti117, hlen, hd]; rfl) (fun hc => ?_) (fun hc => ?_)
          · rw [if_pos hc] at hch
            refine Wc.seq ?_
            refine Wc.reg fun K hK => ?_; simp only [go_sem, ti3, ti9, ti5, ti4, ti32, ti22, ti117, hlen]; refine hK _ _ ?_; clear hK K
            rw [hch]
            exact Wc.ret (Pf.ret [.tmp 2] [.c (.p (pI 9))] rfl rfl (by simp only [resultsD, go_sem, ti3, ti9, ti5, ti4, ti32, ti22, ti117, hlen]) rfl)
          · rw [if_neg (by rw [hc]; decide)] at hch
            refine Wc.skip ?_
            refine Wc.reg fun K hK => ?_; simp only [go_sem, ti3, ti9, ti5, ti4, ti32, ti22, ti117, hlen, h0, h8, h9, h10, i64n i (by omega)]; refine hK _ _ ?_; clear hK K
            exact ⟨l.length - (i + 1), by omega, i + 1, rfl, by omega, rfl, by simp only [go_sem, ti3, ti9, ti5, ti4, ti32, ti22, ti117, hlen], by simp only [go_sem, ti3, ti9, ti5, ti4, ti32, ti22, ti117, hlen, h0], by simp only [go_sem, ti3, ti9, ti5, ti4, ti32, ti22, ti117, hlen, h8], by simp only [go_sem, ti3, ti9, ti5, ti4, ti32, ti22, ti117, hlen, h9], by simp only [go_sem, ti3, ti9, ti5, ti4, ti32, ti22, ti117, hlen], hch⟩
        · have hd : (0 < (i : Int)) = False := by simp; omega
          have hpr : prevL l i = none := by unfold prevL; rw [if_pos (by omega)]
          rw [hpr] at hch
          simp only at hch
          refine Wc.regD fun K hK => ?_; simp only [go_sem, ti3, ti9, ti5, ti4, ti32, ti22, ti117, hlen, h0, h8, h9, h10, hd]; refine hK _ _ ?_; clear hK K
          refine Wc.cond (t := false) (by simp only [go_sem, ti3, ti9, ti5, ti4, ti32, ti22, ti117, hlen, hd]) (fun hc => by cases hc) (fun hc => ?_)
          refine Wc.skip ?_
          refine Wc.reg fun K hK => ?_; simp only [go_sem, ti3, ti9, ti5, ti4, ti32, ti22, ti117, hlen, h0, h8, h9, h10, i64n i (by omega)]; refine hK _ _ ?_; clear hK K
          exact ⟨l.length - (i + 1), by omega, i + 1, rfl, by omega, rfl, by simp only [go_sem, ti3, ti9, ti5, ti4, ti32, ti22, ti117, hlen], by simp only [go_sem, ti3, ti9, ti5, ti4, ti32, ti22, ti117, hlen, h0], by simp only [go_sem, ti3, ti9, ti5, ti4, ti32, ti22, ti117, hlen, h8], by simp only [go_sem, ti3, ti9, ti5, ti4, ti32, ti22, ti117, hlen, h9], by simp only [go_sem, ti3, ti9, ti5, ti4, ti32, ti22, ti117, hlen], hch⟩
      · have hil : i = l.length := by have : ¬ (i : Int) < l.length := by simpa using hc
                                      omega
        rw [hil, List.drop_length, lck_end] at hch
        exact Wc.exit ⟨hch, rfl, by simp only [go_sem, ti3, ti9, ti5, ti4, ti32, ti22, ti117, hlen]⟩
    · exact ⟨0, rfl, by omega, rfl, rfl, rfl, rfl, rfl, rfl, e0⟩
  · rintro ⟨e, ds, s1⟩ ⟨hch, rfl, hlen⟩
    simp only at hlen
    rw [hch]
    refine Wc.seq ?_
    refine Wc.reg fun K hK => ?_; simp only [go_sem, ti3, ti9, ti5, ti4, ti32, ti22, ti117, hlen]; refine hK _ _ ?_; clear hK K
    exact Wc.ret (Pf.ret [.tmp 2] [.c (.p (pI 0))] rfl rfl (by simp only [resultsD, go_sem, ti3, ti9, ti5, ti4, ti32, ti22, ti117, hlen]) rfl)
end Go.Proofs.YtedcnhbblgmdnaaGreat.Ab
namespace Go.Proofs.YtedcnhbblgmdnaaGreat.Ab
set_option maxHeartbeats 4000000
set_option maxRecDepth 10000
set_option linter.unusedSimpArgs false
set_option linter.unusedVariables false
end Go.Proofs.YtedcnhbblgmdnaaGreat.Ab
namespace Go.Proofs.YtedcnhbblgmdnaaGreat.Ab
set_option maxHeartbeats 4000000
set_option maxRecDepth 10000
set_option linter.unusedSimpArgs false
set_option linter.unusedVariables false
/-- A valid sample. -/
def smpOK (x : I2) : Bool := isT x.1 && isVl x.2
/-- Why a list is none of a kind's samples, behind a time. -/
def sck (k : Int) : Option Int → List I2 → Int
  | _, [] => 0
  | p, x :: r => if smpOK x = false ∨ (k = 2 ∧ x.2 < 0) then 2 else match p with
    | some y => if x.1 ≤ y then 9 else sck k (some x.1) r
    | none => sck k (some x.1) r
def sckA (k : Int) (l : List I2) : Int := if k ≠ 1 ∧ k ≠ 2 then 8 else if 2000 < l.length then 4 else sck k none l
def prevT (l : List I2) (i : Nat) : Option Int := if i = 0 then none else (l[i - 1]?).map (·.1)
def sB (k : Int) (x : I2) : Bool := !(smpOK x) || ((k == 2) && decide (x.2 < 0))
end Go.Proofs.YtedcnhbblgmdnaaGreat.Ab
/- Histograms' buckets: the plain law of their bounds. -/
namespace Go.Proofs.YtedcnhbblgmdnaaGreat.Ab
set_option linter.unusedVariables false
set_option linter.unusedSimpArgs false
/-- The number of bits. -/
def blen (v : Nat) : Nat := if v = 0 then 0 else v.log2 + 1
theorem blen_pos {v : Nat} (h : 0 < v) : ∃ m, blen v = m + 1 ∧ 2 ^ m ≤ v ∧ v < 2 ^ (m + 1) := by
  refine ⟨v.log2, ?_, ?_⟩
  · unfold blen; rw [if_neg (by omega)]
  · exact (Nat.log2_eq_iff (by omega)).1 rfl
/-- The index of a value's bucket. -/
def ix (q v : Nat) : Nat := if v < 2 ^ (q + 1) then v else 2 ^ q + ix q (v / 2)
termination_by v
decreasing_by
  have := Nat.two_pow_pos (q + 1)
  omega
theorem ix_lt {q v : Nat} (h : v < 2 ^ (q + 1)) : ix q v = v := by rw [ix, if_pos h]
theorem ix_ge {q v : Nat} (h : 2 ^ (q + 1) ≤ v) : ix q v = 2 ^ q + ix q (v / 2) := by rw [ix, if_neg (by omega)]
theorem ix_closed (q : Nat) : ∀ k v, 2 ^ (q + k) ≤ v → v < 2 ^ (q + k + 1) → ix q v = k * 2 ^ q + v / 2 ^ k
  | 0, v, h1, h2 => by rw [ix_lt (by simpa using h2)]; simp
  | k + 1, v, h1, h2 => by
    have e1 : 2 ^ (q + (k + 1)) = 2 ^ (q + k) * 2 := by rw [← Nat.add_assoc, Nat.pow_succ]
    have e2 : 2 ^ (q + (k + 1) + 1) = 2 ^ (q + k + 1) * 2 := by rw [Nat.pow_succ, ← Nat.add_assoc]
    have h3 : 2 ^ (q + 1) ≤ v := Nat.le_trans (Nat.pow_le_pow_right (by decide) (by omega)) h1
    rw [ix_ge h3, ix_closed q k (v / 2) (by omega) (by omega), Nat.div_div_eq_div_mul, Nat.add_mul, Nat.pow_succ, Nat.mul_comm 2]
    omega
/-- How often a bucket's width is doubled. -/
def kf (q i : Nat) : Nat := i / 2 ^ q - 1
def lo (q i : Nat) : Nat := (i - kf q i * 2 ^ q) * 2 ^ kf q i
def hiU (q i : Nat) : Nat := lo q i + 2 ^ kf q i - 1
def hi (q i : Nat) : Nat := min (hiU q i) 1099511627776
theorem kf_of {q k r : Nat} (h1 : 2 ^ q ≤ r) (h2 : r < 2 ^ q * 2) : kf q (k * 2 ^ q + r) = k := by
  have hp := Nat.two_pow_pos q
  unfold kf
  have : (k * 2 ^ q + r) / 2 ^ q = k + 1 := by
    rw [Nat.div_eq_iff hp]
    rw [Nat.add_mul]
    omega
  omega
theorem lo_of {q k r : Nat} (h1 : 2 ^ q ≤ r) (h2 : r < 2 ^ q * 2) : lo q (k * 2 ^ q + r) = r * 2 ^ k := by
  unfold lo; rw [kf_of h1 h2, Nat.add_sub_cancel_left]
theorem lo_small {q i : Nat} (h : i < 2 ^ q) : lo q i = i ∧ kf q i = 0 := by
  have : kf q i = 0 := by unfold kf; rw [Nat.div_eq_of_lt h]
  exact ⟨by unfold lo; rw [this]; simp, this⟩
/-- Every index is one of the two. -/
theorem ix_form (q i : Nat) : i < 2 ^ q ∨ ∃ k r, i = k * 2 ^ q + r ∧ 2 ^ q ≤ r ∧ r < 2 ^ q * 2 := by
  have hp := Nat.two_pow_pos q
  rcases Nat.lt_or_ge i (2 ^ q) with h | h
  · exact .inl h
  · refine .inr ⟨i / 2 ^ q - 1, 2 ^ q + i % 2 ^ q, ?_, by omega, by have := Nat.mod_lt i hp; omega⟩
    have h1 : 1 ≤ i / 2 ^ q := (Nat.le_div_iff_mul_le hp).2 (by omega)
    have h2 := Nat.div_add_mod i (2 ^ q)
    have h3 : (i / 2 ^ q - 1) * 2 ^ q + 2 ^ q = 2 ^ q * (i / 2 ^ q) := by
      rw [Nat.sub_mul, Nat.one_mul, Nat.mul_comm (2 ^ q)]
      have : 1 * 2 ^ q ≤ i / 2 ^ q * 2 ^ q := Nat.mul_le_mul_right _ h1
      omega
    omega
theorem hiU_succ (q i : Nat) : hiU q i + 1 = lo q (i + 1) := by
  have hp := Nat.two_pow_pos q
  rcases ix_form q i with h | ⟨k, r, rfl, h1, h2⟩
  · obtain ⟨h3, h4⟩ := lo_small h
    have : lo q (i + 1) = i + 1 := by
      rcases Nat.lt_or_ge (i + 1) (2 ^ q) with h5 | h5
      · exact (lo_small h5).1
      · have h6 : i + 1 = 0 * 2 ^ q + 2 ^ q := by omega
        rw [h6, lo_of (Nat.le_refl _) (by omega)]; simp
    unfold hiU
    rw [h3, h4, this]; simp
  · have hk := Nat.two_pow_pos k
    have e : hiU q (k * 2 ^ q + r) + 1 = (r + 1) * 2 ^ k := by
      unfold hiU; rw [lo_of h1 h2, kf_of h1 h2, Nat.add_mul]; omega
    rw [e]
    rcases Nat.lt_or_ge (r + 1) (2 ^ q * 2) with h5 | h5
    · rw [Nat.add_assoc, lo_of (by omega) h5]
    · have h6 : k * 2 ^ q + r + 1 = (k + 1) * 2 ^ q + 2 ^ q := by rw [Nat.add_mul]; omega
      have h7 : r + 1 = 2 ^ q * 2 := by omega
      rw [h6, lo_of (Nat.le_refl _) (by omega), h7, Nat.pow_succ, Nat.mul_assoc, Nat.mul_comm 2]
theorem lo_hiU (q i : Nat) : lo q i ≤ hiU q i := by
  have := Nat.two_pow_pos (kf q i)
  unfold hiU; omega
theorem lo_mono {q i j : Nat} (h : i ≤ j) : lo q i ≤ lo q j := by
  induction h with
  | refl => exact Nat.le_refl _
  | step _ ih => have := hiU_succ q; rename_i m _; have h1 := this m; have h2 := lo_hiU q m; simp only [Nat.succ_eq_add_one]; omega
/-- A value lies in its bucket. -/
theorem lo_ix (q v : Nat) : lo q (ix q v) ≤ v ∧ v ≤ hiU q (ix q v) := by
  have hp := Nat.two_pow_pos q
  rcases Nat.lt_or_ge v (2 ^ q) with h | h
  · rw [ix_lt (by rw [Nat.pow_succ]; omega)]
    obtain ⟨h3, h4⟩ := lo_small h
    unfold hiU
    rw [h3, h4]; simp
  · obtain ⟨m, _, h1, h2⟩ := blen_pos (v := v) (by omega)
    have hqm : q ≤ m := by
      rcases Nat.lt_or_ge m q with h3 | h3
      · exfalso
        have : 2 ^ (m + 1) ≤ 2 ^ q := Nat.pow_le_pow_right (by decide) h3
        omega
      · exact h3
    obtain ⟨k, rfl⟩ := Nat.exists_eq_add_of_le hqm
    have hk := Nat.two_pow_pos k
    rw [ix_closed q k v h1 h2]
    have a1 : 2 ^ q ≤ v / 2 ^ k := (Nat.le_div_iff_mul_le hk).2 (by rw [← Nat.pow_add]; exact h1)
    have a2 : v / 2 ^ k < 2 ^ q * 2 := by
      rw [Nat.div_lt_iff_lt_mul hk, ← Nat.pow_succ, ← Nat.pow_add]
      have e : q.succ + k = q + k + 1 := by omega
      rw [e]; exact h2
    unfold hiU
    rw [lo_of a1 a2, kf_of a1 a2]
    have := Nat.div_add_mod v (2 ^ k)
    have h5 := Nat.mod_lt v hk
    rw [Nat.mul_comm (v / 2 ^ k)]
    omega
/-- The last index. -/
theorem ix_last : ∀ q, q ≤ 8 → ix q 1099511627776 = (41 - q) * 2 ^ q := by
  intro q hq
  have e1 : q + (40 - q) = 40 := by omega
  have h := ix_closed q (40 - q) 1099511627776 (by rw [e1]; decide) (by rw [e1]; decide)
  rw [h]
  have : q = 0 ∨ q = 1 ∨ q = 2 ∨ q = 3 ∨ q = 4 ∨ q = 5 ∨ q = 6 ∨ q = 7 ∨ q = 8 := by omega
  rcases this with rfl | rfl | rfl | rfl | rfl | rfl | rfl | rfl | rfl <;> decide
theorem lo_last {q i : Nat} (hq : q ≤ 8) (h : i ≤ (41 - q) * 2 ^ q) : lo q i ≤ 1099511627776 := by
  refine Nat.le_trans (lo_mono h) ?_
  rw [← ix_last q hq]
  exact (lo_ix q 1099511627776).1
end Go.Proofs.YtedcnhbblgmdnaaGreat.Ab
namespace Go.Proofs.YtedcnhbblgmdnaaGreat.Ab
set_option maxHeartbeats 4000000
set_option maxRecDepth 10000
set_option linter.unusedSimpArgs false
set_option linter.unusedVariables false
abbrev ltab : List UInt8 := (([0, 1, 2, 2, 3, 3, 3, 3, 4, 4, 4, 4, 4, 4, 4, 4, 5, 5, 5, 5, 5, 5, 5, 5, 5, 5, 5, 5, 5, 5, 5, 5, 6, 6, 6, 6, 6, 6, 6, 6, 6, 6, 6, 6, 6, 6, 6, 6, 6, 6, 6, 6, 6, 6, 6, 6, 6, 6, 6, 6, 6, 6, 6, 6].append [7, 7, 7, 7, 7, 7, 7, 7, 7, 7, 7, 7, 7, 7, 7, 7, 7, 7, 7, 7, 7, 7, 7, 7, 7, 7, 7, 7, 7, 7, 7, 7, 7, 7, 7, 7, 7, 7, 7, 7, 7, 7, 7, 7, 7, 7, 7, 7, 7, 7, 7, 7, 7, 7, 7, 7, 7, 7, 7, 7, 7, 7, 7, 7]).append ([8, 8, 8, 8, 8, 8, 8, 8, 8, 8, 8, 8, 8, 8, 8, 8, 8, 8, 8, 8, 8, 8, 8, 8, 8, 8, 8, 8, 8, 8, 8, 8, 8, 8, 8, 8, 8, 8, 8, 8, 8, 8, 8, 8, 8, 8, 8, 8, 8, 8, 8, 8, 8, 8, 8, 8, 8, 8, 8, 8, 8, 8, 8, 8].append [8, 8, 8, 8, 8, 8, 8, 8, 8, 8, 8, 8, 8, 8, 8, 8, 8, 8, 8, 8, 8, 8, 8, 8, 8, 8, 8, 8, 8, 8, 8, 8, 8, 8, 8, 8, 8, 8, 8, 8, 8, 8, 8, 8, 8, 8, 8, 8, 8, 8, 8, 8, 8, 8, 8, 8, 8, 8, 8, 8, 8, 8, 8, 8]))
end Go.Proofs.YtedcnhbblgmdnaaGreat.Ab
namespace Go.Proofs.YtedcnhbblgmdnaaGreat.Ab
set_option maxHeartbeats 4000000
set_option maxRecDepth 10000
set_option linter.unusedSimpArgs false
set_option linter.unusedVariables false
end Go.Proofs.YtedcnhbblgmdnaaGreat.Ab
