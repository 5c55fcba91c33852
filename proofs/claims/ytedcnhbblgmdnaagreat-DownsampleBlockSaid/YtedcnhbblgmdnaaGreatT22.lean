/- A part of the proof. -/
import Derived.Test.YtedcnhbblgmdnaaGreatT19
import Derived.Test.YtedcnhbblgmdnaaGreatT21
import Derived.Test.YtedcnhbblgmdnaaGreatT10
namespace Go.Proofs.YtedcnhbblgmdnaaGreat.Ab
set_option maxHeartbeats 8000000
set_option maxRecDepth 10000
set_option linter.unusedSimpArgs false
set_option linter.unusedVariables false
def rlpZ (l : List Bkt) : Zo := match l with
 | [] => Zo.none
 | b :: r => ⟨(b :: r).length, b.ft, ((b :: r).getLast (by simp)).lt, (b :: r).foldl (fun m y => minI m y.mn) b.mn, (b :: r).foldl (fun m y => maxI m y.mx) b.mx⟩
def encR (x : Rlp) : D := if rlpOK x = false then .tup [noCh, .c (.p (pI 1))] else match packE x.bs bktCols with
 | none => .tup [noCh, .c (.p (pI 4))]
 | some ss => finE 6 (.lst x.lb.length (x.lb.flatMap lbP)) (rlpZ x.bs).pd (jn (appV (appV [] x.k).1 x.w).1 ss)
theorem thenD_ret0 {K : Fr → Prop} {Q : Ex → Fr → Prop} {y : Fr} (h : Q .ret y) : thenD K Q .ret y := h
theorem o98 : E0.opn 98 = true := by kernel_rfl
theorem x98 : E0.xt 98 = none := by kernel_rfl
theorem o99 : E0.opn 99 = false := by kernel_rfl
theorem x99 : E0.xt 99 = none := by kernel_rfl
theorem rlpOK_some {x : Rlp} (h : rlpOK x = true) : (x.k = 1 ∨ x.k = 2) ∧ (1 ≤ x.w ∧ x.w ≤ 1099511627776) ∧ x.bs ≠ [] ∧ x.bs.length ≤ 2000 := by
 unfold rlpOK at h
 simp only [Bool.and_eq_true, Bool.not_eq_true', Bool.or_eq_false_iff, decide_eq_false_iff_not, bne_eq_false_iff_eq, Bool.and_eq_false_iff, beq_eq_false_iff_ne] at h
 obtain ⟨⟨_, h1⟩, ⟨⟨⟨h2, h3⟩, h4⟩, h5⟩, _⟩ := h
 refine ⟨by rcases h1 with h | h; exact .inl (by simpa using h); exact .inr (by simpa using h), by omega, fun e => by rw [e] at h4; simp at h4, by omega⟩
theorem Own.purS {s : St} {es n : Nat} {c : C} {cs : List Pd} (h : Own s es (.v (.c c)) n cs) : Go.Proofs.YtedcnhbblgmdnaaGreat.Ab.purS c = some (.lst n cs) := by
 obtain ⟨hl, ⟨h1, h2⟩ | ⟨id, h1, _⟩⟩ := h
 ·simp only [D.v.injEq, V.c.injEq] at h1
  subst h1 h2
  have : cs = [] := List.length_eq_zero_iff.1 (by simpa using hl)
  subst this; rfl
 ·simp only [D.v.injEq, V.c.injEq] at h1
  subst h1; rfl
theorem purC_S {s : St} {c : C} {x : Pd} (h : purS c = some x) : purC s c = some (x, s) := by
 cases c <;> first | (simp only [purS] at h; cases h; rfl) | cases h
theorem purC_p (s : St) (x : Pd) : purC s (.p x) = some (x, s) := rfl
theorem purVs_5 {c : C} {y : Pd} (h : purS c = some y) (s : St) {p0 p1 p2 : Pd} {z0 z1 z2 z3 z4 z5 z6 z7 z8 z9 z10 z11 z12 : Pd} : purVs s [.c (.p p0), .c (.p p1), .agg [.p z0, .p z1, .p z2, .p z3, .p z4, .p z5, .p z6, .p z7, .p z8, .p z9, .p z10, .p z11, .p z12], .c (.p p2), .c c] =
  some ([.c (.p p0), .c (.p p1), .agg [.p z0, .p z1, .p z2, .p z3, .p z4, .p z5, .p z6, .p z7, .p z8, .p z9, .p z10, .p z11, .p z12], .c (.p p2), .c (.p y)], s) := by
 simp only [purVs, purV, purCs, purC_p, purC_S h, List.map_cons, List.map_nil]
theorem purNo (s : St) : purD s (packD [noCh, .c (.p (pI 4))]) = some (.tup [noCh, .c (.p (pI 4))], s) := rfl
theorem purCh (s : St) (n : Nat) (cs : List Pd) (z : Zo) (d : List UInt8) : purD s (packD [chV 6 (.lst n cs) z.pd d, .c (.p (pI 0))]) = some (.tup [chV 6 (.lst n cs) z.pd d, .c (.p (pI 0))], s) := rfl
theorem pf51 (x : Rlp) (hlb : x.lb.length < 2^40) (hls : ∀ y ∈ x.lb, y.1.length < 2^50 ∧ y.2.length < 2^50) : Pf E0 51 [.agg (x.pd.map .p)] (encR x) := by
 have hfl : (x.bs.flatMap Bkt.pd).length = x.bs.length * 10 := flat_len (k := 10) (fun _ => rfl) _
 have p46 := pf97 x hlb hls
 unfold encR
 refine Pf.body (fn := Tryz.f51) (by kernel_rfl) rfl ?_; simp only [List.map_cons, List.map_nil, List.cons_append, List.nil_append, List.length_cons, List.length_nil, Tryz.ntmps51, List.replicate, Nat.reduceSub, Nat.reduceAdd]
 refine gS fun K F => ?_; simp only [go_sem]; apply F; clear F K
 cases hok : rlpOK x with
 | false =>
  rw [hok] at p46
  rw [if_pos rfl]
  refine Wc.seq (Wc.seq ?_)
  refine gR fun K F => ?_; simp only [go_sem]
  refine wpCall.pf p46 (by kernel_rfl) (by kernel_rfl) rfl rfl ?_
  simp only [go_sem]; apply F; clear F K
  refine gT (by simp only [go_sem]) ?_
  refine gS fun K F => ?_; simp only [go_sem]; apply F; clear F K
  exact Wc.ret (Pf.ret [.cell 2 96, .tmp 3] [.agg ([.p (pI 0), .nils] ++ zz0.map .p ++ [.p (.str [])]), .c (.p (pI 1))] rfl rfl (by simp only [resultsD, go_sem]) rfl)
 | true =>
  rw [hok] at p46
  obtain ⟨hk, hw, hne, hbl⟩ := rlpOK_some hok
  rw [if_neg (by decide)]
  generalize hP : packE x.bs bktCols = P
  refine Wc.seqR (fun y => y.ds = [] ∧ Fs y.e 90 [(1, .v (.c (.ref 0 0))), (2, .v (.c (.ref 1 0)))] ∧ OA y.s.nx y.s [] [(1, .cells ([.p (pI 0), .nils] ++ zz0.map .p ++ [.p (.str [])]) false), (0, .cells (x.pd.map .p) false)]) ?_ ?_
  ·refine gS fun K F => ?_; simp only [go_sem]
   refine wpCall.pf p46 (by kernel_rfl) (by kernel_rfl) rfl rfl ?_
   simp only [go_sem]; apply F; clear F K
   refine gF (by simp only [go_sem]) ?_
   exact ⟨rfl, by simp only [Fs, nZ, go_sem], by (try simp only [St.nx_put, St.nx_adv]); repeat (first | exact OA.mono s00_oa (by omega) | refine OA.newB ?_ (by omega) rfl | refine OA.advB ?_)⟩
  rintro ⟨e, ds, s1⟩ ⟨rfl, hF, ho⟩
  simp only [Fs] at hF ho
  have g0 := ho.at_ (0, .cells (x.pd.map .p) false) (by simp)
  have g1 := ho.at_ (1, .cells ([.p (pI 0), .nils] ++ zz0.map .p ++ [.p (.str [])]) false) (by simp)
  simp only [List.map_cons, List.map_nil, List.cons_append, List.nil_append] at g0 g1
  refine Wc.seq ?_
  refine Wc.regT fun K F => ?_; simp only [go_sem, hF, g0, o98, x98, o99, x99, List.all_nil, Option.isNone_none]
  refine wpCall.pf pf99 x99 o99 rfl rfl ?_
  simp only [go_sem, hF, g0, o98, x98, o99, x99, List.all_nil, Option.isNone_none]
  refine call98 (x := .v (.c (.p (.lst x.bs.length (x.bs.flatMap Bkt.pd))))) (l := x.bs) (cols := bktCols) (ho.adv.mono (by simp only [St.nx_adv]; omega)) (by omega) ⟨_, rfl⟩ (by simp only [go_sem]) (fun j hj => ixA ti29 rfl ti41 hj hfl (by decide)) bktCols_ok (by decide) (fun hN s' ho' hnx => ?_) (fun ss hS x' s' ho' hnx => ?_)
  ·rw [hP] at hN
   subst hN
   simp only [go_sem, hF, g0, o98, x98, o99, x99, List.all_nil, Option.isNone_none]
   refine ⟨by rfl, F _ _ ?_⟩
   have g1' := ho'.at_ (1, .cells ([.p (pI 0), .nils] ++ zz0.map .p ++ [.p (.str [])]) false) (by simp)
   simp only [List.map_cons, List.map_nil, List.cons_append, List.nil_append] at g1'
   refine Wc.seq (Wc.seq ?_)
   refine gR fun K F => ?_; simp only [go_sem, hF]; apply F; clear F K
   refine gT (by simp only [go_sem, hF]) ?_
   refine gS fun K F => ?_; simp only [go_sem, hF, g1']; apply F; clear F K
   refine Wc.ret (thenD_ret0 ?_)
   exact Pf.ret [.cell 2 96, .tmp 3] [.agg ([.p (pI 0), .nils] ++ zz0.map .p ++ [.p (.str [])]), .c (.p (pI 4))] rfl rfl (by simp only [resultsD, go_sem, hF, g1']) rfl
  ·rw [hP] at hS
   subst hS
   simp only [go_sem, hF, g0, o98, x98, o99, x99, List.all_nil, Option.isNone_none]
   refine ⟨by rfl, F _ _ ?_⟩
   clear F K
   obtain ⟨b0, r0, hbs⟩ : ∃ b0 r0, x.bs = b0 :: r0 := by
    cases hx : x.bs with
    | nil => exact absurd hx hne
    | cons a r => exact ⟨a, r, rfl⟩
   have hlen0 : 0 < x.bs.length := by rw [hbs]; simp
   refine Wc.seq (Wc.seq ?_)
   refine gR fun K F => ?_; simp only [go_sem, hF]; apply F; clear F K
   refine gF (by simp only [go_sem, hF]) ?_
   have g0' := ho'.at_ (0, .cells (x.pd.map .p) false) (by simp)
   simp only [List.map_cons, List.map_nil] at g0'
   have hix0 : indexAddrD E0 29 (.v (.c (.p (.lst x.bs.length (x.bs.flatMap Bkt.pd))))) (.v (.c (.p (.int .i64 0)))) = some (.v (.c (.rp (x.bs.flatMap Bkt.pd) 0))) := ixA ti29 rfl ti41 (j := 0) hlen0 hfl (by decide)
   have hca0 := rpA (off := 0) (cs := x.bs.flatMap Bkt.pd) (pre := b0.pd) (rest := r0.flatMap Bkt.pd) (by rw [hbs]; rfl) (by omega)
   refine Wc.seqA (fun y => ∃ k6, y.ds = [] ∧ Fs y.e 90 [(1, .v (.c (.ref 0 0))), (2, .v (.c (.ref 1 0))), (4, .v (.c x')), (6, .v (.c (.ref k6 0)))] ∧ OA y.s.nx y.s [(1, .v (.c x'), ss.length, ss.map .str)] [(k6, .cells (b0.pd.map .p) false), (1, .cells ([.p (pI 0), .nils] ++ zz0.map .p ++ [.p (.str [])]) false), (0, .cells (x.pd.map .p) false)]) ?_ ?_
   ·refine gR fun K F => ?_; simp only [go_sem, hF, g0', hix0, hca0]; apply F; clear F K
    exact ⟨rfl, s'.nx + 6, rfl, by simp only [Fs, nZ, go_sem, hF], by (try simp only [St.nx_put, St.nx_adv]); repeat (first | exact OA.mono ho' (by omega) | refine OA.newB ?_ (by omega) rfl | refine OA.advB ?_)⟩
   clear hF ho ho' g0 g0' g1 hnx e s1 s'
   rintro ⟨e, ds, s1⟩ ⟨k6, rfl, hF, ho⟩
   simp only [Fs] at hF ho
   have g0 := ho.at_ (0, .cells (x.pd.map .p) false) (by simp)
   have g6 := ho.at_ (k6, .cells (b0.pd.map .p) false) (by simp)
   simp only [List.map_cons, List.map_nil] at g0 g6
   obtain ⟨bl, hbl1⟩ : ∃ bl, x.bs[x.bs.length - 1]? = some bl := ⟨x.bs[x.bs.length - 1], List.getElem?_eq_getElem (by omega)⟩
   have hixl := ixA ti29 rfl ti41 (j := x.bs.length - 1) (m := x.bs.length) (cs := x.bs.flatMap Bkt.pd) (by omega) hfl (by decide)
   have hcl : ∀ s, cellsAt s (.v (.c (.rp (x.bs.flatMap Bkt.pd) ((x.bs.length - 1) * 10 + 8)))) = some (([pI bl.lt, pI bl.inc] ++ (x.bs.drop (x.bs.length - 1 + 1)).flatMap Bkt.pd).map .p) := fun s => by
    refine rpA ?_ (by rw [hfl]; omega) s
    rw [← List.drop_drop, drop_flat (f := Bkt.pd) (k := 10) (fun _ => rfl) hbl1]
    rfl
   have w1 : IntKind.i64.wrap ((x.bs.length : Int) - 1) = ((x.bs.length - 1 : Nat) : Int) := by rw [wi64]; omega
   refine Wc.seqA (fun y => ∃ k7, y.ds = [] ∧ Fs y.e 90 [(1, .v (.c (.ref 0 0))), (2, .v (.c (.ref 1 0))), (4, .v (.c x')), (7, .v (.c (.ref k7 0)))] ∧ OA y.s.nx y.s [(1, .v (.c x'), ss.length, ss.map .str)] [(k7, .cells [.p (pI x.bs.length), .p (pI b0.ft), .p (pI bl.lt), .p (pI b0.mn), .p (pI b0.mx), .p (.int .u32 0), .p (.int .u32 0), .p (.int .u32 0), .p (.int .u32 0), .p (.int .u32 0), .p (.int .u32 0), .p (.int .u32 0), .p (.int .u32 0)] false), (1, .cells ([.p (pI 0), .nils] ++ zz0.map .p ++ [.p (.str [])]) false), (0, .cells (x.pd.map .p) false)]) ?_ ?_
   ·refine Wc.regT fun K F => ?_; simp only [go_sem, hF, g0, g6, hixl, hcl, w1]; refine ⟨by rw [trOK_eq]; rfl, F _ _ ?_⟩; clear F K
    have hs := ho.sub (L1 := [(1, .v (.c x'), ss.length, ss.map .str)]) (M1 := [(1, .cells ([.p (pI 0), .nils] ++ zz0.map .p ++ [.p (.str [])]) false), (0, .cells (x.pd.map .p) false)]) (List.Sublist.refl _) (List.sublist_cons_self _ _)
    exact ⟨rfl, s1.nx + 19, rfl, by simp only [Fs, nZ, go_sem, hF], by (try simp only [St.nx_put, St.nx_adv]); repeat (first | exact OA.mono hs (by omega) | refine OA.newB ?_ (by omega) rfl | refine OA.advB ?_)⟩
   clear hF ho g0 g6 e s1
   rintro ⟨e, ds, s1⟩ ⟨k7, rfl, hF, ho⟩
   simp only [Fs] at hF ho
   have g0 := ho.at_ (0, .cells (x.pd.map .p) false) (by simp)
   simp only [List.map_cons, List.map_nil] at g0
   refine Wc.seqA (fun y => y.ds = [] ∧ Fs y.e 90 [(1, .v (.c (.ref 0 0))), (2, .v (.c (.ref 1 0))), (4, .v (.c x')), (7, .v (.c (.ref k7 0)))] ∧ OA y.s.nx y.s [(1, .v (.c x'), ss.length, ss.map .str)] [(k7, .cells [.p (pI x.bs.length), .p (pI b0.ft), .p (pI bl.lt), .p (pI (x.bs.foldl (fun m y => minI m y.mn) b0.mn)), .p (pI (x.bs.foldl (fun m y => maxI m y.mx) b0.mx)), .p (.int .u32 0), .p (.int .u32 0), .p (.int .u32 0), .p (.int .u32 0), .p (.int .u32 0), .p (.int .u32 0), .p (.int .u32 0), .p (.int .u32 0)] false), (1, .cells ([.p (pI 0), .nils] ++ zz0.map .p ++ [.p (.str [])]) false), (0, .cells (x.pd.map .p) false)]) ?_ ?_
   ·refine gS fun K F => ?_; simp only [go_sem, hF, g0, nZ]; apply F; clear F K
    refine Wc.block (Wc.loop (fun c y => ∃ i : Nat, c = x.bs.length - i ∧ i ≤ x.bs.length ∧ y.ds = [] ∧ Fs y.e 90 [(1, .v (.c (.ref 0 0))), (2, .v (.c (.ref 1 0))), (4, .v (.c x')), (7, .v (.c (.ref k7 0))), (50, P' (.lst x.bs.length (x.bs.flatMap Bkt.pd))), (51, P' (pI x.bs.length)), (52, P' (pI i))] ∧ OA y.s.nx y.s [(1, .v (.c x'), ss.length, ss.map .str)] [(k7, .cells [.p (pI x.bs.length), .p (pI b0.ft), .p (pI bl.lt), .p (pI ((x.bs.take i).foldl (fun m y => minI m y.mn) b0.mn)), .p (pI ((x.bs.take i).foldl (fun m y => maxI m y.mx) b0.mx)), .p (.int .u32 0), .p (.int .u32 0), .p (.int .u32 0), .p (.int .u32 0), .p (.int .u32 0), .p (.int .u32 0), .p (.int .u32 0), .p (.int .u32 0)] false), (1, .cells ([.p (pI 0), .nils] ++ zz0.map .p ++ [.p (.str [])]) false), (0, .cells (x.pd.map .p) false)]) ?_ (k := x.bs.length) ?_)
    ·clear hF ho g0 e s1
     rintro c ⟨e, ds, s1⟩ ⟨i, rfl, hi, rfl, hF, ho⟩
     simp only [Fs] at hF ho
     refine gS fun K F => ?_; simp only [go_sem, hF]; apply F; clear F K
     refine Wc.seq (Wc.cond (t := decide ((i : Int) < x.bs.length)) (by simp only [go_sem, hF]) (fun hc => ?_) (fun hc => ?_))
     ·have hil : i < x.bs.length := by have := of_decide_eq_true hc; omega
      obtain ⟨b, hb⟩ : ∃ b, x.bs[i]? = some b := ⟨x.bs[i], List.getElem?_eq_getElem hil⟩
      have hix := ixA ti29 rfl ti41 (j := i) (m := x.bs.length) (cs := x.bs.flatMap Bkt.pd) hil hfl (by decide)
      have hca := rpA (off := i * 10) (drop_flat (f := Bkt.pd) (k := 10) (fun _ => rfl) hb) (by rw [hfl]; omega)
      have e1 : (x.bs.take (i + 1)).foldl (fun m y => minI m y.mn) b0.mn = minI ((x.bs.take i).foldl (fun m y => minI m y.mn) b0.mn) b.mn := by rw [take_snoc hb, List.foldl_append]; rfl
      have e2 : (x.bs.take (i + 1)).foldl (fun m y => maxI m y.mx) b0.mx = maxI ((x.bs.take i).foldl (fun m y => maxI m y.mx) b0.mx) b.mx := by rw [take_snoc hb, List.foldl_append]; rfl
      generalize hm1 : (x.bs.take i).foldl (fun m y => minI m y.mn) b0.mn = m1 at *
      generalize hm2 : (x.bs.take i).foldl (fun m y => maxI m y.mx) b0.mx = m2 at *
      refine Wc.skip (Wc.seq (Wc.block (Wc.seqA (fun y => ∃ k9, y.ds = [] ∧ Fs y.e 90 [(1, .v (.c (.ref 0 0))), (2, .v (.c (.ref 1 0))), (4, .v (.c x')), (7, .v (.c (.ref k7 0))), (50, P' (.lst x.bs.length (x.bs.flatMap Bkt.pd))), (51, P' (pI x.bs.length)), (52, P' (pI i)), (9, .v (.c (.ref k9 0)))] ∧ OA y.s.nx y.s [(1, .v (.c x'), ss.length, ss.map .str)] [(k9, .cells (b.pd.map .p) false), (k7, .cells [.p (pI x.bs.length), .p (pI b0.ft), .p (pI bl.lt), .p (pI m1), .p (pI m2), .p (.int .u32 0), .p (.int .u32 0), .p (.int .u32 0), .p (.int .u32 0), .p (.int .u32 0), .p (.int .u32 0), .p (.int .u32 0), .p (.int .u32 0)] false), (1, .cells ([.p (pI 0), .nils] ++ zz0.map .p ++ [.p (.str [])]) false), (0, .cells (x.pd.map .p) false)]) ?_ ?_)))
      ·refine gR fun K F => ?_; simp only [go_sem, hF, hix, hca]; apply F; clear F K
       exact ⟨rfl, s1.nx + 3, rfl, by simp only [Fs, nZ, go_sem, hF], by (try simp only [St.nx_put, St.nx_adv]); repeat (first | exact OA.mono ho (by omega) | refine OA.newB ?_ (by omega) rfl | refine OA.advB ?_)⟩
      clear hF ho e s1
      rintro ⟨e, ds, s1⟩ ⟨k9, rfl, hF, ho⟩
      simp only [Fs] at hF ho
      have g9 := ho.at_ (k9, .cells (b.pd.map .p) false) (by simp)
      have g7 := ho.at_ (k7, .cells [.p (pI x.bs.length), .p (pI b0.ft), .p (pI bl.lt), .p (pI m1), .p (pI m2), .p (.int .u32 0), .p (.int .u32 0), .p (.int .u32 0), .p (.int .u32 0), .p (.int .u32 0), .p (.int .u32 0), .p (.int .u32 0), .p (.int .u32 0)] false) (by simp)
      simp only [List.map_cons, List.map_nil] at g9 g7
      have hne79 : (k7 = k9) = False := by
       have := ho.dism
       simp only [List.pairwise_cons, List.mem_cons] at this
       have := this.1 (k7, .cells [.p (pI x.bs.length), .p (pI b0.ft), .p (pI bl.lt), .p (pI m1), .p (pI m2), .p (.int .u32 0), .p (.int .u32 0), .p (.int .u32 0), .p (.int .u32 0), .p (.int .u32 0), .p (.int .u32 0), .p (.int .u32 0), .p (.int .u32 0)] false) (.inl rfl)
       simp only [eq_iff_iff, iff_false]
       exact fun e => this e.symm
      refine gS fun K F => ?_; simp only [go_sem, hF, g9, g7, foldO]; apply F; clear F K
      refine gR fun K F => ?_; simp only [go_sem, hF, g9, g7, foldO, hne79]; apply F; clear F K
      refine gR fun K F => ?_; simp only [go_sem, hF, i64n i (by omega)]; apply F; clear F K
      refine ⟨x.bs.length - (i + 1), by omega, i + 1, rfl, by omega, rfl, by simp only [Fs, nZ, go_sem, hF], ?_⟩
      rw [e1, e2]
      have hs := ho.sub (L1 := [(1, .v (.c x'), ss.length, ss.map .str)]) (M1 := [(k7, .cells [.p (pI x.bs.length), .p (pI b0.ft), .p (pI bl.lt), .p (pI m1), .p (pI m2), .p (.int .u32 0), .p (.int .u32 0), .p (.int .u32 0), .p (.int .u32 0), .p (.int .u32 0), .p (.int .u32 0), .p (.int .u32 0), .p (.int .u32 0)] false), (1, .cells ([.p (pI 0), .nils] ++ zz0.map .p ++ [.p (.str [])]) false), (0, .cells (x.pd.map .p) false)]) (List.Sublist.refl _) (List.sublist_cons_self _ _)
      simp only [St.nx_put, St.nx_adv]; (repeat refine OA.advB ?_); refine OA.ofS (M1 := []) (k := k7) ?_; repeat (first | exact ⟨_, OA.mono hs (by omega)⟩ | refine OAs.adv ?_ | refine OAs.put ?_)
     ·have hil : i = x.bs.length := by have := of_decide_eq_false hc; omega
      subst hil
      rw [List.take_length] at ho
      exact Wc.exit ⟨rfl, rfl, by simp only [Fs, nZ, go_sem, hF], by (try simp only [St.nx_put, St.nx_adv]); repeat (first | exact OA.mono ho (by omega) | refine OA.newB ?_ (by omega) rfl | refine OA.advB ?_)⟩
    ·exact ⟨0, rfl, by omega, rfl, by simp only [Fs, nZ, go_sem, hF], by (try simp only [St.nx_put, St.nx_adv]); repeat (first | exact OA.mono ho (by omega) | refine OA.newB ?_ (by omega) rfl | refine OA.advB ?_)⟩
   clear hF ho g0 e s1
   rintro ⟨e, ds, s1⟩ ⟨rfl, hF, ho⟩
   simp only [Fs] at hF ho
   have g0 := ho.at_ (0, .cells (x.pd.map .p) false) (by simp)
   have g1 := ho.at_ (1, .cells ([.p (pI 0), .nils] ++ zz0.map .p ++ [.p (.str [])]) false) (by simp)
   have g7 := ho.at_ (k7, .cells [.p (pI x.bs.length), .p (pI b0.ft), .p (pI bl.lt), .p (pI (x.bs.foldl (fun m y => minI m y.mn) b0.mn)), .p (pI (x.bs.foldl (fun m y => maxI m y.mx) b0.mx)), .p (.int .u32 0), .p (.int .u32 0), .p (.int .u32 0), .p (.int .u32 0), .p (.int .u32 0), .p (.int .u32 0), .p (.int .u32 0), .p (.int .u32 0)] false) (by simp)
   simp only [List.map_cons, List.map_nil, List.cons_append, List.nil_append] at g0 g1 g7
   have hpu := (ho.own _ (List.mem_cons_self ..)).purS
   have hz : rlpZ x.bs = ⟨x.bs.length, b0.ft, bl.lt, x.bs.foldl (fun m y => minI m y.mn) b0.mn, x.bs.foldl (fun m y => maxI m y.mx) b0.mx⟩ := by
    have hl : x.bs.getLast? = some bl := by rw [List.getLast?_eq_getElem?]; exact hbl1
    rw [hbs] at hl ⊢
    rw [List.getLast?_eq_some_getLast (by simp)] at hl
    simp only [Option.some.injEq] at hl
    simp only [rlpZ, hl]
   have hap : (appV (appV [] x.k).1 x.w).1.length ≤ 262144 := by
    have a1 : (appV [] x.k).1.length ≤ 10 := by
     unfold appV
     split
     ·simp
     ·rw [List.nil_append]; exact vb_len10 (by omega)
    unfold appV at a1 ⊢
    split
    ·simp
    ·simp only [List.length_append]
     have := vb_len10 (n := x.w.toNat) (by omega)
     omega
   have hpl : ∀ q ∈ ss, q.length ≤ 35184372088832 := by
    rw [packE_cols] at hP
    refine jn_pre hP fun c hc hc0 => ?_
    obtain ⟨cc, _, rfl⟩ := List.mem_map.1 hc
    have := encF_len hc0
    rw [List.length_map] at this
    omega
   have hsl := packE_len hP
   have p41 := pf101 6 x.lb.length (x.lb.flatMap lbP) (pI x.bs.length) (pI b0.ft) (pI bl.lt) (pI (x.bs.foldl (fun m y => minI m y.mn) b0.mn)) (pI (x.bs.foldl (fun m y => maxI m y.mx) b0.mx)) (.int .u32 0) (.int .u32 0) (.int .u32 0) (.int .u32 0) (.int .u32 0) (.int .u32 0) (.int .u32 0) (.int .u32 0) (appV (appV [] x.k).1 x.w).1 ss hap hpl (by have : bktCols.length = 10 := rfl; omega)
   rw [hz]
   have p49b := pf100 (appV [] x.k).1 x.w (by
    unfold appV
    split
    ·simp
    ·rw [List.nil_append]; have := vb_len10 (n := x.k.toNat) (by omega); simp only; omega)
   generalize appV (appV [] x.k).1 x.w = T2 at *
   refine gS fun K F => ?_; simp only [go_sem, hF, g0]
   refine gP (pf100 [] x.k (by simp)) (by kernel_rfl) (by kernel_rfl) rfl rfl ?_
   simp only [go_sem, hF, g0]; apply F; clear F K
   refine gS fun K F => ?_; simp only [go_sem, hF, g0]
   refine wpCall.pf p49b (by kernel_rfl) (by kernel_rfl) rfl rfl ?_
   simp only [go_sem, hF, g0]; apply F; clear F K
   refine Wc.seq ?_
   cases hj : jn T2.1 ss with
   | none =>
    rw [hj] at p41
    simp only [finE, hj] at p41 ⊢
    refine gR fun K F => ?_; simp only [go_sem, hF, g0, g7]
    refine wpCall.pf p41 (by kernel_rfl) (by kernel_rfl) rfl (purVs_5 hpu _) ?_
    simp only [go_sem, hF, g0, g1, g7]; apply F; clear F K
    exact Wc.ret (Pf.ret [.cell 2 96, .tmp 3] [noCh, .c (.p (pI 4))] rfl rfl (by simp only [resultsD, go_sem, hF]; rfl) (purNo _))
   | some d =>
    rw [hj] at p41
    simp only [finE, hj] at p41 ⊢
    refine gR fun K F => ?_; simp only [go_sem, hF, g0, g7]
    refine wpCall.pf p41 (by kernel_rfl) (by kernel_rfl) rfl (purVs_5 hpu _) ?_
    simp only [go_sem, hF, g0, g1, g7]; apply F; clear F K
    exact Wc.ret (Pf.ret [.cell 2 96, .tmp 3] [chV 6 (.lst x.lb.length (x.lb.flatMap lbP)) (Zo.pd ⟨x.bs.length, b0.ft, bl.lt, x.bs.foldl (fun m y => minI m y.mn) b0.mn, x.bs.foldl (fun m y => maxI m y.mx) b0.mx⟩) d, .c (.p (pI 0))] rfl rfl (by simp only [resultsD, go_sem, hF]; rfl) (purCh _ _ _ _ _))
theorem pf45 (n lo hi : Int) : Pf E0 45 [.c (.p (.int .i64 n)), .c (.p (.int .i64 lo)), .c (.p (.int .i64 hi))] (P' (.bool (btw n lo hi))) := by
 refine Pf.body (fn := Tryz.f45) (by kernel_rfl) rfl ?_; simp only [List.map_cons, List.map_nil, List.cons_append, List.nil_append, List.length_cons, List.length_nil, Tryz.ntmps45, List.replicate, Nat.reduceSub, Nat.reduceAdd]
 refine gS fun K F => ?_; simp only [go_sem]; apply F; clear F K
 refine Wc.seq ?_
 by_cases h : lo ≤ n
 ·refine gR fun K F => ?_; simp only [go_sem, h]; apply F; clear F K
  exact Wc.ret (Pf.ret [.tmp 6] [.c (.p (.bool (btw n lo hi)))] rfl rfl (by simp only [resultsD, go_sem, btw, h, Bool.true_and]) rfl)
 ·refine gR fun K F => ?_; simp only [go_sem, h]; apply F; clear F K
  exact Wc.ret (Pf.ret [.tmp 6] [.c (.p (.bool (btw n lo hi)))] rfl rfl (by simp only [resultsD, go_sem, btw, h, Bool.false_and]) rfl)
def chkR (x : Rlp) : Int := if rlpOK x then 0 else 1
theorem pf23 (x : Rlp) (hlb : x.lb.length < 2^40) (hls : ∀ y ∈ x.lb, y.1.length < 2^50 ∧ y.2.length < 2^50) : Pf E0 23 [.agg (x.pd.map .p)] (P' (pI (chkR x))) := by
 have p := pf54 x hlb hls
 unfold chkR
 refine Pf.body (fn := Tryz.f23) (by kernel_rfl) rfl ?_; simp only [List.map_cons, List.map_nil, List.cons_append, List.nil_append, List.length_cons, List.length_nil, Tryz.ntmps23, List.replicate, Nat.reduceSub, Nat.reduceAdd]
 refine gS fun K F => ?_; simp only [go_sem]; apply F; clear F K
 refine Wc.seq (Wc.seq ?_)
 cases hok : rlpOK x with
 | false =>
  rw [hok] at p
  refine gR fun K F => ?_; simp only [go_sem]
  refine wpCall.pf p (by kernel_rfl) (by kernel_rfl) rfl rfl ?_
  simp only [go_sem]; apply F; clear F K
  refine gT (by simp only [go_sem]) ?_
  refine gS fun K F => ?_; simp only [go_sem]; apply F; clear F K
  exact Wc.ret (Pf.ret [.tmp 2] [.c (.p (pI 1))] rfl rfl (by simp only [resultsD, go_sem]) rfl)
 | true =>
  rw [hok] at p
  refine gR fun K F => ?_; simp only [go_sem]
  refine wpCall.pf p (by kernel_rfl) (by kernel_rfl) rfl rfl ?_
  simp only [go_sem]; apply F; clear F K
  refine gF (by simp only [go_sem]) ?_
  refine gS fun K F => ?_; simp only [go_sem]; apply F; clear F K
  exact Wc.ret (Pf.ret [.tmp 2] [.c (.p (pI 0))] rfl rfl (by simp only [resultsD, go_sem]) rfl)
theorem encR_form (x : Rlp) : ∃ (c : List C) (e : Int), encR x = .tup [.agg c, .c (.p (pI e))] ∧ c.length = 16 ∧ ((e == 1) = !rlpOK x) := by
 unfold encR
 cases hok : rlpOK x with
 | false => exact ⟨_, 1, by rw [if_pos rfl], rfl, rfl⟩
 | true =>
  rw [if_neg (by simp)]
  cases packE x.bs bktCols with
  | none => exact ⟨_, 4, rfl, rfl, rfl⟩
  | some ss =>
   simp only [finE]
   cases jn (appV (appV [] x.k).1 x.w).1 ss with
   | none => exact ⟨_, 4, rfl, rfl, rfl⟩
   | some d => exact ⟨_, 0, rfl, rfl, rfl⟩
theorem pf19 (x : Rlp) (hlb : x.lb.length < 2^40) (hls : ∀ y ∈ x.lb, y.1.length < 2^50 ∧ y.2.length < 2^50) : Pf E0 19 [.agg (x.pd.map .p)] (P' (pI (chkR x))) := by
 have p := pf51 x hlb hls
 obtain ⟨c, e, he, hl, h1⟩ := encR_form x
 rw [he] at p
 obtain ⟨c0, c1, c2, c3, c4, c5, c6, c7, c8, c9, c10, c11, c12, c13, c14, c15, rfl⟩ : ∃ c0 c1 c2 c3 c4 c5 c6 c7 c8 c9 c10 c11 c12 c13 c14 c15, c = [c0, c1, c2, c3, c4, c5, c6, c7, c8, c9, c10, c11, c12, c13, c14, c15] := by
  match c, hl with
  | [c0, c1, c2, c3, c4, c5, c6, c7, c8, c9, c10, c11, c12, c13, c14, c15], _ => exact ⟨_, _, _, _, _, _, _, _, _, _, _, _, _, _, _, _, rfl⟩
 unfold chkR
 refine Pf.body (fn := Tryz.f19) (by kernel_rfl) rfl ?_; simp only [List.map_cons, List.map_nil, List.cons_append, List.nil_append, List.length_cons, List.length_nil, Tryz.ntmps19, List.replicate, Nat.reduceSub, Nat.reduceAdd]
 refine gS fun K F => ?_; simp only [go_sem]; apply F; clear F K
 refine Wc.seq (Wc.seq ?_)
 refine gR fun K F => ?_; simp only [go_sem]
 refine wpCall.pf p (by kernel_rfl) (by kernel_rfl) rfl rfl ?_
 simp only [go_sem]; apply F; clear F K
 refine gS fun K F => ?_; simp only [go_sem]; apply F; clear F K
 refine Wc.cond (t := (e == 1)) (by simp only [go_sem]) (fun hc => ?_) (fun hc => ?_)
 ·have hok : rlpOK x = false := by rw [hc] at h1; simpa using h1
  refine gS fun K F => ?_; simp only [go_sem]; apply F; clear F K
  rw [hok]
  exact Wc.ret (Pf.ret [.tmp 2] [.c (.p (pI 1))] rfl rfl (by simp only [resultsD, go_sem]) rfl)
 ·have hok : rlpOK x = true := by rw [hc] at h1; simpa using h1
  refine Wc.skip (Wc.seq ?_)
  refine gR fun K F => ?_; simp only [go_sem]; apply F; clear F K
  rw [hok]
  exact Wc.ret (Pf.ret [.tmp 2] [.c (.p (pI 0))] rfl rfl (by simp only [resultsD, go_sem]) rfl)
set_option maxHeartbeats 8000000
set_option maxRecDepth 10000
set_option linter.unusedSimpArgs false
set_option linter.unusedVariables false
theorem minB2 (a b : Int) : foldO minD (.v (.c (.p (.int .i64 a)))) [.v (.c (.p (.int .i64 b)))] = some (.v (.c (.p (.int .i64 (minI a b))))) := by
 simp only [foldO, minD, P', Option.some.injEq, D.v.injEq, V.c.injEq, C.p.injEq, Pd.int.injEq, true_and, decide_eq_true_eq, if_true, minI]
theorem maxB2 (a b : Int) : foldO maxD (.v (.c (.p (.int .i64 a)))) [.v (.c (.p (.int .i64 b)))] = some (.v (.c (.p (.int .i64 (maxI a b))))) := by
 simp only [foldO, maxD, P', Option.some.injEq, D.v.injEq, V.c.injEq, C.p.injEq, Pd.int.injEq, true_and, decide_eq_true_eq, if_true, maxI]
end Go.Proofs.YtedcnhbblgmdnaaGreat.Ab
namespace Go.Proofs.YtedcnhbblgmdnaaGreat.Ab
set_option maxHeartbeats 8000000
set_option maxRecDepth 10000
set_option linter.unusedSimpArgs false
set_option linter.unusedVariables false
/-! ### slices that are objects of the state -/
theorem allM_p : ∀ (l : List Pd), allM purS (l.map .p) = some l
 | [] => rfl
 | x :: r => by simp only [List.map_cons, allM, purS, allM_p r]
def cB (l : List Bkt) : List C := (l.flatMap Bkt.pd).map .p
theorem cB_app (l m : List Bkt) : cB (l ++ m) = cB l ++ cB m := by simp [cB]
def GB (x : C) (l : List Bkt) (G : List (Nat × Ob)) : Prop := (x = .nils ∧ l = [] ∧ G = []) ∨ ∃ id, x = .gs l.length id 0 l.length 10 ∧ G = [(id, .grow 10 l.length (cB l) false)]
structure JB (a b : Bkt) : Prop where
 l1 : -1099511627776 ≤ a.l
 l2 : a.l ≤ 1099511627776
 f1 : -1099511627776 ≤ b.f
 f2 : b.f ≤ 1099511627776
 i1 : -4611686018427387904 ≤ a.inc + b.inc
 i2 : a.inc + b.inc ≤ 4611686018427387904
 c1 : -4611686018427387904 ≤ a.c + b.c
 c2 : a.c + b.c ≤ 4611686018427387904
 s1 : -9223372036854775808 ≤ a.s + b.s
 s2 : a.s + b.s ≤ 9223372036854775807
theorem OA.putB {s : St} {c k : Nat} {o : Ob} {L : List (Nat × D × Nat × List Pd)} {M : List (Nat × Ob)} (h : OA k s L M) (hc : k < c) : OA c (s.put k o) L M := (h.put (Nat.le_refl _)).mono hc
theorem OAs.putB {c key k : Nat} {s : St} {o : Ob} {L : List (Nat × D × Nat × List Pd)} {M1 M2 : List (Nat × Ob)} (h : OAs key s L M1 k M2) (hc : key < c) : OAs c (s.put key o) L M1 k M2 := by
 obtain ⟨o', h⟩ := h; exact ⟨o', OA.putB h hc⟩
def zR : Rlp := ⟨[], 0, 0, []⟩
abbrev resR (x : Rlp) (e : Int) : D := .tup [.agg (x.pd.map .p), .c (.p (pI e))]
set_option maxHeartbeats 8000000
set_option maxRecDepth 10000
set_option linter.unusedSimpArgs false
set_option linter.unusedVariables false
structure WB (b : Bkt) : Prop where
 c1 : 0 ≤ b.c
 c2 : b.c ≤ 1000000
 f1 : -1099511627776 ≤ b.f
 f2 : b.f ≤ 1099511627776
 l1 : -1099511627776 ≤ b.l
 l2 : b.l ≤ 1099511627776
 i1 : -1152921504606846976 ≤ b.inc
 i2 : b.inc ≤ 1152921504606846976
 s1 : -1152921504606846976 ≤ b.s
 s2 : b.s ≤ 1152921504606846976
theorem JB.of {a b : Bkt} (ha : WB a) (hb : WB b) : JB a b := by
 obtain ⟨a1, a2, a3, a4, a5, a6, a7, a8, a9, a10⟩ := ha
 obtain ⟨b1, b2, b3, b4, b5, b6, b7, b8, b9, b10⟩ := hb
 constructor <;> omega
theorem WB.single {k w : Int} {x : I2} (h : okS k x) : WB (single w x) := by
 obtain ⟨h1, h2, h3⟩ := h
 constructor <;> simp only [Ab.single] <;> omega
theorem cB_all (l : List Bkt) : allM purS (cB l) = some (l.flatMap Bkt.pd) := allM_p _
theorem GB.pur {b : Nat} {s : St} {L : List (Nat × D × Nat × List Pd)} {M G : List (Nat × Ob)} {x : C} {l : List Bkt} (ho : OA b s L (G ++ M)) (h : GB x l G) : ∃ s', purC s x = some (.lst l.length (l.flatMap Bkt.pd), s') := by
 rcases h with ⟨rfl, rfl, rfl⟩ | ⟨id, rfl, rfl⟩
 ·exact ⟨s, rfl⟩
 ·have g : s.get id = some (.grow 10 l.length (cB l) false) := ho.at_ (id, .grow 10 l.length (cB l) false) (by simp)
  have hf : (l.flatMap Bkt.pd).length = l.length * 10 := flat_len (k := 10) (fun _ => rfl) l
  refine ⟨s.put id (.grow 10 l.length ((l.flatMap Bkt.pd).map .p) true), ?_⟩
  simp only [purC, g, cB_all, true_and, Nat.zero_add, hf, Nat.le_refl, if_true, List.drop_zero]
  rw [List.take_of_length_le (by omega)]
/-! ### the buckets of a series, in the program's way -/
set_option maxHeartbeats 8000000
set_option maxRecDepth 10000
set_option linter.unusedSimpArgs false
set_option linter.unusedVariables false
end Go.Proofs.YtedcnhbblgmdnaaGreat.Ab
namespace Go.Proofs.YtedcnhbblgmdnaaGreat.Ab
set_option maxHeartbeats 8000000
set_option maxRecDepth 10000
set_option linter.unusedSimpArgs false
set_option linter.unusedVariables false
def trOK3 (ops : Array Oper) : List Tr → Bool
 | [] => true
 | x :: r => (r.all fun y => dirEdge ops y.i x.i || (reach ops 9 y.i x.i || freeOK x y)) && trOK3 ops r
theorem trOK_eq3 (ops : Array Oper) : ∀ l, trOK ops l = trOK3 ops l
 | [] => rfl
 | x :: r => by
  rw [trOK, trOK3, trOK_eq3 ops r]
  congr 2
  funext y
  unfold pairOK hasEdge
  cases dirEdge ops y.i x.i <;> cases freeOK x y <;> cases reach ops 9 y.i x.i <;> rfl
theorem GB.app {b key : Nat} {s : St} {L : List (Nat × D × Nat × List Pd)} {M G : List (Nat × Ob)} {x : C} {l m : List Bkt} {y : D} {K : D → St → Prop} (ho : OA b s L (G ++ M)) (hx : GB x l G) (hkey : b ≤ key) (hn : l.length + m.length < 2^30) (hy : srcD E0 29 s y = some (m.length, m.flatMap Bkt.pd)) (hm : m ≠ [])
  (hk : ∀ x' G' s', OA (key + 1) s' L (G' ++ M) → s'.nx = s.nx → GB x' (l ++ m) G' → K (.v (.c x')) s') : stepK (appendD E0 key [29, 29] (.v (.c x)) y s) K := by
 have hfl : (m.flatMap Bkt.pd).length = m.length * 10 := flat_len (k := 10) (fun _ => rfl) m
 have hm0 : 0 < m.length := List.length_pos_iff.2 hm
 rcases hx with ⟨rfl, rfl, rfl⟩ | ⟨id, rfl, rfl⟩
 ·refine OA.appN (by_ := 80) (m := m.length) (ys := m.flatMap Bkt.pd) (L := L) (M := M) ho hkey rfl ⟨_, ti29, rfl⟩ ti41 rfl rfl rfl (by decide) (by decide) hy hfl hm0 (by simp only [List.length_nil] at hn; omega) fun s' hs hnx => ?_
  exact hk _ [(key, .grow 10 m.length (cB m) false)] s' hs hnx (.inr ⟨key, by simp, by simp⟩)
 ·refine OA.appG (M1 := []) (M2 := M) (by_ := 80) (n := l.length) (m := m.length) (ys := m.flatMap Bkt.pd) (cs := cB l) (L := L) ho rfl ⟨_, ti29, rfl⟩ ti41 rfl rfl rfl (by decide) (by decide) hy hfl (by omega) fun s' hs hnx => ?_
  refine hk _ [(id, .grow 10 (l.length + m.length) (cB l ++ (m.flatMap Bkt.pd).map .p) false)] s' (hs.mono (by omega)) hnx (.inr ⟨id, by rw [List.length_append], by rw [List.length_append, cB_app]; rfl⟩)
theorem OA.setAt {b k : Nat} {s : St} {o o' : Ob} {L : List (Nat × D × Nat × List Pd)} {A B R : List (Nat × Ob)} (h : OA b s L (A ++ (B ++ (k, o) :: R))) (hf : o'.isFront = false) : OA b (s.put k o') L (A ++ (B ++ (k, o') :: R)) := by
 rw [← List.append_assoc] at h ⊢
 exact h.set hf
set_option maxHeartbeats 8000000
set_option maxRecDepth 10000
set_option linter.unusedSimpArgs false
set_option linter.unusedVariables false
theorem b10 : ((1 : Int) != 0) = true := rfl
set_option maxHeartbeats 8000000
set_option maxRecDepth 10000
set_option linter.unusedSimpArgs false
set_option linter.unusedVariables false
/-! ### valid rollups -/
structure VB (w : Int) (b : Bkt) : Prop where
 c1 : 1 ≤ b.c
 c2 : b.c ≤ 2000
 f1 : -1099511627776 ≤ b.f
 f2 : b.f ≤ 1099511627776
 l1 : -1099511627776 ≤ b.l
 l2 : b.l ≤ 1099511627776
 i1 : 0 ≤ b.inc
 i2 : b.inc ≤ 2197923743924224
 s1 : -2199023255552000 ≤ b.s
 s2 : b.s ≤ 2199023255552000
 t0 : 0 ≤ b.st
 t1 : b.st < 1099511627776
 t2 : b.st < b.ft
 t3 : b.ft ≤ b.lt
 t4 : b.lt ≤ b.st + w
 t5 : b.lt ≤ 1099511627776
 tm : b.st.tmod w = 0
theorem VB.of {k w : Int} {b : Bkt} (hk : k = 1 ∨ k = 2) (h : bkA k w b = true) (t0 : 0 ≤ b.st) (t1 : b.st < 1099511627776) (tm : b.st.tmod w = 0) : VB w b := by
 have hv : ∀ v, okV k v = true → -1099511627776 ≤ v ∧ v ≤ 1099511627776 := fun v hv => by
  simp only [okV, isVl, Bool.and_eq_true, decide_eq_true_eq] at hv
  exact hv.1
 simp only [bkA, Bool.and_eq_true, Bool.not_eq_true'] at h
 obtain ⟨h1, h2, h3, h4, h5, h6, h7⟩ := h
 simp only [bkA1, Bool.or_eq_false_iff, decide_eq_false_iff_not] at h1
 simp only [bkA2, Bool.or_eq_false_iff, decide_eq_false_iff_not] at h2
 simp only [bkA3, Bool.and_eq_true] at h3
 simp only [bkA5, Bool.or_eq_false_iff, decide_eq_false_iff_not] at h5
 simp only [bkA6, Bool.or_eq_false_iff, decide_eq_false_iff_not] at h6
 obtain ⟨m1, m2⟩ := hv _ h3.1
 obtain ⟨x1, x2⟩ := hv _ h3.2.1
 obtain ⟨f1, f2⟩ := hv _ h3.2.2.1
 obtain ⟨l1, l2⟩ := hv _ h3.2.2.2
 have c1 : 1 ≤ b.c := by omega
 have c2 : b.c ≤ 2000 := by omega
 have a1 := mulB c1 c2 m1 m2
 have a2 := mulB c1 c2 x1 x2
 exact ⟨c1, c2, f1, f2, l1, l2, by omega, by omega, by omega, by omega, t0, t1, by omega, by omega, by omega, by omega, tm⟩
structure Wn (n : Int) (b : Bkt) : Prop where
 c1 : 0 ≤ b.c
 c2 : b.c ≤ n * 2000
 f1 : -1099511627776 ≤ b.f
 f2 : b.f ≤ 1099511627776
 l1 : -1099511627776 ≤ b.l
 l2 : b.l ≤ 1099511627776
 i1 : -(n * 2200122767179776) ≤ b.inc
 i2 : b.inc ≤ n * 2200122767179776
 s1 : -(n * 2199023255552000) ≤ b.s
 s2 : b.s ≤ n * 2199023255552000
theorem Wn.more {n m : Int} {b : Bkt} (h : Wn n b) (hm : n ≤ m) : Wn m b := by
 obtain ⟨c1, c2, f1, f2, l1, l2, i1, i2, s1, s2⟩ := h
 constructor <;> omega
theorem Wn.join {w n k : Int} {a b : Bkt} (ha : Wn n a) (hb : VB w b) (h0 : 0 ≤ n) : Wn (n + 1) (joinB k a b) := by
 obtain ⟨c1, c2, f1, f2, l1, l2, i1, i2, s1, s2⟩ := ha
 obtain ⟨d1, d2, g1, g2, m1, m2, j1, j2, t1, t2, _⟩ := hb
 have hst : -2199023255552 ≤ stepV a.l b.f ∧ stepV a.l b.f ≤ 2199023255552 := by unfold stepV; split <;> omega
 constructor <;> simp only [joinB] <;> first | omega | (split <;> omega)
theorem St.put_adv (s : St) (k n : Nat) (o : Ob) : (s.put k o).adv n = (s.adv n).put k o := rfl
set_option maxHeartbeats 8000000
set_option maxRecDepth 10000
set_option linter.unusedSimpArgs false
set_option linter.unusedVariables false
theorem GB.len {x : C} {l : List Bkt} {G : List (Nat × Ob)} (h : GB x l G) : lenD E0 29 (.v (.c x)) = some (.v (.c (.p (.int .i64 l.length)))) := by
 rcases h with ⟨rfl, rfl, _⟩ | ⟨id, rfl, _⟩
 ·rw [lenD_nils, ti29]; rfl
 ·rw [lenD_gs, ti29]; rfl
theorem less_irr : ∀ s : List UInt8, Op.bytesLess s s = false
 | [] => rfl
 | a :: r => by
  simp only [Op.bytesLess, less_irr r, Bool.and_false, Bool.or_false, decide_eq_false_iff_not]
  exact UInt8.lt_irrefl a
theorem o154 : E0.opn 154 = false := by kernel_rfl
theorem x154 : E0.xt 154 = none := by kernel_rfl
theorem pf154 (s : List UInt8) : Pf E0 154 [.c (.p (.str s)), .c (.p (.str s))] (P' (pI 0)) := by
 have h := less_irr s
 refine Pf.body (fn := Tryz.f154) (by kernel_rfl) rfl ?_; simp only [List.map_cons, List.map_nil, List.cons_append, List.nil_append, List.length_cons, List.length_nil, Tryz.ntmps154, List.replicate, Nat.reduceSub, Nat.reduceAdd]
 refine gS fun K F => ?_; simp only [go_sem]; apply F; clear F K
 refine Wc.seq (Wc.seq ?_)
 refine gR fun K F => ?_; simp only [go_sem, h]; apply F; clear F K
 refine gF (by simp only [go_sem, h]) ?_
 refine Wc.seq (Wc.seq ?_)
 refine gR fun K F => ?_; simp only [go_sem, h]; apply F; clear F K
 refine gF (by simp only [go_sem, h, Bool.or_true]) ?_
 refine gS fun K F => ?_; simp only [go_sem]; apply F; clear F K
 exact Wc.ret (Pf.ret [.tmp 4] [.c (.p (pI 0))] rfl rfl (by simp only [resultsD, go_sem]) rfl)
theorem pf96 (l : List Lb) (hl : l.length < 2^60) : Pf E0 96 [.c (.p (.lst l.length (l.flatMap lbP))), .c (.p (.lst l.length (l.flatMap lbP)))] (P' (pI 0)) := by
 have hfl : (l.flatMap lbP).length = l.length * 2 := flat_len (k := 2) (fun _ => rfl) l
 refine Pf.body (fn := Tryz.f96) (by kernel_rfl) rfl ?_; simp only [List.map_cons, List.map_nil, List.cons_append, List.nil_append, List.length_cons, List.length_nil, Tryz.ntmps96, List.replicate, Nat.reduceSub, Nat.reduceAdd]
 refine gS fun K F => ?_; simp only [go_sem]; apply F; clear F K
 refine Wc.seqA (fun y => y.ds = [] ∧ y.e.length = 58 ∧ y.e.getD 0 .junk = P' (.lst l.length (l.flatMap lbP)) ∧ y.e.getD 1 .junk = P' (.lst l.length (l.flatMap lbP))) ?_ ?_
 ·refine gS fun K F => ?_; simp only [go_sem, nZ]; apply F; clear F K
  refine Wc.block (Wc.loop (fun k y => ∃ i : Nat, k = l.length - i ∧ i ≤ l.length ∧ y.ds = [] ∧ y.e.length = 58 ∧ y.e.getD 0 .junk = P' (.lst l.length (l.flatMap lbP)) ∧ y.e.getD 1 .junk = P' (.lst l.length (l.flatMap lbP)) ∧ y.e.getD 5 .junk = P' (pI i)) ?_ (k := l.length) ?_)
  ·rintro k ⟨e, ds, s1⟩ ⟨i, rfl, hi, rfl, hlen, h0, h1, h5⟩
   simp only at hlen h0 h1 h5
   refine Wc.seq (Wc.seq ?_)
   by_cases hil : i < l.length
   ·have hd : ((i : Int) < (l.length : Int)) = True := by simp only [eq_iff_iff, iff_true]; omega
    obtain ⟨x, hx⟩ : ∃ x, l[i]? = some x := ⟨l[i], List.getElem?_eq_getElem hil⟩
    have hix := ixA ti22 rfl ti117 (j := i) (m := l.length) (cs := l.flatMap lbP) hil hfl (by decide)
    have hca := rpA (off := i * 2) (drop_flat (f := lbP) (k := 2) (fun _ => rfl) hx) (by rw [hfl]; omega)
    have hcc := rpA (off := i * 2 + 1) (cs := l.flatMap lbP) (pre := [.str x.2]) (rest := (l.drop (i + 1)).flatMap lbP) (by rw [← List.drop_drop, drop_flat (f := lbP) (k := 2) (fun _ => rfl) hx]; rfl) (by rw [hfl]; omega)
    refine gR fun K F => ?_; simp only [go_sem, hlen, h0, h1, h5, hd]; apply F; clear F K
    refine gT (by simp only [go_sem, hlen, hd]) ?_
    refine Wc.skip (Wc.seq (Wc.block (Wc.seq (Wc.seq ?_))))
    refine Wc.regD fun K F => ?_; simp only [go_sem, hlen, h0, h1, h5, hix, hca]
    refine ⟨by simp [o154, x154, plainD, plainV, plainC], ?_⟩
    refine gP (pf154 x.1) (by kernel_rfl) (by kernel_rfl) rfl rfl ?_
    simp only [go_sem, hlen, h0, h1, h5, hix, hca]; apply F; clear F K
    refine gS fun K F => ?_; simp only [go_sem, hlen, h0, h1, h5]; apply F; clear F K
    refine gF (by simp only [go_sem, hlen]; rfl) ?_
    refine Wc.seq ?_
    refine Wc.regD fun K F => ?_; simp only [go_sem, hlen, h0, h1, h5, hix, hcc]
    refine ⟨by simp [o154, x154, plainD, plainV, plainC], ?_⟩
    refine gP (pf154 x.2) (by kernel_rfl) (by kernel_rfl) rfl rfl ?_
    simp only [go_sem, hlen, h0, h1, h5, hix, hcc]; apply F; clear F K
    refine gS fun K F => ?_; simp only [go_sem, hlen, h0, h1, h5]; apply F; clear F K
    refine gF (by simp only [go_sem, hlen]; rfl) ?_
    refine gR fun K F => ?_; simp only [go_sem, hlen, h0, h1, h5, i64n i (by omega)]; apply F; clear F K
    exact ⟨l.length - (i + 1), by omega, i + 1, rfl, by omega, rfl, by simp only [go_sem, hlen], by simp only [go_sem, hlen, h0], by simp only [go_sem, hlen, h1], by simp only [go_sem, hlen]⟩
   ·have hd : ((i : Int) < (l.length : Int)) = False := by simp only [eq_iff_iff, iff_false]; omega
    refine gR fun K F => ?_; simp only [go_sem, hlen, h0, h1, h5, hd]; apply F; clear F K
    refine gX (by simp only [go_sem, hlen, hd]) ?_
    exact Wc.exit ⟨rfl, rfl, by simp only [go_sem, hlen], by simp only [go_sem, hlen, h0], by simp only [go_sem, hlen, h1]⟩
  ·exact ⟨0, rfl, by omega, rfl, rfl, rfl, rfl, rfl⟩
 rintro ⟨e, ds, s1⟩ ⟨rfl, hlen, h0, h1⟩
 simp only at hlen h0 h1
 have hd : ((l.length : Int) < (l.length : Int)) = False := by simp
 refine Wc.seq (Wc.seq ?_)
 refine gR fun K F => ?_; simp only [go_sem, hlen, h0, h1, hd]; apply F; clear F K
 refine gF (by simp only [go_sem, hlen, hd]) ?_
 refine Wc.seq (Wc.seq ?_)
 refine gR fun K F => ?_; simp only [go_sem, hlen, h0, h1, hd]; apply F; clear F K
 refine gF (by simp only [go_sem, hlen, hd]) ?_
 refine gS fun K F => ?_; simp only [go_sem, hlen]; apply F; clear F K
 exact Wc.ret (Pf.ret [.tmp 4] [.c (.p (pI 0))] rfl rfl (by simp only [resultsD, go_sem, hlen]) rfl)
theorem pf50 (l : List Lb) (hl : l.length < 2^60) : Pf E0 50 [.c (.p (.lst l.length (l.flatMap lbP))), .c (.p (.lst l.length (l.flatMap lbP)))] (P' (.bool true)) := by
 refine Pf.body (fn := Tryz.f50) (by kernel_rfl) rfl ?_; simp only [List.map_cons, List.map_nil, List.cons_append, List.nil_append, List.length_cons, List.length_nil, Tryz.ntmps50, List.replicate, Nat.reduceSub, Nat.reduceAdd]
 refine gS fun K F => ?_; simp only [go_sem]; apply F; clear F K
 refine gS fun K F => ?_; simp only [go_sem]
 refine gP (pf96 l hl) (by kernel_rfl) (by kernel_rfl) rfl rfl ?_
 simp only [go_sem]; apply F; clear F K
 exact Wc.ret (Pf.ret [.tmp 4] [.c (.p (.bool true))] rfl rfl (by simp only [resultsD, go_sem]; try rfl) rfl)
def lbG (x : Lb) : Bool := decide (61 < x.1.length) || decide (201 < x.2.length)
def lbsG (l : List Lb) : Bool := l.any lbG || decide (17 < l.length)
theorem pf39 (l : List Lb) (hl : l.length < 2^60) : Pf E0 39 [.c (.p (.lst l.length (l.flatMap lbP)))] (P' (.bool (lbsG l))) := by
 have hfl : (l.flatMap lbP).length = l.length * 2 := flat_len (k := 2) (fun _ => rfl) l
 refine Pf.body (fn := Tryz.f39) (by kernel_rfl) rfl ?_; simp only [List.map_cons, List.map_nil, List.cons_append, List.nil_append, List.length_cons, List.length_nil, Tryz.ntmps39, List.replicate, Nat.reduceSub, Nat.reduceAdd]
 refine gS fun K F => ?_; simp only [go_sem]; apply F; clear F K
 refine Wc.seqR (fun y => l.any lbG = false ∧ y.ds = [] ∧ y.e.length = 29 ∧ y.e.getD 0 .junk = P' (.lst l.length (l.flatMap lbP))) ?_ ?_
 ·refine gS fun K F => ?_; simp only [go_sem, nZ]; apply F; clear F K
  refine Wc.block (Wc.loop (fun k y => ∃ i : Nat, k = l.length - i ∧ i ≤ l.length ∧ y.ds = [] ∧ y.e.length = 29 ∧ y.e.getD 0 .junk = P' (.lst l.length (l.flatMap lbP)) ∧ y.e.getD 3 .junk = P' (pI i) ∧ (l.take i).any lbG = false) ?_ (k := l.length) ?_)
  ·rintro k ⟨e, ds, s1⟩ ⟨i, rfl, hi, rfl, hlen, h0, h3, hn⟩
   simp only at hlen h0 h3
   refine Wc.seq (Wc.seq ?_)
   refine gR fun K F => ?_; simp only [go_sem, hlen, h0, h3]; apply F; clear F K
   refine Wc.cond (t := decide ((i : Int) < l.length)) (by simp only [go_sem, hlen]) (fun hc => ?_) (fun hc => ?_)
   ·have hil : i < l.length := by have h9 : (i : Int) < l.length := (by simpa using hc); omega
    obtain ⟨x, hx⟩ : ∃ x, l[i]? = some x := ⟨l[i], List.getElem?_eq_getElem hil⟩
    have hix := ixA ti22 rfl ti117 (j := i) (m := l.length) (cs := l.flatMap lbP) hil hfl (by decide)
    have hca := rpA (off := i * 2) (drop_flat (f := lbP) (k := 2) (fun _ => rfl) hx) (by rw [hfl]; omega)
    have hcc := rpA (off := i * 2 + 1) (cs := l.flatMap lbP) (pre := [.str x.2]) (rest := (l.drop (i + 1)).flatMap lbP) (by rw [← List.drop_drop, drop_flat (f := lbP) (k := 2) (fun _ => rfl) hx]; rfl) (by rw [hfl]; omega)
    have bad : lbG x = true → lbsG l = true := fun h => by
     unfold lbsG
     rw [List.any_eq_true.2 ⟨x, List.mem_of_getElem? hx, h⟩, Bool.true_or]
    refine Wc.skip (Wc.seq (Wc.block (Wc.seq ?_)))
    by_cases z1 : 61 < x.1.length
    ·have f1 : ((61 : Int) < (x.1.length : Int)) = True := by simp only [eq_iff_iff, iff_true]; omega
     refine gR fun K F => ?_; simp only [go_sem, hlen, h0, h3, hix, hca, f1]; apply F; clear F K
     refine gT (by simp only [go_sem, hlen]) ?_
     refine gS fun K F => ?_; simp only [go_sem, hlen]; apply F; clear F K
     rw [bad (by simp [lbG, z1])]
     exact Wc.ret (Pf.ret [.tmp 2] [.c (.p (.bool true))] rfl rfl (by simp only [resultsD, go_sem, hlen]) rfl)
    have f1 : ((61 : Int) < (x.1.length : Int)) = False := by simp only [eq_iff_iff, iff_false]; omega
    refine gR fun K F => ?_; simp only [go_sem, hlen, h0, h3, hix, hca, hcc, f1]; apply F; clear F K
    refine Wc.cond (t := decide ((201 : Int) < x.2.length)) (by simp only [go_sem, hlen]) (fun hc => ?_) (fun hc => ?_)
    ·have z2 : (201 : Int) < x.2.length := of_decide_eq_true hc
     have z3 : 201 < x.2.length := by omega
     refine gS fun K F => ?_; simp only [go_sem, hlen]; apply F; clear F K
     rw [bad (by simp [lbG, z3])]
     exact Wc.ret (Pf.ret [.tmp 2] [.c (.p (.bool true))] rfl rfl (by simp only [resultsD, go_sem, hlen]) rfl)
    ·have z2 : ¬ (201 : Int) < x.2.length := of_decide_eq_false hc
     have z3 : ¬ 201 < x.2.length := by omega
     refine Wc.skip ?_
     refine gR fun K F => ?_; simp only [go_sem, hlen, h0, h3, i64n i (by omega)]; apply F; clear F K
     refine ⟨l.length - (i + 1), by omega, i + 1, rfl, by omega, rfl, by simp only [go_sem, hlen], by simp only [go_sem, hlen, h0], by simp only [go_sem, hlen], ?_⟩
     rw [take_snoc hx, List.any_append, hn]
     simp only [List.any_cons, List.any_nil, lbG, decide_eq_false z1, decide_eq_false z3, Bool.or_self]
   ·have hil : i = l.length := by have h9 : ¬ (i : Int) < l.length := (by simpa using hc); omega
    subst hil
    rw [List.take_length] at hn
    exact Wc.exit ⟨hn, rfl, by simp only [go_sem, hlen], by simp only [go_sem, hlen, h0]⟩
  ·exact ⟨0, rfl, by omega, rfl, rfl, rfl, rfl, rfl⟩
 rintro ⟨e, ds, s1⟩ ⟨hn, rfl, hlen, h0⟩
 simp only at hlen h0
 refine gS fun K F => ?_; simp only [go_sem, hlen, h0]; apply F; clear F K
 have e1 : lbsG l = decide ((17 : Int) < l.length) := by unfold lbsG; rw [hn, Bool.false_or, decide_eq_decide]; omega
 rw [e1]
 exact Wc.ret (Pf.ret [.tmp 2] [.c (.p (.bool (decide ((17 : Int) < l.length))))] rfl rfl (by simp only [resultsD, go_sem, hlen]) rfl)
theorem thenD_ret {K : Fr → Prop} {Q : Ex → Fr → Prop} {y : Fr} (h : Q .ret y) : thenD K Q .ret y := h
set_option maxRecDepth 100000
noncomputable def aw : Option Bool := match bodyD E0 (runF E0 100) 100 12 [] { ob := [], nx := 0 } with
 | some (.v (.c (.p (.bool b))), _) => some b
 | _ => none
theorem aw_true : aw = some true := by kernel_rfl
theorem pf12 : Pf E0 12 [] (P' (.bool true)) := by
 have h := aw_true
 unfold aw at h
 split at h
 ·rename_i b s hb
  cases h
  exact ⟨100, _, _, _, hb, rfl⟩
 ·cases h
set_option maxHeartbeats 8000000
set_option maxRecDepth 10000
set_option linter.unusedSimpArgs false
set_option linter.unusedVariables false
theorem pf17 (x : Rlp) (hl : x.lb.length < 2^60) (hn : x.bs.length < 2^60) : Pf E0 17 [.agg (x.pd.map .p), .agg (x.pd.map .p)] (P' (.bool true)) := by
 have hfl : (x.bs.flatMap Bkt.pd).length = x.bs.length * 10 := flat_len (k := 10) (fun _ => rfl) _
 refine Pf.body (fn := Tryz.f17) (by kernel_rfl) rfl ?_; simp only [List.map_cons, List.map_nil, List.cons_append, List.nil_append, List.length_cons, List.length_nil, Tryz.ntmps17, List.replicate, Nat.reduceSub, Nat.reduceAdd]
 refine gS fun K F => ?_; simp only [go_sem, nZ]; apply F; clear F K
 refine Wc.seq (Wc.seq ?_)
 refine gR fun K F => ?_; simp only [go_sem, nZ]
 refine gP (pf50 x.lb hl) (by kernel_rfl) (by kernel_rfl) rfl rfl ?_
 simp only [go_sem, nZ, bne_self_eq_false]; apply F; clear F K
 refine gF (by simp only [go_sem, nZ]) ?_
 refine Wc.seqR (fun y => y.ds = [] ∧ Fs y.e 53 []) ?_ ?_
 ·refine gS fun K F => ?_; simp only [go_sem, nZ]; apply F; clear F K
  refine Wc.block (Wc.loop (fun c y => ∃ i : Nat, c = x.bs.length - i ∧ i ≤ x.bs.length ∧ y.ds = [] ∧ Fs y.e 53 [(2, .v (.c (.ref 0 0))), (3, .v (.c (.ref 1 0))), (5, P' (pI i))] ∧ OA y.s.nx y.s [] [(1, .cells (x.pd.map .p) false), (0, .cells (x.pd.map .p) false)]) ?_ (k := x.bs.length) ⟨0, rfl, by omega, rfl, by simp only [Fs, nZ, go_sem, nZ], by (try simp only [St.put_adv, St.adv_adv, St.put_put, St.nx_put, St.nx_adv]); repeat (first | exact OA.mono s00_oa (by omega) | refine OA.newB ?_ (by omega) rfl | refine OA.putB ?_ (by omega) | refine OA.advB ?_)⟩)
  rintro c ⟨e, ds, s1⟩ ⟨i, rfl, hi, rfl, hF, ho⟩
  simp only [Fs] at hF ho
  have g0 := ho.at_ (0, .cells (x.pd.map .p) false) (by simp)
  have g1 := ho.at_ (1, .cells (x.pd.map .p) false) (by simp)
  simp only [List.map_cons, List.map_nil] at g0 g1
  refine Wc.seq (Wc.seq ?_)
  refine gR fun K F => ?_; simp only [go_sem, nZ, hF, g0]; apply F; clear F K
  refine Wc.cond (t := decide ((i : Int) < x.bs.length)) (by simp only [go_sem, nZ, hF]) (fun hc => ?_) (fun hc => ?_)
  ·have hil : i < x.bs.length := by have := of_decide_eq_true hc; omega
   obtain ⟨b, hb⟩ : ∃ b, x.bs[i]? = some b := ⟨x.bs[i], List.getElem?_eq_getElem hil⟩
   have hix := ixA ti29 rfl ti41 (j := i) (m := x.bs.length) (cs := x.bs.flatMap Bkt.pd) hil hfl (by decide)
   have hca := rpA (off := i * 10) (drop_flat (f := Bkt.pd) (k := 10) (fun _ => rfl) hb) (by rw [hfl]; omega)
   refine Wc.skip (Wc.seq (Wc.block (Wc.seq ?_)))
   refine Wc.regD fun K F => ?_; simp only [go_sem, nZ, hF, g0, g1, hix, hca, eqL, eqS]; apply F; clear F K
   refine gX (by simp only [go_sem, nZ, hF]) ?_
   refine Wc.skip ?_
   refine gR fun K F => ?_; simp only [go_sem, nZ, hF, i64n i (by omega)]; apply F; clear F K
   exact ⟨x.bs.length - (i + 1), by omega, i + 1, rfl, by omega, rfl, by simp only [Fs, nZ, go_sem, nZ, hF], by (try simp only [St.put_adv, St.adv_adv, St.put_put, St.nx_put, St.nx_adv]); repeat (first | exact OA.mono ho (by omega) | refine OA.newB ?_ (by omega) rfl | refine OA.putB ?_ (by omega) | refine OA.advB ?_)⟩
  ·exact Wc.exit ⟨rfl, by simp only [Fs, nZ, go_sem, nZ, hF]⟩
 rintro ⟨e, ds, s1⟩ ⟨rfl, hF⟩
 simp only [Fs] at hF
 refine gS fun K F => ?_; simp only [go_sem, nZ, hF]; apply F; clear F K
 exact Wc.ret (Pf.ret [.tmp 4] [.c (.p (.bool true))] rfl rfl (by simp only [resultsD, go_sem, nZ, hF]) rfl)
def grR (x : Rlp) : Bool := lbsG x.lb || decide ((24 : Int) < x.bs.length)
theorem pf20 (x : Rlp) (hlb : x.lb.length < 2^60) : Pf E0 20 [.agg (x.pd.map .p)] (P' (.bool (grR x))) := by
 unfold grR
 refine Pf.body (fn := Tryz.f20) (by kernel_rfl) rfl ?_; simp only [List.map_cons, List.map_nil, List.cons_append, List.nil_append, List.length_cons, List.length_nil, Tryz.ntmps20, List.replicate, Nat.reduceSub, Nat.reduceAdd]
 refine gS fun K F => ?_; simp only [go_sem, nZ]; apply F; clear F K
 refine gS fun K F => ?_; simp only [go_sem, nZ]
 refine gP (pf39 x.lb hlb) (by kernel_rfl) (by kernel_rfl) rfl rfl ?_
 cases h1 : lbsG x.lb with
 | true =>
  simp only [go_sem, nZ]; apply F; clear F K
  rw [h1]
  exact Wc.ret (Pf.ret [.tmp 2] [.c (.p (.bool true))] rfl rfl (by simp only [resultsD, go_sem, nZ]) rfl)
 | false =>
  simp only [go_sem, nZ]; apply F; clear F K
  rw [h1]
  exact Wc.ret (Pf.ret [.tmp 2] [.c (.p (.bool (decide ((24 : Int) < x.bs.length))))] rfl rfl (by simp only [resultsD, go_sem, nZ]) rfl)
theorem lbsG_sz {l : List Lb} (h : lbsG l = false) : l.length < 2^40 ∧ ∀ y ∈ l, y.1.length < 2^50 ∧ y.2.length < 2^50 := by
 simp only [lbsG, Bool.or_eq_false_iff, decide_eq_false_iff_not] at h
 obtain ⟨h2, h3⟩ := h
 rw [List.any_eq_false] at h2
 refine ⟨by omega, fun y hy => ?_⟩
 have := h2 y hy
 simp only [lbG, Bool.or_eq_true, decide_eq_true_eq] at this
 omega
structure Rz (x : Rlp) : Prop where
 lb : x.lb.length < 2^40
 ls : ∀ y ∈ x.lb, y.1.length < 2^50 ∧ y.2.length < 2^50
 bs : x.bs.length < 2^40
theorem zR_z : Rz zR := ⟨by decide, fun y hy => (by cases hy), by decide⟩
theorem Rz.same {x : Rlp} (z : Rz x) : Pf E0 17 [.agg (x.pd.map .p), .agg (x.pd.map .p)] (P' (.bool true)) := pf17 x (by have := z.lb; omega) (by have := z.bs; omega)
set_option maxHeartbeats 8000000
set_option maxRecDepth 10000
set_option linter.unusedSimpArgs false
set_option linter.unusedVariables false
end Go.Proofs.YtedcnhbblgmdnaaGreat.Ab
