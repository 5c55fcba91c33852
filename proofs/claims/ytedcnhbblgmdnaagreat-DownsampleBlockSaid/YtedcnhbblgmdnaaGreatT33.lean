/- A part of the proof. -/
import Derived.Test.YtedcnhbblgmdnaaGreatT32
namespace Go.Proofs.YtedcnhbblgmdnaaGreat.Ab
set_option maxHeartbeats 8000000
set_option maxRecDepth 10000
set_option linter.unusedSimpArgs false
set_option linter.unusedVariables false
def clsR (n : Nat) : Nat → RdR → Option (List (List Int) × RdR)
 | 0, r => some ([], r)
 | k + 1, r => if (vsR r).1.length ≠ n then none else match clsR n k (vsR r).2 with
  | none => none
  | some q => some ((vsR r).1 :: q.1, q.2)
def mkB (s : Int) (f : List Int) : Bkt := ⟨IntKind.i64.wrap (s - 1), f.getD 0 0, f.getD 1 0, f.getD 2 0, f.getD 3 0, f.getD 4 0, f.getD 5 0, f.getD 6 0, f.getD 7 0, f.getD 8 0⟩
def bksR (ts : List Int) (cs : List (List Int)) : List Bkt := (List.range ts.length).map fun i => mkB (ts.getD i 0) (cs.map fun w => w.getD i 0)
def prR (c : Chk) : Option (Rlp × Bool) :=
 match clsR (tsR (nbR (nbR (c.d, false)).2).2).1.length 9 (tsR (nbR (nbR (c.d, false)).2).2).2 with
 | none => none
 | some q => some (⟨c.lb, (nbR (c.d, false)).1, (nbR (nbR (c.d, false)).2).1, bksR (tsR (nbR (nbR (c.d, false)).2).2).1 q.1⟩, q.2.2)
theorem nbR_vb {n : Nat} (h : n ≤ 1152921504606846976) (rest : List UInt8) : nbR (vb n ++ rest, false) = ((n : Int), (rest, false)) := by
 unfold nbR
 simp only [rdV_vb h rest]
 rw [if_neg (by simp)]
 simp
theorem ptR_vb {s : List UInt8} (h : s.length ≤ 1152921504606846976) (rest : List UInt8) : ptR (vb s.length ++ (s ++ rest), false) = (s, (rest, false)) := by
 unfold ptR
 simp only [nbR_vb h (s ++ rest)]
 rw [if_neg (by simp; omega), Int.toNat_natCast]
 simp
theorem vsR_enc {l : List Int} (h : (encV l).2 = 0) (hl : (encV l).1.length ≤ 1152921504606846976) (rest : List UInt8) : vsR (vb (encV l).1.length ++ ((encV l).1 ++ rest), false) = (l, (rest, false)) := by
 unfold vsR
 simp only [ptR_vb hl rest, vlR_enc h]
 have : okR encV (encV l).1 (some l) = some l := if_pos ⟨h, rfl⟩
 rw [this]
 rfl
theorem tsR_enc {l : List Int} (h : (encT l).2 = 0) (hl : (encT l).1.length ≤ 1152921504606846976) (rest : List UInt8) : tsR (vb (encT l).1.length ++ ((encT l).1 ++ rest), false) = (l, (rest, false)) := by
 unfold tsR
 simp only [ptR_vb hl rest, tmR_enc h]
 have : okR encT (encT l).1 (some l) = some l := if_pos ⟨h, rfl⟩
 rw [this]
 rfl
theorem clsR_enc {n : Nat} : ∀ (cs : List (List Int)), (∀ c ∈ cs, (encV c).2 = 0 ∧ c.length = n ∧ (encV c).1.length ≤ 1152921504606846976) → clsR n cs.length (flatP (cs.map fun c => (encV c).1), false) = some (cs, ([], false))
 | [], _ => rfl
 | c :: r, h => by
  obtain ⟨h1, h2, h3⟩ := h c (by simp)
  have e : flatP ((c :: r).map fun c => (encV c).1) = vb (encV c).1.length ++ ((encV c).1 ++ flatP (r.map fun c => (encV c).1)) := by rw [List.map_cons, flatP_cons]
  rw [List.length_cons, clsR, e, vsR_enc h1 h3]
  simp only
  rw [if_neg (by simpa using h2), clsR_enc r fun c hc => h c (by simp [hc])]
theorem bksR_cols {l : List Bkt} (hb : ∀ b ∈ l, 0 ≤ b.st ∧ b.st < 1099511627776) : bksR (l.map fun b => IntKind.i64.wrap (b.st + 1)) (colsK l l.length 0) = l := by
 apply List.ext_getElem?
 intro i
 unfold bksR
 by_cases hi : i < l.length
 ·have hb' := hb l[i] (List.getElem_mem hi)
  rw [List.getElem?_map, List.getElem?_range (by simp [hi]), List.getElem?_eq_getElem hi]
  simp only [Option.map_some, Option.some.injEq]
  have e1 : (l.map fun b => IntKind.i64.wrap (b.st + 1)).getD i 0 = IntKind.i64.wrap ((l[i]).st + 1) := by
   rw [List.getD_eq_getElem?_getD, List.getElem?_map, List.getElem?_eq_getElem hi]; rfl
  have e2 : (colsK l l.length 0).map (fun w => w.getD i 0) = bktF l[i] := by
   have e3 : ∀ j, (colF (l.take l.length) j).getD i 0 = (bktF l[i]).getD j 0 := fun j => by
    rw [List.take_length, colF, List.getD_eq_getElem?_getD, List.getElem?_map, List.getElem?_eq_getElem hi]; rfl
   simp only [colsK, List.map_map]
   simp only [Function.comp_def, Nat.not_lt_zero, if_false, e3]
   simp [List.range_succ, bktF]
  rw [e1, e2]
  have e : IntKind.i64.wrap (IntKind.i64.wrap ((l[i]).st + 1) - 1) = (l[i]).st := by rw [wi64, wi64]; omega
  simp only [mkB, e, bktF]
  rfl
 ·rw [List.getElem?_eq_none (by simp; omega), List.getElem?_eq_none (by omega)]
theorem prR_enc {c : Chk} {x : Rlp} (h : encLo x = some c.d) (hlb : x.lb = c.lb) : prR c = some (x, false) := by
 obtain ⟨hs, ss, hss, hd, hl⟩ := encLo_some h
 obtain ⟨hk, hw, _, hbl⟩ := rlpOK_some hs
 have hst : ∀ b ∈ x.bs, 0 ≤ b.st ∧ b.st < 1099511627776 := by
  unfold rlpOK at hs
  simp only [Bool.and_eq_true] at hs
  exact bksOK_st hs.2.2 (Int.le_refl _)
 obtain ⟨rfl, hz⟩ := colsOK_some hss
 have hp := flatP_parts (p := vb x.k.toNat ++ vb x.w.toNat) (by rw [hd, List.append_assoc]) hl
 rw [bktCs_eq] at hz hp hd
 simp only [List.map_cons, List.map_map] at hp hd
 generalize hS : (x.bs.map fun b => IntKind.i64.wrap (b.st + 1)) = S at *
 generalize hC : colsK x.bs x.bs.length 0 = CS at *
 have hC9 : CS.length = 9 := by rw [← hC]; exact colsK_len ..
 have hSl : S.length = x.bs.length := by rw [← hS]; simp
 have hCl : ∀ c ∈ CS, c.length = x.bs.length := by
  intro c hc
  rw [← hC] at hc
  simp only [colsK, List.mem_map] at hc
  obtain ⟨j, _, rfl⟩ := hc
  simp [colF]
 have hT0 : (encT S).2 = 0 := hz (encT S) (by simp)
 have hTl : (encT S).1.length ≤ 1152921504606846976 := hp _ (by simp)
 have hV : ∀ c ∈ CS, (encV c).2 = 0 ∧ c.length = S.length ∧ (encV c).1.length ≤ 1152921504606846976 := fun c hc =>
  ⟨hz (encV c) (by simp only [List.mem_cons, List.mem_map]; exact .inr ⟨c, hc, rfl⟩), by rw [hCl c hc, hSl], hp _ (by simp only [List.mem_cons, List.mem_map]; exact .inr ⟨c, hc, rfl⟩)⟩
 have e0 : flatP ((encT S).1 :: CS.map ((fun x => x.1) ∘ encV)) = vb (encT S).1.length ++ ((encT S).1 ++ flatP (CS.map fun c => (encV c).1)) := by rw [flatP_cons]; rfl
 rw [e0] at hd
 have n1 := nbR_vb (n := x.k.toNat) (by omega) (vb x.w.toNat ++ (vb (encT S).1.length ++ ((encT S).1 ++ flatP (CS.map fun c => (encV c).1))))
 rw [← hd] at n1
 have n2 := nbR_vb (n := x.w.toNat) (by omega) (vb (encT S).1.length ++ ((encT S).1 ++ flatP (CS.map fun c => (encV c).1)))
 have n3 := tsR_enc hT0 hTl (flatP (CS.map fun c => (encV c).1))
 have n4 := clsR_enc CS hV
 rw [hC9] at n4
 unfold prR
 simp only [n1, n2, n3, n4]
 have hb := bksR_cols hst
 rw [hS, hC] at hb
 rw [hb]
 obtain ⟨lb, k, w, bs⟩ := x
 simp only at hk hw hlb ⊢
 subst hlb
 have e1 : ((k.toNat : Nat) : Int) = k := by omega
 have e2 : ((w.toNat : Nat) : Int) = w := by omega
 rw [e1, e2]
theorem dec_prR (c : Chk) : (match prR c with
  | none => none
  | some q => if q.2 = false ∧ encLo q.1 = some c.d ∧ (rlpZ q.1.bs).g = c.z then some q.1 else none) = decL c.lb c.z c.d := by
 cases hd : decL c.lb c.z c.d with
 | some x =>
  obtain ⟨h1, h2, h3⟩ := decL_some hd
  rw [prR_enc h1 h3]
  exact if_pos ⟨rfl, h1, h2⟩
 | none =>
  cases hp : prR c with
  | none => rfl
  | some q =>
   refine if_neg fun ⟨_, h1, h2⟩ => ?_
   have hlb : q.1.lb = c.lb := by
    unfold prR at hp
    split at hp
    ·cases hp
    ·cases hp; rfl
   have := decL_enc h1
   rw [hlb, h2, hd] at this
   cases this
def GF (x : C) (l : List Bkt) (G : List (Nat × Ob)) : Prop := (x = .nils ∧ l = [] ∧ G = []) ∨ ∃ id, x = .gs l.length id 0 l.length 10 ∧ G = [(id, .grow 10 l.length (cB l) true)]
theorem GF.pur {b : Nat} {s : St} {L : List (Nat × D × Nat × List Pd)} {M G : List (Nat × Ob)} {x : C} {l : List Bkt} (ho : OA b s L (G ++ M)) (h : GF x l G) : ∃ s', purC s x = some (.lst l.length (l.flatMap Bkt.pd), s') := by
 rcases h with ⟨rfl, rfl, rfl⟩ | ⟨id, rfl, rfl⟩
 ·exact ⟨s, rfl⟩
 ·have g : s.get id = some (.grow 10 l.length (cB l) true) := ho.at_ (id, .grow 10 l.length (cB l) true) (by simp)
  have hf : (l.flatMap Bkt.pd).length = l.length * 10 := flat_len (k := 10) (fun _ => rfl) l
  refine ⟨s.put id (.grow 10 l.length ((l.flatMap Bkt.pd).map .p) true), ?_⟩
  simp only [purC, g, cB_all, true_and, Nat.zero_add, hf, Nat.le_refl, if_true, List.drop_zero]
  rw [List.take_of_length_le (by omega)]
theorem GB.purF {b : Nat} {s : St} {L : List (Nat × D × Nat × List Pd)} {M G : List (Nat × Ob)} {x : C} {l : List Bkt} (ho : OA b s L (G ++ M)) (h : GB x l G) (lb : List Lb) (k w : Int) : ∃ s' G', purVs s [.agg [.p (.lst lb.length (lb.flatMap lbP)), .p (pI k), .p (pI w), x]] = some ([.agg ((Rlp.mk lb k w l).pd.map .p)], s') ∧ OA b s' L (G' ++ M) ∧ s'.nx = s.nx ∧ GF x l G' := by
 have hp : ∀ (s : St) (x : Pd), purC s (.p x) = some (x, s) := fun _ _ => rfl
 rcases h with ⟨rfl, rfl, rfl⟩ | ⟨id, rfl, rfl⟩
 ·exact ⟨s, [], rfl, ho, rfl, .inl ⟨rfl, rfl, rfl⟩⟩
 ·have g : s.get id = some (.grow 10 l.length (cB l) false) := ho.at_ (id, .grow 10 l.length (cB l) false) (by simp)
  have hf : (l.flatMap Bkt.pd).length = l.length * 10 := flat_len (k := 10) (fun _ => rfl) l
  have h1 : purC s (.gs l.length id 0 l.length 10) = some (.lst l.length (l.flatMap Bkt.pd), s.put id (.grow 10 l.length (cB l) true)) := by
   simp only [purC, g, cB_all, true_and, Nat.zero_add, hf, Nat.le_refl, if_true, List.drop_zero]
   rw [List.take_of_length_le (by omega)]
   rfl
  exact ⟨s.put id (.grow 10 l.length (cB l) true), [(id, .grow 10 l.length (cB l) true)], by simp only [purVs, purV, purCs, hp, h1, List.map_cons, List.map_nil], OA.set (M1 := []) ho rfl, rfl, .inr ⟨id, rfl, rfl⟩⟩
theorem Pf.retF {fn : Func} {x : Fr} {xc : C} {l : List Bkt} {G M : List (Nat × Ob)} {L : List (Nat × D × Nat × List Pd)} {b : Nat} {lb : List Lb} {k w e : Int} (rs : List ResultVar) (hd : x.ds = []) (hrs : fn.results.toList = rs)
  (hr : resultsD E0 x.e x.s rs = some [.agg [.p (.lst lb.length (lb.flatMap lbP)), .p (pI k), .p (pI w), xc], .c (.p (pI e))]) (ho : OA b x.s L (G ++ M)) (h : GF xc l G) :
  bodyQ E0 fn (fun d0 s2 => ∃ s3, purD s2 d0 = some (resR ⟨lb, k, w, l⟩ e, s3)) .ret x := by
 obtain ⟨s3, h3⟩ := h.pur ho
 refine Pf.ret rs _ hd hrs hr (s3 := s3) ?_
 have hp : ∀ (s : St) (x : Pd), purC s (.p x) = some (x, s) := fun _ _ => rfl
 simp only [packD, purD, purVs, purV, purCs, hp, h3, List.map_cons, List.map_nil]
 rfl
abbrev lstC (w : List Int) : C := .p (.lst w.length (w.map pI))
def cK (cs : List (List Int)) : List C := cs.map lstC ++ List.replicate (9 - cs.length) .nils
theorem cK_len {cs : List (List Int)} (h : cs.length ≤ 9) : (cK cs).length = 9 := by simp [cK]; omega
theorem cK_set {cs : List (List Int)} (h : cs.length < 9) (w : List Int) : (cK cs).take cs.length ++ [lstC w] ++ (cK cs).drop (cs.length + 1) = cK (cs ++ [w]) := by
 have e : 9 - cs.length = 9 - cs.length - 1 + 1 := by omega
 have e2 : 9 - (cs ++ [w]).length = 9 - cs.length - 1 := by simp; omega
 unfold cK
 rw [e2, List.take_left' (by simp), e, List.replicate_succ, ← List.drop_drop, List.drop_left' (by simp)]
 simp
theorem cK_at {cs : List (List Int)} {k : Nat} {w : List Int} (h : cs[k]? = some w) : (cK cs).drop k = lstC w :: (cK cs).drop (k + 1) := by
 have h1 : (cK cs)[k]? = some (lstC w) := by
  unfold cK
  rw [List.getElem?_append_left (by have := (List.getElem?_eq_some_iff.1 h).1; simpa using this), List.getElem?_map, h]; rfl
 obtain ⟨a1, a2⟩ := List.getElem?_eq_some_iff.1 h1
 rw [List.drop_eq_getElem_cons a1, a2]
theorem pf70 (c : Chk) (z : Cz c) : Pf E0 70 [.agg (c.pd.map .p)] (resR (dcX c) (dcE c)) := by
 have hd := z.d
 refine Pf.body (fn := Tryz.f70) (by kernel_rfl) rfl ?_; simp only [List.map_cons, List.map_nil, List.cons_append, List.nil_append, List.length_cons, List.length_nil, Tryz.ntmps70, List.replicate, Nat.reduceSub, Nat.reduceAdd]
 refine gS fun K F => ?_; simp only [go_sem, nZ]; apply F; clear F K
 refine Wc.seq (Wc.seq ?_)
 by_cases hs : c.sig = 6
 case neg =>
  have e1 : dcE c = 8 := by unfold dcE; rw [if_neg hs]
  have e2 : dcX c = zR := by unfold dcX dcR; rw [if_neg hs]; rfl
  have d0 : (c.sig != 6) = true := by simpa using hs
  rw [e1, e2]
  refine gR fun K F => ?_; simp only [go_sem, nZ, d0]; apply F; clear F K
  refine gT (by simp only [go_sem, nZ, d0]) ?_
  refine gS fun K F => ?_; simp only [go_sem, nZ]; apply F; clear F K
  exact Wc.ret (Pf.ret [.cell 2 31, .tmp 3] [.agg [.nils, .p (pI 0), .p (pI 0), .nils], .c (.p (pI 8))] rfl rfl (by simp only [resultsD, go_sem, nZ]) rfl)
 have d0 : (c.sig != 6) = false := by simpa using hs
 have e1 : dcE c = if (decL c.lb c.z c.d).isSome then 0 else 12 := by unfold dcE; rw [if_pos hs]
 have e2 : dcX c = (decL c.lb c.z c.d).getD zR := by unfold dcX dcR; rw [if_pos hs]
 rw [e1, e2, ← dec_prR]
 clear e1 e2
 refine gR fun K F => ?_; simp only [go_sem, nZ, d0]; apply F; clear F K
 refine gF (by simp only [go_sem, nZ, d0]) ?_
 generalize hP : prR c = P
 unfold prR at hP
 have p130 := pf130 (c.d, false)
 have l1 := nbR_le (c.d, false)
 generalize nbR (c.d, false) = a at *
 obtain ⟨A, ra⟩ := a
 simp only at p130 l1 hP
 have p130' := pf130 ra
 have l2 := nbR_le ra
 generalize nbR ra = b at *
 obtain ⟨B, rb⟩ := b
 simp only at p130' l2 hP
 have p131 := pf131 rb (by omega)
 have l3 : (tsR rb).2.1.length ≤ rb.1.length ∧ (tsR rb).1.length ≤ 20002 := by
  unfold tsR
  have h3 := ptR_le rb
  rw [tmR_dec]
  split
  ·simp only [clO]
   split
   ·simp
   ·have := decF_len 0 (ptR rb).1
    simp only [decF, if_true] at this
    exact ⟨h3.2, by simp only; omega⟩
  ·simp [clO]
 generalize tsR rb = tt at *
 obtain ⟨TS, rt⟩ := tt
 simp only at p131 l3 hP
 refine Wc.seqA (fun y => ∃ k5, y.ds = [] ∧ Fs y.e 142 [(1, .v (.c (.ref 0 0))), (2, .v (.c (.ref 1 0))), (4, P' (pI A)), (5, .v (.c (.ref k5 0)))] ∧ OA y.s.nx y.s [] ((k5, .cells (rdP ra) false) :: [(1, .cells [.nils, .p (pI 0), .p (pI 0), .nils] false), (0, .cells (c.pd.map .p) false)])) ?_ ?_
 ·refine gR fun K F => ?_; simp only [go_sem, nZ]
  refine gP (p130) (by kernel_rfl) (by kernel_rfl) rfl rfl ?_
  simp only [go_sem, nZ]; apply F; clear F K
  exact ⟨rfl, 13, rfl, by simp only [Fs, nZ, go_sem, nZ], by (try simp only [St.put_adv, St.adv_adv, St.put_put, St.nx_put, St.nx_adv]); repeat (first | exact OA.mono s00_oa (by omega) | refine OA.newB ?_ (by omega) rfl | refine OA.putB ?_ (by omega) | refine OA.advB ?_)⟩
 rintro ⟨e, ds, s1⟩ ⟨k5, rfl, hF, ho⟩
 simp only [Fs] at hF ho
 have g5 := ho.at_ (k5, .cells (rdP ra) false) (by simp)
 refine Wc.seqA (fun y => y.ds = [] ∧ Fs y.e 142 [(1, .v (.c (.ref 0 0))), (2, .v (.c (.ref 1 0))), (4, P' (pI A)), (5, .v (.c (.ref k5 0))), (6, P' (pI B))] ∧ OA y.s.nx y.s [] ((k5, .cells (rdP rb) false) :: [(1, .cells [.nils, .p (pI 0), .p (pI 0), .nils] false), (0, .cells (c.pd.map .p) false)])) ?_ ?_
 ·refine gR fun K F => ?_; simp only [go_sem, nZ, hF, g5]
  refine gP (p130') (by kernel_rfl) (by kernel_rfl) rfl rfl ?_
  simp only [go_sem, nZ, hF, g5]; apply F; clear F K
  have h5 := fun n => OA.set (M1 := []) (o' := .cells (rdP rb) false) (OA.adv (n := n) ho) rfl
  exact ⟨rfl, rfl, by simp only [Fs, nZ, go_sem, nZ, hF], OA.mono (h5 _) (by simp only [St.nx_put, St.nx_adv]; omega)⟩
 clear hF ho g5 e s1
 rintro ⟨e, ds, s1⟩ ⟨rfl, hF, ho⟩
 simp only [Fs] at hF ho
 have g5 := ho.at_ (k5, .cells (rdP rb) false) (by simp)
 refine Wc.seqA (fun y => y.ds = [] ∧ Fs y.e 142 [(1, .v (.c (.ref 0 0))), (2, .v (.c (.ref 1 0))), (4, P' (pI A)), (5, .v (.c (.ref k5 0))), (6, P' (pI B)), (7, P' (.lst TS.length (TS.map pI)))] ∧ OA y.s.nx y.s [] ((k5, .cells (rdP rt) false) :: [(1, .cells [.nils, .p (pI 0), .p (pI 0), .nils] false), (0, .cells (c.pd.map .p) false)])) ?_ ?_
 ·refine gR fun K F => ?_; simp only [go_sem, nZ, hF, g5]
  refine gP (p131) (by kernel_rfl) (by kernel_rfl) rfl rfl ?_
  simp only [go_sem, nZ, hF, g5]; apply F; clear F K
  have h5 := fun n => OA.set (M1 := []) (o' := .cells (rdP rt) false) (OA.adv (n := n) ho) rfl
  exact ⟨rfl, rfl, by simp only [Fs, nZ, go_sem, nZ, hF], OA.mono (h5 _) (by simp only [St.nx_put, St.nx_adv]; omega)⟩
 clear hF ho g5 e s1
 rintro ⟨e, ds, s1⟩ ⟨rfl, hF, ho⟩
 simp only [Fs] at hF ho
 have g0 := ho.at_ (0, .cells (c.pd.map .p) false) (by simp)
 simp only [List.map_cons, List.map_nil] at g0
 refine Wc.seqA (fun y => ∃ k8, y.ds = [] ∧ Fs y.e 142 [(1, .v (.c (.ref 0 0))), (2, .v (.c (.ref 1 0))), (4, P' (pI A)), (5, .v (.c (.ref k5 0))), (6, P' (pI B)), (7, P' (.lst TS.length (TS.map pI))), (8, .v (.c (.ref k8 0)))] ∧ OA y.s.nx y.s [] ((k8, .cells [.p (.lst c.lb.length (c.lb.flatMap lbP)), .p (pI A), .p (pI B), .nils] false) :: (k5, .cells (rdP rt) false) :: [(1, .cells [.nils, .p (pI 0), .p (pI 0), .nils] false), (0, .cells (c.pd.map .p) false)])) ?_ ?_
 ·refine gR fun K F => ?_; simp only [go_sem, nZ, hF, g0]; apply F; clear F K
  exact ⟨rfl, s1.nx + 5, rfl, by simp only [Fs, nZ, go_sem, nZ, hF], by (try simp only [St.put_adv, St.adv_adv, St.put_put, St.nx_put, St.nx_adv]); repeat (first | exact OA.mono ho (by omega) | refine OA.newB ?_ (by omega) rfl | refine OA.putB ?_ (by omega) | refine OA.advB ?_)⟩
 clear hF ho g0 e s1
 rintro ⟨e, ds, s1⟩ ⟨k8, rfl, hF, ho⟩
 simp only [Fs] at hF ho
 refine Wc.seqA (fun y => ∃ k9, y.ds = [] ∧ Fs y.e 142 [(1, .v (.c (.ref 0 0))), (2, .v (.c (.ref 1 0))), (4, P' (pI A)), (5, .v (.c (.ref k5 0))), (6, P' (pI B)), (7, P' (.lst TS.length (TS.map pI))), (8, .v (.c (.ref k8 0))), (9, .v (.c (.mt k9 0 9 1)))] ∧ OA y.s.nx y.s [] ((k9, .cells (cK []) false) :: (k8, .cells [.p (.lst c.lb.length (c.lb.flatMap lbP)), .p (pI A), .p (pI B), .nils] false) :: (k5, .cells (rdP rt) false) :: [(1, .cells [.nils, .p (pI 0), .p (pI 0), .nils] false), (0, .cells (c.pd.map .p) false)])) ?_ ?_
 ·have h1 : (((24 : Nat) : Int) * 9 ≤ 140737488355328) = True := by simp
  have h2 : ((9 : Int) ≤ 9223372036854775807) = True := by simp
  have h3 : ((9 : Int) = 0) = False := by simp
  refine gR fun K F => ?_; simp only [go_sem, nZ, hF, h1, h2, h3]; apply F; clear F K
  refine ⟨rfl, s1.nx, rfl, by simp only [Fs, nZ, go_sem, nZ, hF], ?_⟩
  show OA _ _ [] ((s1.nx, .cells (repl 9 [.nils]) false) :: _)
  simp only [repl, List.cons_append, List.nil_append]
  exact by (try simp only [St.put_adv, St.adv_adv, St.put_put, St.nx_put, St.nx_adv]); repeat (first | exact OA.mono ho (by omega) | refine OA.newB ?_ (by omega) rfl | refine OA.putB ?_ (by omega) | refine OA.advB ?_)
 clear hF ho e s1
 rintro ⟨e, ds, s1⟩ ⟨k9, rfl, hF, ho⟩
 simp only [Fs] at hF ho
 obtain ⟨R, hR⟩ : ∃ R, clsR TS.length 9 rt = R := ⟨_, rfl⟩
 have hR0 : (clsR TS.length (9 - 0) rt).map (fun q => ([] ++ q.1, q.2)) = R := by
  rw [show 9 - 0 = 9 from rfl, hR]
  cases R <;> rfl
 rw [hR] at hP
 clear hR
 refine Wc.seqR (fun y => ∃ cs rf, (R = some (cs, rf) ∧ cs.length = 9 ∧ ∀ w ∈ cs, w.length = TS.length) ∧ y.ds = [] ∧ Fs y.e 142 [(1, .v (.c (.ref 0 0))), (2, .v (.c (.ref 1 0))), (4, P' (pI A)), (5, .v (.c (.ref k5 0))), (6, P' (pI B)), (7, P' (.lst TS.length (TS.map pI))), (8, .v (.c (.ref k8 0))), (9, .v (.c (.mt k9 0 9 1)))] ∧ OA y.s.nx y.s [] ((k9, .cells (cK cs) false) :: (k8, .cells [.p (.lst c.lb.length (c.lb.flatMap lbP)), .p (pI A), .p (pI B), .nils] false) :: (k5, .cells (rdP rf) false) :: [(1, .cells [.nils, .p (pI 0), .p (pI 0), .nils] false), (0, .cells (c.pd.map .p) false)])) ?_ ?_
 ·refine gS fun K F => ?_; simp only [go_sem, nZ, hF]; apply F; clear F K
  refine Wc.block (Wc.loop (fun q y => ∃ (j : Nat) (cs : List (List Int)) (r : RdR), q = 9 - j ∧ (j ≤ 9 ∧ cs.length = j ∧ (∀ w ∈ cs, w.length = TS.length) ∧ r.1.length < 2^40 ∧ (clsR TS.length (9 - j) r).map (fun q => (cs ++ q.1, q.2)) = R) ∧ y.ds = [] ∧ Fs y.e 142 [(1, .v (.c (.ref 0 0))), (2, .v (.c (.ref 1 0))), (4, P' (pI A)), (5, .v (.c (.ref k5 0))), (6, P' (pI B)), (7, P' (.lst TS.length (TS.map pI))), (8, .v (.c (.ref k8 0))), (9, .v (.c (.mt k9 0 9 1))), (10, P' (pI j))] ∧ OA y.s.nx y.s [] ((k9, .cells (cK cs) false) :: (k8, .cells [.p (.lst c.lb.length (c.lb.flatMap lbP)), .p (pI A), .p (pI B), .nils] false) :: (k5, .cells (rdP r) false) :: [(1, .cells [.nils, .p (pI 0), .p (pI 0), .nils] false), (0, .cells (c.pd.map .p) false)])) ?_ (k := 9) ⟨0, [], rt, rfl, ⟨by omega, rfl, fun w hw => (by cases hw), by omega, hR0⟩, rfl, by simp only [Fs, nZ, go_sem, nZ, hF], by (try simp only [St.nx_put, St.nx_adv]); repeat (first | exact OA.mono ho (by omega) | refine OA.newB ?_ (by omega) rfl | refine OA.advB ?_)⟩)
  clear hF ho e s1 hR0
  rintro q ⟨e, ds, s1⟩ ⟨j, cs, r, rfl, ⟨hj, hcs, hcw, hr, hR⟩, rfl, hF, ho⟩
  simp only [Fs] at hF ho
  refine Wc.seq (Wc.seq ?_)
  refine gR fun K F => ?_; simp only [go_sem, nZ, hF]; apply F; clear F K
  refine Wc.cond (t := decide ((j : Int) < 9)) (by simp only [go_sem, nZ, hF]) (fun hc => ?_) (fun hc => ?_)
  ·have hjl : j < 9 := by have := of_decide_eq_true hc; omega
   obtain ⟨m, hm⟩ : ∃ m, 9 - j = m + 1 := ⟨9 - j - 1, by omega⟩
   have hm' : 9 - (j + 1) = m := by omega
   rw [hm, clsR] at hR
   have p132 := pf132 r hr
   have l4 : (vsR r).2.1.length ≤ r.1.length := by
    unfold vsR
    have h3 := ptR_le r
    unfold clO
    split
    ·simp
    ·split
     ·simp
     ·exact h3.2
   generalize vsR r = v at *
   obtain ⟨w, r'⟩ := v
   simp only at p132 l4 hR
   have hi9 := ixM ti176 rfl ti175 (r := k9) (off := 0) (j := j) (m := 9) (es := 1) hjl rfl
   have hkl := cK_len (cs := cs) (by omega)
   have hkl2 := cK_len (cs := cs ++ [w]) (by simp; omega)
   have hset := cK_set (cs := cs) (by omega) w
   rw [hcs] at hset
   have hwat := cK_at (cs := cs ++ [w]) (k := j) (w := w) (by simp [← hcs])
   have hj0 : (j ≤ 9) = True := by simp; omega
   have hj1 : (j + 1 ≤ 9) = True := by simp; omega
   have g5 := ho.at_ (k5, .cells (rdP r) false) (by simp)
   have g9 := ho.at_ (k9, .cells (cK cs) false) (by simp)
   have n59 : (k9 = k5) = False := by
    have := ho.dism
    simp only [List.pairwise_cons, List.mem_cons] at this
    have := this.1 (k5, .cells (rdP r) false) (.inr (.inl rfl))
    simpa using this
   refine Wc.skip (Wc.seq (Wc.block (Wc.seqA (fun y => y.ds = [] ∧ Fs y.e 142 [(1, .v (.c (.ref 0 0))), (2, .v (.c (.ref 1 0))), (4, P' (pI A)), (5, .v (.c (.ref k5 0))), (6, P' (pI B)), (7, P' (.lst TS.length (TS.map pI))), (8, .v (.c (.ref k8 0))), (9, .v (.c (.mt k9 0 9 1))), (10, P' (pI j))] ∧ OA y.s.nx y.s [] ((k9, .cells (cK (cs ++ [w])) false) :: (k8, .cells [.p (.lst c.lb.length (c.lb.flatMap lbP)), .p (pI A), .p (pI B), .nils] false) :: (k5, .cells (rdP r') false) :: [(1, .cells [.nils, .p (pI 0), .p (pI 0), .nils] false), (0, .cells (c.pd.map .p) false)])) ?_ ?_)))
   ·refine gR fun K F => ?_; simp only [go_sem, nZ, hF, g5, g9, hi9, hkl, hj0, hj1, n59]
    refine gP (p132) (by kernel_rfl) (by kernel_rfl) rfl rfl ?_
    simp only [go_sem, nZ, hF, g5, g9, hi9, hkl, hj0, hj1, n59, hset]; apply F; clear F K
    refine ⟨rfl, rfl, by simp only [Fs, nZ, go_sem, nZ, hF], ?_⟩
    have h5 := fun n => OA.set (M1 := []) (o' := .cells (cK (cs ++ [w])) false) (OA.adv (n := n) (OA.adv (n := 2) ho)) rfl
    have h6 := fun n => OA.set (M1 := [(k9, .cells (cK (cs ++ [w])) false), (k8, .cells [.p (.lst c.lb.length (c.lb.flatMap lbP)), .p (pI A), .p (pI B), .nils] false)]) (o' := .cells (rdP r') false) (h5 n) rfl
    exact OA.mono (h6 _) (by simp only [St.nx_put, St.nx_adv]; omega)
   clear hF ho g5 g9 e s1
   rintro ⟨e, ds, s1⟩ ⟨rfl, hF, ho⟩
   simp only [Fs] at hF ho
   have g9 := ho.at_ (k9, .cells (cK (cs ++ [w])) false) (by simp)
   have g1 := ho.at_ (1, .cells [.nils, .p (pI 0), .p (pI 0), .nils] false) (by simp)
   refine gS fun K F => ?_; simp only [go_sem, nZ, hF, g9, hi9, hkl2, hj0, hj1, hwat]; apply F; clear F K
   refine Wc.cond (t := (w.length : Int) != (TS.length : Int)) (by simp only [go_sem, nZ, hF]) (fun hc => ?_) (fun hc => ?_)
   ·have hne : w.length ≠ TS.length := by
     have : ¬ (w.length : Int) = (TS.length : Int) := by simpa using hc
     omega
    rw [if_pos hne] at hR
    simp only [Option.map_none] at hR
    subst hR
    simp only at hP
    subst hP
    refine gS fun K F => ?_; simp only [go_sem, nZ, hF, g1]; apply F; clear F K
    exact Wc.ret (Pf.ret [.cell 2 31, .tmp 3] [.agg [.nils, .p (pI 0), .p (pI 0), .nils], .c (.p (pI 12))] rfl rfl (by simp only [resultsD, go_sem, nZ, hF]) rfl)
   have hne : w.length = TS.length := by
    have : (w.length : Int) = (TS.length : Int) := by simpa using hc
    omega
   rw [if_neg (by simpa using hne)] at hR
   refine Wc.skip ?_
   refine gR fun K F => ?_; simp only [go_sem, nZ, hF, i64n j (by omega)]; apply F; clear F K
   refine ⟨9 - (j + 1), by omega, j + 1, cs ++ [w], r', rfl, ⟨by omega, by simp [hcs], fun u hu => ?_, by omega, ?_⟩, rfl, by simp only [Fs, nZ, go_sem, nZ, hF], by (try simp only [St.nx_put, St.nx_adv]); repeat (first | exact OA.mono ho (by omega) | refine OA.newB ?_ (by omega) rfl | refine OA.advB ?_)⟩
   ·rcases List.mem_append.1 hu with hu | hu
    ·exact hcw u hu
    ·rw [List.mem_singleton.1 hu]; exact hne
   ·rw [← hR, hm']
    cases clsR TS.length m r' <;> simp
  ·have hjl : j = 9 := by have := of_decide_eq_false hc; omega
   subst hjl
   refine Wc.exit ⟨cs, r, ⟨?_, hcs, hcw⟩, rfl, by simp only [Fs, nZ, go_sem, nZ, hF], by (try simp only [St.nx_put, St.nx_adv]); repeat (first | exact OA.mono ho (by omega) | refine OA.newB ?_ (by omega) rfl | refine OA.advB ?_)⟩
   rw [← hR]; simp [clsR]
 clear hF ho e s1 hR0
 rintro ⟨e, ds, s1⟩ ⟨cs, rf, ⟨rfl, hcs, hcw⟩, rfl, hF, ho⟩
 simp only [Fs] at hF ho
 simp only at hP
 have hMK : True := trivial
 refine Wc.seqA (fun y => ∃ xc G, GB xc (bksR TS cs) G ∧ y.ds = [] ∧ Fs y.e 142 [(1, .v (.c (.ref 0 0))), (2, .v (.c (.ref 1 0))), (4, P' (pI A)), (5, .v (.c (.ref k5 0))), (6, P' (pI B)), (7, P' (.lst TS.length (TS.map pI))), (8, .v (.c (.ref k8 0))), (9, .v (.c (.mt k9 0 9 1)))] ∧ OA y.s.nx y.s [] (G ++ (k9, .cells (cK cs) false) :: (k8, .cells [.p (.lst c.lb.length (c.lb.flatMap lbP)), .p (pI A), .p (pI B), xc] false) :: (k5, .cells (rdP rf) false) :: [(1, .cells [.nils, .p (pI 0), .p (pI 0), .nils] false), (0, .cells (c.pd.map .p) false)])) ?_ ?_
 ·refine gS fun K F => ?_; simp only [go_sem, nZ, hF]; apply F; clear F K
  refine Wc.block (Wc.loop (fun q y => ∃ (i : Nat) (xc : C) (G : List (Nat × Ob)), q = TS.length - i ∧ (i ≤ TS.length ∧ GB xc ((List.range i).map fun i => mkB (TS.getD i 0) (cs.map fun w => w.getD i 0)) G) ∧ y.ds = [] ∧ Fs y.e 142 [(1, .v (.c (.ref 0 0))), (2, .v (.c (.ref 1 0))), (4, P' (pI A)), (5, .v (.c (.ref k5 0))), (6, P' (pI B)), (7, P' (.lst TS.length (TS.map pI))), (8, .v (.c (.ref k8 0))), (9, .v (.c (.mt k9 0 9 1))), (11, P' (pI i))] ∧ OA y.s.nx y.s [] (G ++ (k9, .cells (cK cs) false) :: (k8, .cells [.p (.lst c.lb.length (c.lb.flatMap lbP)), .p (pI A), .p (pI B), xc] false) :: (k5, .cells (rdP rf) false) :: [(1, .cells [.nils, .p (pI 0), .p (pI 0), .nils] false), (0, .cells (c.pd.map .p) false)])) ?_ (k := TS.length) ⟨0, .nils, [], rfl, ⟨by omega, .inl ⟨rfl, rfl, rfl⟩⟩, rfl, by simp only [Fs, nZ, go_sem, nZ, hF], by (try simp only [St.nx_put, St.nx_adv]); repeat (first | exact OA.mono ho (by omega) | refine OA.newB ?_ (by omega) rfl | refine OA.advB ?_)⟩)
  clear hF ho e s1
  rintro q ⟨e, ds, s1⟩ ⟨i, xc, G, rfl, ⟨hi, hG⟩, rfl, hF, ho⟩
  simp only [Fs] at hF ho
  refine Wc.seq (Wc.seq ?_)
  refine gR fun K F => ?_; simp only [go_sem, nZ, hF]; apply F; clear F K
  refine Wc.cond (t := decide ((i : Int) < TS.length)) (by simp only [go_sem, nZ, hF]) (fun hc => ?_) (fun hc => ?_)
  ·have hil : i < TS.length := by have := of_decide_eq_true hc; omega
   refine Wc.skip (Wc.seq (Wc.block (Wc.seqA (fun y => ∃ fc, y.ds = [] ∧ Fs y.e 142 [(1, .v (.c (.ref 0 0))), (2, .v (.c (.ref 1 0))), (4, P' (pI A)), (5, .v (.c (.ref k5 0))), (6, P' (pI B)), (7, P' (.lst TS.length (TS.map pI))), (8, .v (.c (.ref k8 0))), (9, .v (.c (.mt k9 0 9 1))), (11, P' (pI i)), (12, .v (.c fc))] ∧ OA y.s.nx y.s [(1, .v (.c fc), 0, [])] (G ++ (k9, .cells (cK cs) false) :: (k8, .cells [.p (.lst c.lb.length (c.lb.flatMap lbP)), .p (pI A), .p (pI B), xc] false) :: (k5, .cells (rdP rf) false) :: [(1, .cells [.nils, .p (pI 0), .p (pI 0), .nils] false), (0, .cells (c.pd.map .p) false)])) ?_ ?_)))
   ·refine gR fun K F => ?_; simp only [go_sem, nZ, hF]; apply F; clear F K
    refine ⟨rfl, .own 0 [] (s1.nx + 4), rfl, by simp only [Fs, nZ, go_sem, nZ, hF], ?_⟩
    refine OA.mono (OA.front (k := s1.nx + 4) (es := 1) (n := 0) (cs := []) (OA.mono ho.adv.adv (Nat.le_add_right _ 4)) (Nat.le_refl _) rfl) (by simp only [St.nx_put, St.nx_adv]; omega)
   clear hF ho e s1
   rintro ⟨e, ds, s1⟩ ⟨fc, rfl, hF, ho⟩
   simp only [Fs] at hF ho
   refine Wc.seqA (fun y => ∃ fc, y.ds = [] ∧ Fs y.e 142 [(1, .v (.c (.ref 0 0))), (2, .v (.c (.ref 1 0))), (4, P' (pI A)), (5, .v (.c (.ref k5 0))), (6, P' (pI B)), (7, P' (.lst TS.length (TS.map pI))), (8, .v (.c (.ref k8 0))), (9, .v (.c (.mt k9 0 9 1))), (11, P' (pI i)), (12, .v (.c fc))] ∧ OA y.s.nx y.s [(1, .v (.c fc), (cs.map fun w => w.getD i 0).length, (cs.map fun w => w.getD i 0).map pI)] (G ++ (k9, .cells (cK cs) false) :: (k8, .cells [.p (.lst c.lb.length (c.lb.flatMap lbP)), .p (pI A), .p (pI B), xc] false) :: (k5, .cells (rdP rf) false) :: [(1, .cells [.nils, .p (pI 0), .p (pI 0), .nils] false), (0, .cells (c.pd.map .p) false)])) ?_ ?_
   ·refine gS fun K F => ?_; simp only [go_sem, nZ, hF]; apply F; clear F K
    refine Wc.block (Wc.loop (fun q y => ∃ (j : Nat) (fc : C), q = 9 - j ∧ j ≤ 9 ∧ y.ds = [] ∧ Fs y.e 142 [(1, .v (.c (.ref 0 0))), (2, .v (.c (.ref 1 0))), (4, P' (pI A)), (5, .v (.c (.ref k5 0))), (6, P' (pI B)), (7, P' (.lst TS.length (TS.map pI))), (8, .v (.c (.ref k8 0))), (9, .v (.c (.mt k9 0 9 1))), (11, P' (pI i)), (12, .v (.c fc)), (13, P' (pI j))] ∧ OA y.s.nx y.s [(1, .v (.c fc), ((cs.take j).map fun w => w.getD i 0).length, ((cs.take j).map fun w => w.getD i 0).map pI)] (G ++ (k9, .cells (cK cs) false) :: (k8, .cells [.p (.lst c.lb.length (c.lb.flatMap lbP)), .p (pI A), .p (pI B), xc] false) :: (k5, .cells (rdP rf) false) :: [(1, .cells [.nils, .p (pI 0), .p (pI 0), .nils] false), (0, .cells (c.pd.map .p) false)])) ?_ (k := 9) ⟨0, fc, rfl, by omega, rfl, by simp only [Fs, nZ, go_sem, nZ, hF], by (try simp only [St.nx_put, St.nx_adv]); repeat (first | exact OA.mono ho (by omega) | refine OA.newB ?_ (by omega) rfl | refine OA.advB ?_)⟩)
    clear hF ho e s1 fc
    rintro q ⟨e, ds, s1⟩ ⟨j, fc, rfl, hj, rfl, hF, ho⟩
    simp only [Fs] at hF ho
    refine Wc.seq (Wc.seq ?_)
    refine gR fun K F => ?_; simp only [go_sem, nZ, hF]; apply F; clear F K
    refine Wc.cond (t := decide ((j : Int) < 9)) (by simp only [go_sem, nZ, hF]) (fun hc => ?_) (fun hc => ?_)
    ·have hjl : j < 9 := by have := of_decide_eq_true hc; omega
     obtain ⟨w, hw⟩ : ∃ w, cs[j]? = some w := ⟨cs[j], List.getElem?_eq_getElem (by omega)⟩
     have hwl := hcw w (List.mem_of_getElem? hw)
     have hwi : w[i]? = some (w.getD i 0) := by
      rw [List.getD_eq_getElem?_getD, List.getElem?_eq_getElem (by omega)]; rfl
     have hi9 := ixM ti176 rfl ti175 (r := k9) (off := 0) (j := j) (m := 9) (es := 1) hjl rfl
     have hkl := cK_len (cs := cs) (by omega)
     have hwat := cK_at hw
     have hj0 : (j ≤ 9) = True := by simp; omega
     have hj1 : (j + 1 ≤ 9) = True := by simp; omega
     have hixw := ixA ti175 rfl ti3 (j := i) (m := w.length) (cs := w.map pI) (by omega) (by simp) (by decide)
     have hcaw := rpA (off := i) (drop_map pI hwi) (by simp; omega)
     have g9 := ho.at_ (k9, .cells (cK cs) false) (by simp)
     have e1 : ((cs.take j).map fun w => w.getD i 0) ++ [w.getD i 0] = (cs.take (j + 1)).map fun w => w.getD i 0 := by rw [take_snoc hw]; simp
     generalize w.getD i 0 = v at *
     refine Wc.skip (Wc.seq (Wc.block ?_))
     refine gR fun K F => ?_; simp only [go_sem, nZ, hF, g9, hi9, hkl, hj0, hj1, hwat, hixw, hcaw]
     refine OA.app1 (L1 := []) (L2 := []) (W := (cs.take j).map fun w => w.getD i 0) (v := v) (M := G ++ (k9, .cells (cK cs) false) :: (k8, .cells [.p (.lst c.lb.length (c.lb.flatMap lbP)), .p (pI A), .p (pI B), xc] false) :: (k5, .cells (rdP rf) false) :: [(1, .cells [.nils, .p (pI 0), .p (pI 0), .nils] false), (0, .cells (c.pd.map .p) false)]) ?_ (Nat.le_refl _) (by simp; omega) (by simp only [go_sem, nZ]) fun fc' s3 hs hnx => ?_
     ·exact by (try simp only [St.nx_put, St.nx_adv]); repeat (first | exact OA.mono ho (by omega) | refine OA.newB ?_ (by omega) rfl | refine OA.putB ?_ (by omega) | refine OA.advB ?_)
     simp only [go_sem, nZ, hF]; apply F; clear F K
     simp only [St.nx_put, St.nx_adv] at hnx
     refine gR fun K F => ?_; simp only [go_sem, nZ, hF, i64n j (by omega)]; apply F; clear F K
     rw [e1] at hs
     exact ⟨9 - (j + 1), by omega, j + 1, fc', rfl, by omega, rfl, by simp only [Fs, nZ, go_sem, nZ, hF], OA.mono hs.adv (by simp only [St.nx_adv]; omega)⟩
    ·have hjl : j = 9 := by have := of_decide_eq_false hc; omega
     subst hjl
     rw [List.take_of_length_le (by omega)] at ho
     exact Wc.exit ⟨rfl, fc, rfl, by simp only [Fs, nZ, go_sem, nZ, hF], by (try simp only [St.nx_put, St.nx_adv]); repeat (first | exact OA.mono ho (by omega) | refine OA.newB ?_ (by omega) rfl | refine OA.advB ?_)⟩
   clear hF ho e s1 fc
   rintro ⟨e, ds, s1⟩ ⟨fc, rfl, hF, ho⟩
   simp only [Fs] at hF ho
   have hFl : (cs.map fun w => w.getD i 0).length = 9 := by simp [hcs]
   obtain ⟨ts, hts⟩ : ∃ ts, TS[i]? = some ts := ⟨TS[i], List.getElem?_eq_getElem hil⟩
   have e1 : ((List.range (i + 1)).map fun i => mkB (TS.getD i 0) (cs.map fun w => w.getD i 0)) = ((List.range i).map fun i => mkB (TS.getD i 0) (cs.map fun w => w.getD i 0)) ++ [mkB ts (cs.map fun w => w.getD i 0)] := by
    rw [List.range_succ, List.map_append, List.map_cons, List.map_nil]
    have : TS.getD i 0 = ts := by rw [List.getD_eq_getElem?_getD, hts]; rfl
    rw [this]
   have hown := ho.own _ (List.mem_cons_self ..)
   generalize (cs.map fun w => w.getD i 0) = FV at hFl hown e1
   obtain ⟨f0, f1, f2, f3, f4, f5, f6, f7, f8, rfl⟩ : ∃ f0 f1 f2 f3 f4 f5 f6 f7 f8, FV = [f0, f1, f2, f3, f4, f5, f6, f7, f8] := by
    match FV, hFl with
    | [f0, f1, f2, f3, f4, f5, f6, f7, f8], _ => exact ⟨_, _, _, _, _, _, _, _, _, rfl⟩
   have hf0 : indexAddrD E0 175 (.v (.c fc)) (.v (.c (.p (.int .i64 0)))) = some (.v (.c (.rp [pI f0, pI f1, pI f2, pI f3, pI f4, pI f5, pI f6, pI f7, pI f8] 0))) := hown.ixI (W := [f0, f1, f2, f3, f4, f5, f6, f7, f8]) (j := 0) (by simp)
   have hk0 := rpA (off := 0) (cs := [pI f0, pI f1, pI f2, pI f3, pI f4, pI f5, pI f6, pI f7, pI f8]) (pre := [pI f0]) (rest := [pI f1, pI f2, pI f3, pI f4, pI f5, pI f6, pI f7, pI f8]) rfl (by simp)
   have hf1 : indexAddrD E0 175 (.v (.c fc)) (.v (.c (.p (.int .i64 1)))) = some (.v (.c (.rp [pI f0, pI f1, pI f2, pI f3, pI f4, pI f5, pI f6, pI f7, pI f8] 1))) := hown.ixI (W := [f0, f1, f2, f3, f4, f5, f6, f7, f8]) (j := 1) (by simp)
   have hk1 := rpA (off := 1) (cs := [pI f0, pI f1, pI f2, pI f3, pI f4, pI f5, pI f6, pI f7, pI f8]) (pre := [pI f1]) (rest := [pI f2, pI f3, pI f4, pI f5, pI f6, pI f7, pI f8]) rfl (by simp)
   have hf2 : indexAddrD E0 175 (.v (.c fc)) (.v (.c (.p (.int .i64 2)))) = some (.v (.c (.rp [pI f0, pI f1, pI f2, pI f3, pI f4, pI f5, pI f6, pI f7, pI f8] 2))) := hown.ixI (W := [f0, f1, f2, f3, f4, f5, f6, f7, f8]) (j := 2) (by simp)
   have hk2 := rpA (off := 2) (cs := [pI f0, pI f1, pI f2, pI f3, pI f4, pI f5, pI f6, pI f7, pI f8]) (pre := [pI f2]) (rest := [pI f3, pI f4, pI f5, pI f6, pI f7, pI f8]) rfl (by simp)
   have hf3 : indexAddrD E0 175 (.v (.c fc)) (.v (.c (.p (.int .i64 3)))) = some (.v (.c (.rp [pI f0, pI f1, pI f2, pI f3, pI f4, pI f5, pI f6, pI f7, pI f8] 3))) := hown.ixI (W := [f0, f1, f2, f3, f4, f5, f6, f7, f8]) (j := 3) (by simp)
   have hk3 := rpA (off := 3) (cs := [pI f0, pI f1, pI f2, pI f3, pI f4, pI f5, pI f6, pI f7, pI f8]) (pre := [pI f3]) (rest := [pI f4, pI f5, pI f6, pI f7, pI f8]) rfl (by simp)
   have hf4 : indexAddrD E0 175 (.v (.c fc)) (.v (.c (.p (.int .i64 4)))) = some (.v (.c (.rp [pI f0, pI f1, pI f2, pI f3, pI f4, pI f5, pI f6, pI f7, pI f8] 4))) := hown.ixI (W := [f0, f1, f2, f3, f4, f5, f6, f7, f8]) (j := 4) (by simp)
   have hk4 := rpA (off := 4) (cs := [pI f0, pI f1, pI f2, pI f3, pI f4, pI f5, pI f6, pI f7, pI f8]) (pre := [pI f4]) (rest := [pI f5, pI f6, pI f7, pI f8]) rfl (by simp)
   have hf5 : indexAddrD E0 175 (.v (.c fc)) (.v (.c (.p (.int .i64 5)))) = some (.v (.c (.rp [pI f0, pI f1, pI f2, pI f3, pI f4, pI f5, pI f6, pI f7, pI f8] 5))) := hown.ixI (W := [f0, f1, f2, f3, f4, f5, f6, f7, f8]) (j := 5) (by simp)
   have hk5 := rpA (off := 5) (cs := [pI f0, pI f1, pI f2, pI f3, pI f4, pI f5, pI f6, pI f7, pI f8]) (pre := [pI f5]) (rest := [pI f6, pI f7, pI f8]) rfl (by simp)
   have hf6 : indexAddrD E0 175 (.v (.c fc)) (.v (.c (.p (.int .i64 6)))) = some (.v (.c (.rp [pI f0, pI f1, pI f2, pI f3, pI f4, pI f5, pI f6, pI f7, pI f8] 6))) := hown.ixI (W := [f0, f1, f2, f3, f4, f5, f6, f7, f8]) (j := 6) (by simp)
   have hk6 := rpA (off := 6) (cs := [pI f0, pI f1, pI f2, pI f3, pI f4, pI f5, pI f6, pI f7, pI f8]) (pre := [pI f6]) (rest := [pI f7, pI f8]) rfl (by simp)
   have hf7 : indexAddrD E0 175 (.v (.c fc)) (.v (.c (.p (.int .i64 7)))) = some (.v (.c (.rp [pI f0, pI f1, pI f2, pI f3, pI f4, pI f5, pI f6, pI f7, pI f8] 7))) := hown.ixI (W := [f0, f1, f2, f3, f4, f5, f6, f7, f8]) (j := 7) (by simp)
   have hk7 := rpA (off := 7) (cs := [pI f0, pI f1, pI f2, pI f3, pI f4, pI f5, pI f6, pI f7, pI f8]) (pre := [pI f7]) (rest := [pI f8]) rfl (by simp)
   have hf8 : indexAddrD E0 175 (.v (.c fc)) (.v (.c (.p (.int .i64 8)))) = some (.v (.c (.rp [pI f0, pI f1, pI f2, pI f3, pI f4, pI f5, pI f6, pI f7, pI f8] 8))) := hown.ixI (W := [f0, f1, f2, f3, f4, f5, f6, f7, f8]) (j := 8) (by simp)
   have hk8 := rpA (off := 8) (cs := [pI f0, pI f1, pI f2, pI f3, pI f4, pI f5, pI f6, pI f7, pI f8]) (pre := [pI f8]) (rest := []) rfl (by simp)
   have hixs := ixA ti175 rfl ti3 (j := i) (m := TS.length) (cs := TS.map pI) hil (by simp) (by decide)
   have hcas := rpA (off := i) (drop_map pI hts) (by simp; omega)
   have hoM : OA s1.nx s1 [] _ := ho.sub (List.nil_sublist _) (List.Sublist.refl _)
   have g8 := ho.at_ (k8, .cells [.p (.lst c.lb.length (c.lb.flatMap lbP)), .p (pI A), .p (pI B), xc] false) (by simp)
   have hmk : mkB ts [f0, f1, f2, f3, f4, f5, f6, f7, f8] = ⟨IntKind.i64.wrap (ts - 1), f0, f1, f2, f3, f4, f5, f6, f7, f8⟩ := rfl
   rw [hmk] at e1
   refine Wc.regT fun K F => ?_; simp only [go_sem, nZ, hF, g8, hixs, hcas, hf0, hk0, hf1, hk1, hf2, hk2, hf3, hk3, hf4, hk4, hf5, hk5, hf6, hk6, hf7, hk7, hf8, hk8]
   refine GB.app (m := [⟨IntKind.i64.wrap (ts - 1), f0, f1, f2, f3, f4, f5, f6, f7, f8⟩]) (M := (k9, .cells (cK cs) false) :: (k8, .cells [.p (.lst c.lb.length (c.lb.flatMap lbP)), .p (pI A), .p (pI B), xc] false) :: (k5, .cells (rdP rf) false) :: [(1, .cells [.nils, .p (pI 0), .p (pI 0), .nils] false), (0, .cells (c.pd.map .p) false)]) (G := G) (L := []) ?_ hG (Nat.le_refl _) (by simp; omega) (by simp only [go_sem, nZ]; rfl) (by simp) fun x' G' s3 hs hnx hG' => ?_
   ·exact by (try simp only [St.nx_put, St.nx_adv]); repeat (first | exact OA.mono hoM (by omega) | refine OA.newB ?_ (by omega) rfl | refine OA.putB ?_ (by omega) | refine OA.advB ?_)
   have g8' := hs.at_ (k8, .cells [.p (.lst c.lb.length (c.lb.flatMap lbP)), .p (pI A), .p (pI B), xc] false) (by simp)
   simp only [go_sem, nZ, hF, g8']; refine ⟨by rw [trOK_eq3]; rfl, F _ _ ?_⟩; clear F K
   have h5 := OA.setAt (A := G') (B := [(k9, .cells (cK cs) false)]) (k := k8) (o' := .cells [.p (.lst c.lb.length (c.lb.flatMap lbP)), .p (pI A), .p (pI B), x'] false) (R := (k5, .cells (rdP rf) false) :: [(1, .cells [.nils, .p (pI 0), .p (pI 0), .nils] false), (0, .cells (c.pd.map .p) false)]) hs rfl
   simp only [St.nx_put, St.nx_adv] at hnx
   refine gR fun K F => ?_; simp only [go_sem, nZ, hF, i64n i (by omega)]; apply F; clear F K
   rw [← e1] at hG'
   exact ⟨TS.length - (i + 1), by omega, i + 1, x', G', rfl, ⟨by omega, hG'⟩, rfl, by simp only [Fs, nZ, go_sem, nZ, hF], OA.mono h5.adv (by simp only [St.nx_put, St.nx_adv]; omega)⟩
  ·have hil : i = TS.length := by have := of_decide_eq_false hc; omega
   subst hil
   exact Wc.exit ⟨rfl, xc, G, hG, rfl, by simp only [Fs, nZ, go_sem, nZ, hF], by (try simp only [St.nx_put, St.nx_adv]); repeat (first | exact OA.mono ho (by omega) | refine OA.newB ?_ (by omega) rfl | refine OA.advB ?_)⟩
 clear hF ho e s1 hMK
 rintro ⟨e, ds, s1⟩ ⟨xc, G, hG, rfl, hF, ho⟩
 simp only [Fs] at hF ho
 have rz : Rz ⟨c.lb, A, B, bksR TS cs⟩ := ⟨z.lb, z.ls, by simp [bksR]; omega⟩
 have p65 := pf65 _ rz
 have hX : (Rlp.mk c.lb A B (bksR TS cs)).lb = c.lb := rfl
 have g8 := ho.at_ (k8, .cells [.p (.lst c.lb.length (c.lb.flatMap lbP)), .p (pI A), .p (pI B), xc] false) (by simp)
 refine Wc.seq (Wc.seqA (fun y => ∃ k14 G' er CH, ((er ≠ 0 ∧ encLo ⟨c.lb, A, B, bksR TS cs⟩ = none) ∨ (er = 0 ∧ ∃ d', encLo ⟨c.lb, A, B, bksR TS cs⟩ = some d' ∧ CH = (Chk.mk 6 c.lb (rlpZ (bksR TS cs)).g d').pd.map .p)) ∧ GF xc (bksR TS cs) G' ∧ y.ds = [] ∧ Fs y.e 142 [(1, .v (.c (.ref 0 0))), (2, .v (.c (.ref 1 0))), (5, .v (.c (.ref k5 0))), (8, .v (.c (.ref k8 0))), (14, .v (.c (.ref k14 0))), (15, P' (pI er))] ∧ OA y.s.nx y.s [] ((k14, .cells CH false) :: (G' ++ (k9, .cells (cK cs) false) :: (k8, .cells [.p (.lst c.lb.length (c.lb.flatMap lbP)), .p (pI A), .p (pI B), xc] false) :: (k5, .cells (rdP rf) false) :: [(1, .cells [.nils, .p (pI 0), .p (pI 0), .nils] false), (0, .cells (c.pd.map .p) false)]))) ?_ ?_)
 ·have hoA := ho.adv (n := 8)
  obtain ⟨s', G', hpv, ho', hnx, hG'⟩ := hG.purF hoA c.lb A B
  refine gR fun K F => ?_; simp only [go_sem, nZ, hF, g8]
  refine wpCall.pf p65 (by kernel_rfl) (by kernel_rfl) rfl hpv ?_
  simp only [St.nx_adv] at hnx
  cases he : encLo ⟨c.lb, A, B, bksR TS cs⟩ with
  | none =>
   rw [encR_none he]
   have d1 : (if rlpOK ⟨c.lb, A, B, bksR TS cs⟩ = true then (4 : Int) else 1) ≠ 0 := by split <;> decide
   generalize (if rlpOK ⟨c.lb, A, B, bksR TS cs⟩ = true then (4 : Int) else 1) = er at *
   simp only [go_sem, nZ, hF]; apply F; clear F K
   exact ⟨rfl, s1.nx + 5, G', er, _, .inl ⟨d1, he⟩, hG', rfl, by simp only [Fs, nZ, go_sem, nZ, hF], by (try simp only [St.put_adv, St.adv_adv, St.put_put, St.nx_put, St.nx_adv]); repeat (first | exact OA.mono ho' (by omega) | refine OA.newB ?_ (by omega) rfl | refine OA.putB ?_ (by omega) | refine OA.advB ?_)⟩
  | some d' =>
   rw [encR_some he]
   simp only [go_sem, nZ, hF]; apply F; clear F K
   exact ⟨rfl, s1.nx + 5, G', 0, _, .inr ⟨rfl, d', he, rfl⟩, hG', rfl, by simp only [Fs, nZ, go_sem, nZ, hF], by (try simp only [St.put_adv, St.adv_adv, St.put_put, St.nx_put, St.nx_adv]); repeat (first | exact OA.mono ho' (by omega) | refine OA.newB ?_ (by omega) rfl | refine OA.putB ?_ (by omega) | refine OA.advB ?_)⟩
 clear hF ho g8 hG e s1 p65
 rintro ⟨e, ds, s1⟩ ⟨k14, G', er, CH, hcase, hG', rfl, hF, ho⟩
 simp only [Fs] at hF ho
 have g0 := ho.at_ (0, .cells (c.pd.map .p) false) (by simp)
 have g1 := ho.at_ (1, .cells [.nils, .p (pI 0), .p (pI 0), .nils] false) (by simp)
 have g5 := ho.at_ (k5, .cells (rdP rf) false) (by simp)
 have g8 := ho.at_ (k8, .cells [.p (.lst c.lb.length (c.lb.flatMap lbP)), .p (pI A), .p (pI B), xc] false) (by simp)
 have g14 := ho.at_ (k14, .cells CH false) (by simp)
 simp only [List.map_cons, List.map_nil] at g0
 subst hP
 simp only
 generalize bksR TS cs = BS at *
 obtain ⟨rs, rb'⟩ := rf
 simp only at g5 ⊢
 refine Wc.seq ?_
 cases rb' with
 | true =>
  rw [if_neg (by rintro ⟨h, _⟩; cases h)]
  refine gR fun K F => ?_; simp only [go_sem, nZ, hF, g5]; apply F; clear F K
  refine gT (by simp only [go_sem, nZ, hF]) ?_
  refine gS fun K F => ?_; simp only [go_sem, nZ, hF, g1]; apply F; clear F K
  exact Wc.ret (Pf.ret [.cell 2 31, .tmp 3] [.agg [.nils, .p (pI 0), .p (pI 0), .nils], .c (.p (pI 12))] rfl rfl (by simp only [resultsD, go_sem, nZ, hF]) rfl)
 | false =>
 rcases hcase with ⟨h0, he⟩ | ⟨rfl, d', he, rfl⟩
 ·have d1 : (er != 0) = true := by simpa using h0
  rw [if_neg (by rintro ⟨_, h, _⟩; rw [he] at h; cases h)]
  refine gR fun K F => ?_; simp only [go_sem, nZ, hF, g5, d1]; apply F; clear F K
  refine gT (by simp only [go_sem, nZ, hF, d1]) ?_
  refine gS fun K F => ?_; simp only [go_sem, nZ, hF, g1]; apply F; clear F K
  exact Wc.ret (Pf.ret [.cell 2 31, .tmp 3] [.agg [.nils, .p (pI 0), .p (pI 0), .nils], .c (.p (pI 12))] rfl rfl (by simp only [resultsD, go_sem, nZ, hF]) rfl)
 simp only [List.map_cons, List.map_nil] at g14
 have q133 := pf133g ⟨6, c.lb, (rlpZ BS).g, d'⟩ c hs.symm rfl (by have := z.lb; omega)
 simp only at q133
 by_cases hsame : d' = c.d ∧ (rlpZ BS).g = c.z
 ·have e0 : decide (d' = c.d ∧ (rlpZ BS).g = c.z) = true := by simpa using hsame
  rw [e0] at q133
  rw [if_pos ⟨rfl, by rw [he, hsame.1], hsame.2⟩]
  simp only [Option.isSome_some, Option.getD_some, if_true]
  refine gR fun K F => ?_; simp only [go_sem, nZ, hF, g0, g5, g14, b00]
  refine gP (q133) (by kernel_rfl) (by kernel_rfl) rfl rfl ?_
  simp only [go_sem, nZ, hF, b00]; apply F; clear F K
  refine gF (by simp only [go_sem, nZ, hF, b00]) ?_
  refine gS fun K F => ?_; simp only [go_sem, nZ, hF, g8, g1]; apply F; clear F K
  have ho2 : OA s1.nx s1 [] (G' ++ ([(k9, .cells (cK cs) false), (k8, .cells [.p (.lst c.lb.length (c.lb.flatMap lbP)), .p (pI A), .p (pI B), xc] false), (k5, .cells (rdP (rs, false)) false)] ++ (1, .cells [.nils, .p (pI 0), .p (pI 0), .nils] false) :: [(0, .cells (c.pd.map .p) false)])) := ho.sub (List.Sublist.refl _) (List.sublist_cons_self _ _)
  have h5 := fun n m => OA.setAt (A := G') (B := [(k9, .cells (cK cs) false), (k8, .cells [.p (.lst c.lb.length (c.lb.flatMap lbP)), .p (pI A), .p (pI B), xc] false), (k5, .cells (rdP (rs, false)) false)]) (k := 1) (o := .cells [.nils, .p (pI 0), .p (pI 0), .nils] false) (o' := .cells [.p (.lst c.lb.length (c.lb.flatMap lbP)), .p (pI A), .p (pI B), xc] false) (R := [(0, .cells (c.pd.map .p) false)]) (OA.adv (n := m) (OA.adv (n := n) ho2)) rfl
  exact Wc.ret (Pf.retF (G := G') [.cell 2 31, .tmp 3] rfl rfl (by simp only [resultsD, go_sem, nZ, hF]) (h5 _ _) hG')
 ·have e0 : decide (d' = c.d ∧ (rlpZ BS).g = c.z) = false := by simpa using hsame
  rw [e0] at q133
  rw [if_neg (by rintro ⟨_, h, h2⟩; rw [he] at h; cases h; exact hsame ⟨rfl, h2⟩)]
  refine gR fun K F => ?_; simp only [go_sem, nZ, hF, g0, g5, g14, b00]
  refine gP (q133) (by kernel_rfl) (by kernel_rfl) rfl rfl ?_
  simp only [go_sem, nZ, hF, b00]; apply F; clear F K
  refine gT (by simp only [go_sem, nZ, hF, b00]) ?_
  refine gS fun K F => ?_; simp only [go_sem, nZ, hF, g1]; apply F; clear F K
  exact Wc.ret (Pf.ret [.cell 2 31, .tmp 3] [.agg [.nils, .p (pI 0), .p (pI 0), .nils], .c (.p (pI 12))] rfl rfl (by simp only [resultsD, go_sem, nZ, hF]) rfl)
set_option maxHeartbeats 8000000
set_option maxRecDepth 10000
set_option linter.unusedSimpArgs false
set_option linter.unusedVariables false
theorem pf32 (x : RSet) (id : Int) (hl : x.rs.length < 2^20) (hz : ∀ r ∈ x.rs, Rz r) : Pf E0 32 [.agg (x.pd.map .p), .c (.p (pI id))] (resB (blkB x id) (blkE x id)) := by
 have hfl := fRl x.rs
 obtain ⟨d64, p64, er, rfl, her⟩ := pf64 x (by omega) hz
 generalize hE : blkE x id = V
 generalize hB : blkB x id = B
 unfold blkB at hB
 rw [hE] at hB
 unfold blkE at hE
 refine Pf.body (fn := Tryz.f32) (by kernel_rfl) rfl ?_; simp only [List.map_cons, List.map_nil, List.cons_append, List.nil_append, List.length_cons, List.length_nil, Tryz.ntmps32, List.replicate, Nat.reduceSub, Nat.reduceAdd]
 refine gS fun K F => ?_; simp only [go_sem, nZ]; apply F; clear F K
 refine Wc.seq (Wc.seq ?_)
 cases hok : setOK x with
 | false =>
  rw [hok, if_pos rfl] at hE
  subst hE
  rw [if_neg (by decide)] at hB
  subst hB
  have d0 : (er != 0) = true := by
   have : er ≠ 0 := fun h => by have := her.1 h; rw [hok] at this; cases this
   simpa using this
  refine gR fun K F => ?_; simp only [go_sem, nZ]
  refine gP (p64) (by kernel_rfl) (by kernel_rfl) rfl rfl ?_
  simp only [go_sem, nZ, d0]; apply F; clear F K
  refine gT (by simp only [go_sem, nZ, d0]) ?_
  refine gS fun K F => ?_; simp only [go_sem, nZ]; apply F; clear F K
  exact Wc.ret (Pf.ret [.cell 4 67, .tmp 5] [.agg [.p (pI 0), .p (pI 0), .p (pI 0), .nils], .c (.p (pI 1))] rfl rfl (by simp only [resultsD, go_sem, nZ]) rfl)
 | true =>
 rw [hok, if_neg (by decide)] at hE
 have d0 : (er != 0) = false := by
  have : er = 0 := her.2 hok
  simpa using this
 have hmem : ∀ r ∈ x.rs, r.w = x.w ∧ rlpOK r = true := by
  unfold setOK at hok
  rw [Bool.and_eq_true] at hok
  exact rsOK_mem hok.2
 refine gR fun K F => ?_; simp only [go_sem, nZ]
 refine gP (p64) (by kernel_rfl) (by kernel_rfl) rfl rfl ?_
 simp only [go_sem, nZ, d0]; apply F; clear F K
 refine gF (by simp only [go_sem, nZ, d0]) ?_
 refine Wc.seqA (fun y => ∃ k6 xc, y.ds = [] ∧ Fs y.e 54 [(2, .v (.c (.ref 0 0))), (4, .v (.c (.ref 1 0))), (6, .v (.c (.ref k6 0)))] ∧ OA y.s.nx y.s [(16, .v (.c xc), 0, [])] [(k6, .cells [.p (pI id), .p (pI x.w), .p (pI x.fr), xc] false), (1, .cells [.p (pI 0), .p (pI 0), .p (pI 0), .nils] false), (0, .cells (x.pd.map .p) false)]) ?_ ?_
 ·refine gR fun K F => ?_; simp only [go_sem, nZ]; apply F; clear F K
  exact ⟨rfl, 12, .nils, rfl, by simp only [Fs, nZ, go_sem, nZ], OA.nil (by (try simp only [St.put_adv, St.adv_adv, St.put_put, St.nx_put, St.nx_adv]); repeat (first | exact OA.mono s00_oa (by omega) | refine OA.newB ?_ (by omega) rfl | refine OA.putB ?_ (by omega) | refine OA.advB ?_))⟩
 rintro ⟨e, ds, s1⟩ ⟨k6, xc, rfl, hF, ho⟩
 simp only [Fs] at hF ho
 have hR0 : (encAll (x.rs.drop 0)).map ([] ++ ·) = encAll x.rs := by simp
 generalize encAll x.rs = R at hR0 hE hB
 refine Wc.seqR (fun y => ∃ k6 xc T, (R = some T ∧ T.length ≤ x.rs.length ∧ ∀ c ∈ T, Cz c) ∧ y.ds = [] ∧ Fs y.e 54 [(2, .v (.c (.ref 0 0))), (4, .v (.c (.ref 1 0))), (6, .v (.c (.ref k6 0)))] ∧ OA y.s.nx y.s [(16, .v (.c xc), T.length, T.flatMap Chk.pd)] [(k6, .cells [.p (pI id), .p (pI x.w), .p (pI x.fr), xc] false), (1, .cells [.p (pI 0), .p (pI 0), .p (pI 0), .nils] false), (0, .cells (x.pd.map .p) false)]) ?_ ?_
 ·refine gS fun K F => ?_; simp only [go_sem, nZ, hF]; apply F; clear F K
  refine Wc.block (Wc.loop (fun k y => ∃ (i k6 : Nat) (xc : C) (T : List Chk), k = x.rs.length - i ∧ (i ≤ x.rs.length ∧ T.length = i ∧ (∀ c ∈ T, Cz c) ∧ (encAll (x.rs.drop i)).map (T ++ ·) = R) ∧ y.ds = [] ∧ Fs y.e 54 [(2, .v (.c (.ref 0 0))), (4, .v (.c (.ref 1 0))), (6, .v (.c (.ref k6 0))), (7, P' (pI i))] ∧ OA y.s.nx y.s [(16, .v (.c xc), T.length, T.flatMap Chk.pd)] [(k6, .cells [.p (pI id), .p (pI x.w), .p (pI x.fr), xc] false), (1, .cells [.p (pI 0), .p (pI 0), .p (pI 0), .nils] false), (0, .cells (x.pd.map .p) false)]) ?_ (k := x.rs.length) ⟨0, k6, xc, [], rfl, ⟨by omega, rfl, fun c hc => (by cases hc), hR0⟩, rfl, by simp only [Fs, nZ, go_sem, nZ, hF], by (try simp only [St.nx_put, St.nx_adv]); repeat (first | exact OA.mono ho (by omega) | refine OA.newB ?_ (by omega) rfl | refine OA.advB ?_)⟩)
  clear hF ho e s1 hR0 xc k6
  rintro k ⟨e, ds, s1⟩ ⟨i, k6, xc, T, rfl, ⟨hi, hTl, hTz, hR⟩, rfl, hF, ho⟩
  simp only [Fs] at hF ho
  have g0 := ho.at_ (0, .cells (x.pd.map .p) false) (by simp)
  simp only [List.map_cons, List.map_nil] at g0
  refine Wc.seq (Wc.seq ?_)
  refine gR fun K F => ?_; simp only [go_sem, nZ, hF, g0]; apply F; clear F K
  refine Wc.cond (t := decide ((i : Int) < x.rs.length)) (by simp only [go_sem, nZ, hF]) (fun hc => ?_) (fun hc => ?_)
  ·have hil : i < x.rs.length := by have := of_decide_eq_true hc; omega
   obtain ⟨c, hcc⟩ : ∃ c, x.rs[i]? = some c := ⟨x.rs[i], List.getElem?_eq_getElem hil⟩
   have zc := hz c (List.mem_of_getElem? hcc)
   have okc := (hmem c (List.mem_of_getElem? hcc)).2
   have hR := encAll_step hcc hR
   have hix := ixA ti60 rfl ti31 (j := i) (m := x.rs.length) (cs := x.rs.flatMap Rlp.pd) hil hfl (by decide)
   have hca := rpRl hcc
   have p65 := pf65 c zc
   have g1 := ho.at_ (1, .cells [.p (pI 0), .p (pI 0), .p (pI 0), .nils] false) (by simp)
   refine Wc.skip (Wc.seq (Wc.block ?_))
   have hen : encCk c = (encLo c).map fun d => ⟨6, c.lb, (rlpZ c.bs).g, d⟩ := rfl
   cases he : encLo c with
   | none =>
    rw [he, Option.map_none] at hen
    rw [hen] at hR
    simp only at hR
    subst hR
    rw [encR_none he, okc, if_pos rfl] at p65
    simp only at hE
    subst hE
    rw [if_neg (by decide)] at hB
    subst hB
    refine gS fun K F => ?_; simp only [go_sem, nZ, hF, g0, hix, hca]
    refine gP (p65) (by kernel_rfl) (by kernel_rfl) rfl rfl ?_
    simp only [go_sem, nZ, hF]; apply F; clear F K
    refine Wc.seq (Wc.seq ?_)
    refine gR fun K F => ?_; simp only [go_sem, nZ, hF, b40]; apply F; clear F K
    refine gT (by simp only [go_sem, nZ, hF, b40]) ?_
    refine gS fun K F => ?_; simp only [go_sem, nZ, hF, g1]; apply F; clear F K
    exact Wc.ret (Pf.ret [.cell 4 67, .tmp 5] [.agg [.p (pI 0), .p (pI 0), .p (pI 0), .nils], .c (.p (pI 4))] rfl rfl (by simp only [resultsD, go_sem, nZ, hF]) rfl)
   | some d =>
   rw [he, Option.map_some] at hen
   have zck := encCk_z zc hen
   rw [hen] at hR
   simp only at hR
   rw [encR_some he] at p65
   refine Wc.seqA (fun y => ∃ k9, y.ds = [] ∧ Fs y.e 54 [(2, .v (.c (.ref 0 0))), (4, .v (.c (.ref 1 0))), (6, .v (.c (.ref k6 0))), (7, P' (pI i)), (8, .v (.c (.ref k9 0))), (9, P' (pI 0))] ∧ OA y.s.nx y.s [(16, .v (.c xc), T.length, T.flatMap Chk.pd)] ((k9, .cells ((Chk.mk 6 c.lb (rlpZ c.bs).g d).pd.map .p) false) :: [(k6, .cells [.p (pI id), .p (pI x.w), .p (pI x.fr), xc] false), (1, .cells [.p (pI 0), .p (pI 0), .p (pI 0), .nils] false), (0, .cells (x.pd.map .p) false)])) ?_ ?_
   ·refine gR fun K F => ?_; simp only [go_sem, nZ, hF, g0, hix, hca]
    refine gP (p65) (by kernel_rfl) (by kernel_rfl) rfl rfl ?_
    simp only [go_sem, nZ, hF]; apply F; clear F K
    exact ⟨rfl, s1.nx + 14, rfl, by simp only [Fs, nZ, go_sem, nZ, hF], by (try simp only [St.put_adv, St.adv_adv, St.put_put, St.nx_put, St.nx_adv]); repeat (first | exact OA.mono ho (by omega) | refine OA.newB ?_ (by omega) rfl | refine OA.putB ?_ (by omega) | refine OA.advB ?_)⟩
   generalize Chk.mk 6 c.lb (rlpZ c.bs).g d = ck at *
   clear hF ho g0 g1 e s1 p65 hen
   rintro ⟨e, ds, s1⟩ ⟨k9, rfl, hF, ho⟩
   simp only [Fs] at hF ho
   have g9 := ho.at_ (k9, .cells (ck.pd.map .p) false) (by simp)
   have g6 := ho.at_ (k6, .cells [.p (pI id), .p (pI x.w), .p (pI x.fr), xc] false) (by simp)
   simp only [List.map_cons, List.map_nil] at g9
   refine Wc.seq (Wc.seq ?_)
   refine gR fun K F => ?_; simp only [go_sem, nZ, hF, b00]; apply F; clear F K
   refine gF (by simp only [go_sem, nZ, hF, b00]) ?_
   refine gR fun K F => ?_; simp only [go_sem, nZ, hF, g6, g9]
   refine OA.app (L1 := []) (L2 := []) (by_ := 120) (n := T.length) (m := 1) (ys := ck.pd) (cs := T.flatMap Chk.pd) (b := s1.nx + 6) (M := (k9, .cells (ck.pd.map .p) false) :: [(k6, .cells [.p (pI id), .p (pI x.w), .p (pI x.fr), xc] false), (1, .cells [.p (pI 0), .p (pI 0), .p (pI 0), .nils] false), (0, .cells (x.pd.map .p) false)]) ?_ (Nat.le_refl _) ⟨_, ti65, rfl⟩ ti96 rfl rfl rfl (by decide) (by decide) (by simp only [go_sem, nZ]) rfl (by omega) fun x' s3 hs hnx => ?_
   ·exact by (try simp only [St.nx_put, St.nx_adv]); repeat (first | exact OA.mono ho (by omega) | refine OA.newB ?_ (by omega) rfl | refine OA.putB ?_ (by omega) | refine OA.advB ?_)
   obtain ⟨xc', rfl⟩ := (hs.own _ (List.mem_cons_self ..)).v
   have g6' := hs.at_ (k6, .cells [.p (pI id), .p (pI x.w), .p (pI x.fr), xc] false) (by simp)
   simp only [go_sem, nZ, hF, g6']; apply F; clear F K
   have h5 := OA.set (M1 := []) (o' := .cells [.p (pI id), .p (pI x.w), .p (pI x.fr), xc'] false) (OA.sub (M1 := [(k6, .cells [.p (pI id), .p (pI x.w), .p (pI x.fr), xc] false), (1, .cells [.p (pI 0), .p (pI 0), .p (pI 0), .nils] false), (0, .cells (x.pd.map .p) false)]) hs (List.Sublist.refl _) (List.sublist_cons_self _ _)) rfl
   simp only [St.nx_put, St.nx_adv] at hnx
   refine gR fun K F => ?_; simp only [go_sem, nZ, hF, i64n i (by omega)]; apply F; clear F K
   refine ⟨x.rs.length - (i + 1), by omega, i + 1, k6, xc', T ++ [ck], rfl, ⟨by omega, by simp [hTl], fun c hc => ?_, hR⟩, rfl, by simp only [Fs, nZ, go_sem, nZ, hF], ?_⟩
   ·rcases List.mem_append.1 hc with hc | hc
    ·exact hTz c hc
    ·rw [List.mem_singleton.1 hc]; exact zck
   ·have e1 : (T ++ [ck]).length = T.length + 1 := by simp
    have e2 : (T ++ [ck]).flatMap Chk.pd = T.flatMap Chk.pd ++ ck.pd := by simp
    rw [e1, e2]
    exact OA.mono h5.adv (by simp only [St.nx_put, St.nx_adv]; omega)
  ·have hil : i = x.rs.length := by have := of_decide_eq_false hc; omega
   rw [hil, List.drop_length] at hR
   refine Wc.exit ⟨k6, xc, T, ⟨?_, by omega, hTz⟩, rfl, by simp only [Fs, nZ, go_sem, nZ, hF], by (try simp only [St.nx_put, St.nx_adv]); repeat (first | exact OA.mono ho (by omega) | refine OA.newB ?_ (by omega) rfl | refine OA.advB ?_)⟩
   rw [← hR]; simp [encAll]
 clear hF ho e s1 hR0 xc k6
 rintro ⟨e, ds, s1⟩ ⟨k6, xc, T, ⟨rfl, hTl, hTz⟩, rfl, hF, ho⟩
 simp only [Fs] at hF ho
 simp only at hE hB
 have p63 := pf66 ⟨id, x.w, x.fr, T⟩ (by simp only; omega) hTz
 rw [hE] at p63
 have hpu := (ho.own _ (List.mem_cons_self ..)).purS
 have g6 := ho.at_ (k6, .cells [.p (pI id), .p (pI x.w), .p (pI x.fr), xc] false) (by simp)
 have g1 := ho.at_ (1, .cells [.p (pI 0), .p (pI 0), .p (pI 0), .nils] false) (by simp)
 refine Wc.seq (Wc.seq ?_)
 refine gR fun K F => ?_; simp only [go_sem, nZ, hF, g6]
 refine wpCall.pf p63 (by kernel_rfl) (by kernel_rfl) rfl (purVs_blk hpu _) ?_
 simp only [go_sem, nZ, hF]; apply F; clear F K
 refine gS fun K F => ?_; simp only [go_sem, nZ, hF]; apply F; clear F K
 refine Wc.cond (t := V != 0) (by simp only [go_sem, nZ, hF]) (fun hc => ?_) (fun hc => ?_)
 ·rw [if_neg (by simpa using hc)] at hB
  subst hB
  refine gS fun K F => ?_; simp only [go_sem, nZ, hF, g1]; apply F; clear F K
  exact Wc.ret (Pf.ret [.cell 4 67, .tmp 5] [.agg [.p (pI 0), .p (pI 0), .p (pI 0), .nils], .c (.p (pI V))] rfl rfl (by simp only [resultsD, go_sem, nZ, hF]) rfl)
 have h0 : V = 0 := by simpa using hc
 subst h0
 rw [if_pos rfl] at hB
 subst hB
 refine Wc.skip (Wc.seq ?_)
 refine gR fun K F => ?_; simp only [go_sem, nZ, hF, g6, g1]; apply F; clear F K
 exact Wc.ret (Pf.ret [.cell 4 67, .tmp 5] [.agg [.p (pI id), .p (pI x.w), .p (pI x.fr), xc], .c (.p (pI 0))] rfl rfl (by simp only [resultsD, go_sem, nZ, hF]) (by simp only [packD, purD, purVs, purV, purCs, purC_S hpu, purC_p]; rfl))
end Go.Proofs.YtedcnhbblgmdnaaGreat.Ab
