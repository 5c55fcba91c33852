/- A part of the proof. -/
import Derived.Test.YtedcnhbblgmdnaaGreatT26
namespace Go.Proofs.YtedcnhbblgmdnaaGreat.Ab
set_option maxHeartbeats 8000000
set_option maxRecDepth 10000
set_option linter.unusedSimpArgs false
set_option linter.unusedVariables false
theorem pf200 (s : List UInt8) : Pf E0 200 [.c (.p (.str s))] (.tup [.c (.p (pI (rdV s).1)), .c (.p (pI (rdV s).2.1)), .c (.p (.int .i64 (rdV s).2.2))]) := by
 have hb := rdB_le s 0 0 (by omega) (by decide)
 have p := pf239 s
 unfold rdV
 generalize rdB 0 0 s = r at hb p
 obtain ⟨n, k, er⟩ := r
 simp only at hb p ⊢
 refine Pf.body (fn := Tryz.f200) (by kernel_rfl) rfl ?_; simp only [List.map_cons, List.map_nil, List.cons_append, List.nil_append, List.length_cons, List.length_nil, Tryz.ntmps200, List.replicate, Nat.reduceSub, Nat.reduceAdd]
 refine gS fun K F => ?_; simp only [go_sem]; apply F; clear F K
 refine gS fun K F => ?_; simp only [go_sem]
 refine wpCall.pf p (by kernel_rfl) (by kernel_rfl) rfl rfl ?_
 simp only [go_sem]; apply F; clear F K
 refine Wc.seq (Wc.seq ?_)
 refine gR fun K F => ?_; simp only [go_sem]; apply F; clear F K
 refine Wc.cond (t := (er != 0)) (by simp only [go_sem]) (fun hc => ?_) (fun hc => ?_)
 ·have h : er ≠ 0 := by simpa using hc
  rw [if_pos h]
  refine gS fun K F => ?_; simp only [go_sem]; apply F; clear F K
  exact Wc.ret (Pf.ret [.tmp 2, .tmp 3, .tmp 4] [.c (.p (pI 0)), .c (.p (pI 0)), .c (.p (pI er))] rfl rfl (by simp only [resultsD, go_sem]) rfl)
 have h : ¬ er ≠ 0 := by simpa using hc
 rw [if_neg h]
 refine Wc.skip (Wc.seq (Wc.seq ?_))
 refine gR fun K F => ?_; simp only [go_sem]; apply F; clear F K
 refine Wc.cond (t := decide ((1152921504606846976 : Int) < n)) (by simp only [go_sem]) (fun hc => ?_) (fun hc => ?_)
 ·have h2 : 1152921504606846976 < n := by have : (1152921504606846976 : Int) < n := by simpa using hc
                                          omega
  rw [if_pos h2]
  refine gS fun K F => ?_; simp only [go_sem]; apply F; clear F K
  exact Wc.ret (Pf.ret [.tmp 2, .tmp 3, .tmp 4] [.c (.p (pI 0)), .c (.p (pI 0)), .c (.p (pI 12))] rfl rfl (by simp only [resultsD, go_sem]) rfl)
 have h2 : ¬ 1152921504606846976 < n := by have : ¬ (1152921504606846976 : Int) < n := by simpa using hc
                                           omega
 rw [if_neg h2]
 have w : IntKind.i64.wrap (n : Int) = n := by rw [wi64]; omega
 refine Wc.skip (Wc.seq ?_)
 refine gR fun K F => ?_; simp only [go_sem, w]; apply F; clear F K
 exact Wc.ret (Pf.ret [.tmp 2, .tmp 3, .tmp 4] [.c (.p (pI n)), .c (.p (pI k)), .c (.p (pI 0))] rfl rfl (by simp only [resultsD, go_sem]) rfl)
theorem pf285 (s : List UInt8) : Pf E0 285 [.c (.p (.str s))] (.tup [.c (.p (pI (rdS s).1)), .c (.p (pI (rdS s).2.1)), .c (.p (.int .i64 (rdS s).2.2))]) := by
 have hb := rdB_le s 0 0 (by omega) (by decide)
 have p := pf239 s
 unfold rdS
 generalize rdB 0 0 s = r at hb p
 obtain ⟨n, k, er⟩ := r
 simp only at hb p ⊢
 refine Pf.body (fn := Tryz.f285) (by kernel_rfl) rfl ?_; simp only [List.map_cons, List.map_nil, List.cons_append, List.nil_append, List.length_cons, List.length_nil, Tryz.ntmps285, List.replicate, Nat.reduceSub, Nat.reduceAdd]
 refine gS fun K F => ?_; simp only [go_sem]; apply F; clear F K
 refine gS fun K F => ?_; simp only [go_sem]
 refine wpCall.pf p (by kernel_rfl) (by kernel_rfl) rfl rfl ?_
 simp only [go_sem]; apply F; clear F K
 refine Wc.seq (Wc.seq ?_)
 refine gR fun K F => ?_; simp only [go_sem]; apply F; clear F K
 refine Wc.cond (t := (er != 0)) (by simp only [go_sem]) (fun hc => ?_) (fun hc => ?_)
 ·have h : er ≠ 0 := by simpa using hc
  rw [if_pos h]
  refine gS fun K F => ?_; simp only [go_sem]; apply F; clear F K
  exact Wc.ret (Pf.ret [.tmp 2, .tmp 3, .tmp 4] [.c (.p (pI 0)), .c (.p (pI 0)), .c (.p (pI er))] rfl rfl (by simp only [resultsD, go_sem]) rfl)
 have h : ¬ er ≠ 0 := by simpa using hc
 rw [if_neg h]
 refine Wc.skip (Wc.seq ?_)
 refine gR fun K F => ?_; simp only [go_sem]
 refine gP (pf295 n hb.2.2.1) (by kernel_rfl) (by kernel_rfl) rfl rfl ?_
 simp only [go_sem]; apply F; clear F K
 refine Wc.seq (Wc.seq ?_)
 refine gR fun K F => ?_; simp only [go_sem]
 refine gP (pf256 (unf n)) (by kernel_rfl) (by kernel_rfl) rfl rfl ?_
 simp only [go_sem]; apply F; clear F K
 refine Wc.cond (t := !(inR (unf n))) (by simp only [go_sem]) (fun hc => ?_) (fun hc => ?_)
 ·have h2 : inR (unf n) = false := by simpa using hc
  rw [if_pos h2]
  refine gS fun K F => ?_; simp only [go_sem]; apply F; clear F K
  exact Wc.ret (Pf.ret [.tmp 2, .tmp 3, .tmp 4] [.c (.p (pI 0)), .c (.p (pI 0)), .c (.p (pI 12))] rfl rfl (by simp only [resultsD, go_sem]) rfl)
 have h2 : ¬ inR (unf n) = false := by simpa using hc
 rw [if_neg h2]
 refine Wc.skip (Wc.seq ?_)
 refine gR fun K F => ?_; simp only [go_sem]; apply F; clear F K
 exact Wc.ret (Pf.ret [.tmp 2, .tmp 3, .tmp 4] [.c (.p (pI (unf n))), .c (.p (pI k)), .c (.p (pI 0))] rfl rfl (by simp only [resultsD, go_sem]) rfl)
abbrev badP (u : List UInt8) : Prop := (rdV u).2.2 ≠ 0 ∨ ((u.length - (rdV u).2.1 : Nat) : Int) < (rdV u).1
theorem iter265 {r : Nat} {frz : Bool} {t : List UInt8} (ht : t.length < 2^60) : IterG 265 [.ref r 0] (fun s => s.get r = some (.cells [.p (.str t)] frz))
  (fun i k a => i < t.length ∧ ((¬ badP (t.drop i) ∧ k = i + ((rdV (t.drop i)).2.1 + (rdV (t.drop i)).1.toNat) ∧ k ≤ t.length ∧ a = [.c (.p (.str (((t.drop i).drop (rdV (t.drop i)).2.1).take (rdV (t.drop i)).1.toNat))), .c (.p (.bool true))]) ∨
   (badP (t.drop i) ∧ k = t.length + 1 ∧ a = [.c (.p (.str [])), .c (.p (.bool false))])))
  (fun i => i = t.length ∨ i = t.length + 1) := by
 refine ⟨Tryz.f265, _, by kernel_rfl, rfl, fun l J Z hJ hJ2 hZ hcap hy s h0 Q hQ hQZ => ?_⟩
 simp only [List.map_cons, List.map_nil, List.cons_append, List.nil_append, List.length_cons, List.length_nil, Tryz.ntmps265, List.replicate, Nat.reduceSub, Nat.reduceAdd]
 have hg := hcap _ _ h0
 refine gS fun K F => ?_; simp only [go_sem, hg]; apply F; clear F K
 refine Wc.block (Wc.loop (fun k y => ∃ (i : Nat), k = t.length - i ∧ i ≤ t.length ∧ y.ds = [] ∧ Fs y.e 42 [(0, .v (.c (.fn (.yield l) [] []))), (3, P' (.str (t.drop i)))] ∧ J i y.s) ?_ (k := t.length) ?_)
 ·rintro k ⟨e, ds, s1⟩ ⟨i, rfl, hil, rfl, hF, hj⟩
  simp only [Fs] at hF hj
  refine Wc.seq (Wc.seq ?_)
  refine gR fun K F => ?_; simp only [go_sem, hF]; apply F; clear F K
  refine Wc.cond (t := !(t.drop i == [])) (by simp only [go_sem, hF]) (fun hc => ?_) (fun hc => ?_)
  ·have hlt : i < t.length := by
    rcases Nat.lt_or_ge i t.length with h | h
    ·exact h
    ·rw [List.drop_of_length_le h] at hc; cases hc
   have hul : (t.drop i).length = t.length - i := List.length_drop ..
   generalize hu : t.drop i = u at *
   obtain ⟨b1, b2, b3, b4⟩ := rdV_le u
   obtain ⟨m, hm⟩ : ∃ m : Nat, (rdV u).1 = (m : Int) := ⟨(rdV u).1.toNat, by omega⟩
   have p78 := pf200 u
   have hst := hy i
   dsimp only [badP] at hst
   rw [hu, hm] at hst
   simp only [Int.toNat_natCast] at hst
   rw [hm] at p78
   generalize (rdV u).2.1 = sz at *
   generalize (rdV u).2.2 = er at *
   refine Wc.skip (Wc.block (Wc.seq ?_))
   refine gR fun K F => ?_; simp only [go_sem, hF]
   refine wpCall.pf p78 (by kernel_rfl) (by kernel_rfl) rfl rfl ?_
   simp only [go_sem, hF]; apply F; clear F K
   have w1 : IntKind.i64.wrap ((u.length : Int) - (sz : Int)) = ((u.length - sz : Nat) : Int) := by rw [wi64]; omega
   refine Wc.seqR (fun y => (er = 0 ∧ m ≤ u.length - sz) ∧ y.ds = [] ∧ Fs y.e 42 [(0, .v (.c (.fn (.yield l) [] []))), (3, P' (.str u)), (4, P' (pI m)), (5, P' (pI sz))] ∧ y.s = ((s1.adv 2).adv 9).adv 10) ?_ ?_
   ·refine Wc.seq ?_
    by_cases he : er = 0
    ·have d1 : (er != 0) = false := by simpa using he
     refine gR fun K F => ?_; simp only [go_sem, hF, d1, w1]; apply F; clear F K
     refine Wc.cond (t := decide (((u.length - sz : Nat) : Int) < (m : Int))) (by simp only [go_sem, hF]) (fun hc => ?_) (fun hc => ?_)
     ·have hbad : ((u.length - sz : Nat) : Int) < (m : Int) := of_decide_eq_true hc
      refine gS fun K F => ?_; simp only [go_sem, hF]
      obtain ⟨n, d, s2, hc1, hd⟩ := hst (t.length + 1) _ _ (hJ _ _ 2 (hJ _ _ 10 (hJ _ _ 9 (hJ _ _ 2 hj)))) ⟨hlt, .inr ⟨.inr hbad, rfl, rfl⟩⟩
      refine ⟨n, _, s2, hc1, ?_⟩
      rcases hd with ⟨rfl, hj2⟩ | ⟨rfl, hz⟩
      ·simp only [go_sem, hF]; apply F; clear F K
       exact Wc.ret (show bodyQ E0 Tryz.f265 Q .ret _ from bodyQ.ret (vs := []) rfl rfl (hQ _ _ (t.length + 1) (.inr rfl) hj2))
      ·simp only [go_sem, hF]; apply F; clear F K
       exact Wc.ret (show bodyQ E0 Tryz.f265 Q .ret _ from bodyQ.ret (vs := []) rfl rfl (hQZ _ _ hz))
     ·have hbad : ¬ ((u.length - sz : Nat) : Int) < (m : Int) := of_decide_eq_false hc
      exact Wc.skip ⟨⟨he, by omega⟩, rfl, by simp only [Fs, nZ, go_sem, hF], rfl⟩
    ·have d1 : (er != 0) = true := by simpa using he
     refine gR fun K F => ?_; simp only [go_sem, hF, d1]; apply F; clear F K
     refine gT (by simp only [go_sem, hF]) ?_
     refine gS fun K F => ?_; simp only [go_sem, hF]
     obtain ⟨n, d, s2, hc1, hd⟩ := hst (t.length + 1) _ _ (hJ _ _ 2 (hJ _ _ 10 (hJ _ _ 9 (hJ _ _ 2 hj)))) ⟨hlt, .inr ⟨.inl he, rfl, rfl⟩⟩
     refine ⟨n, _, s2, hc1, ?_⟩
     rcases hd with ⟨rfl, hj2⟩ | ⟨rfl, hz⟩
     ·simp only [go_sem, hF]; apply F; clear F K
      exact Wc.ret (show bodyQ E0 Tryz.f265 Q .ret _ from bodyQ.ret (vs := []) rfl rfl (hQ _ _ (t.length + 1) (.inr rfl) hj2))
     ·simp only [go_sem, hF]; apply F; clear F K
      exact Wc.ret (show bodyQ E0 Tryz.f265 Q .ret _ from bodyQ.ret (vs := []) rfl rfl (hQZ _ _ hz))
   ·clear hF e
    rintro ⟨e, ds, s3⟩ ⟨⟨he, hmu⟩, rfl, hF, rfl⟩
    simp only [Fs] at hF
    have w2 : IntKind.i64.wrap ((sz : Int) + (m : Int)) = ((sz + m : Nat) : Int) := by rw [wi64]; omega
    have c1 : ((sz : Int) ≤ ((sz + m : Nat) : Int)) = True := by simp; omega
    have c2 : (((sz + m : Nat) : Int) ≤ (u.length : Int)) = True := by simp; omega
    have c3 : sz + m - sz = m := by omega
    have c4 : u.length - (sz + m) = (u.drop (sz + m)).length := by simp
    refine Wc.seq (Wc.seq ?_)
    refine gR fun K F => ?_; simp only [go_sem, hF, w2, c1, c2, c3]
    obtain ⟨n, d, s2, hc1, hd⟩ := hst (i + (sz + m)) _ _ (hJ _ _ 9 (hJ _ _ 10 (hJ _ _ 9 (hJ _ _ 2 hj)))) ⟨hlt, .inl ⟨by rintro (h | h); exact h he; omega, rfl, by omega, rfl⟩⟩
    refine ⟨n, _, s2, hc1, ?_⟩
    rcases hd with ⟨rfl, hj2⟩ | ⟨rfl, hz⟩
    ·simp only [go_sem, hF]; apply F; clear F K
     refine gF (by simp only [go_sem, hF]) ?_
     refine gR fun K F => ?_; simp only [go_sem, hF, w2, c2, c4, List.take_length, Int.le_refl]; apply F; clear F K
     refine ⟨t.length - (i + (sz + m)), ?_, i + (sz + m), rfl, by omega, rfl, ?_, hJ _ _ _ hj2⟩
     ·have := b4 he; omega
     ·rw [show t.drop (i + (sz + m)) = u.drop (sz + m) by rw [← hu, List.drop_drop]]
      exact by simp only [Fs, nZ, go_sem, hF]
    ·simp only [go_sem, hF]; apply F; clear F K
     refine gT (by simp only [go_sem, hF]) ?_
     exact Wc.ret (show bodyQ E0 Tryz.f265 Q .ret _ from bodyQ.ret (vs := []) rfl rfl (hQZ _ _ hz))
  ·have hge : i = t.length := by
    rcases Nat.lt_or_ge i t.length with h | h
    ·have : t.drop i ≠ [] := fun e => by have := congrArg List.length e; rw [List.length_drop, List.length_nil] at this; omega
     simp [this] at hc
    ·omega
   exact Wc.exit (bodyQ.normal (vs := []) rfl rfl (hQ _ _ i (.inl hge) (hJ _ _ _ hj)))
 ·exact ⟨0, rfl, by omega, rfl, by simp only [Fs, nZ, go_sem], hJ _ _ _ h0⟩
theorem call240 {s : St} {L : List (Nat × D × Nat × List Pd)} {M : List (Nat × Ob)} {t : List UInt8} {K : D → St → Prop} (h : OA s.nx s L M)
  (F : ∀ s', OA s'.nx s' L ((s.nx, .cells [.p (.str t)] false) :: M) → s.nx < s'.nx → K (.v (.c (.fn (.func 265) [] [.ref s.nx 0]))) s') : wpCall E0 (.v (.c (.p (.fnc 240)))) [.v (.c (.p (.str t)))] s K := by
 refine wpCall.opn (fn := Tryz.f240) (by kernel_rfl) (by kernel_rfl) rfl (by kernel_rfl) rfl ?_; simp only [List.map_cons, List.map_nil, List.cons_append, List.nil_append, List.length_cons, List.length_nil, Tryz.ntmps240, List.replicate, Nat.reduceSub, Nat.reduceAdd]
 refine gS fun K F => ?_; simp only [go_sem]; apply F; clear F K
 refine gS fun K F => ?_; simp only [go_sem]; apply F; clear F K
 refine Wc.ret (Op.ret [.tmp 2] [.c (.fn (.func 265) [] [.ref s.nx 0])] rfl rfl (by simp only [resultsD, go_sem]) (F _ ?_ ?_))
 ·exact by (try simp only [St.nx_put, St.nx_adv]); repeat (first | exact OA.mono h (by omega) | refine OA.newB ?_ (by omega) rfl | refine OA.advB ?_)
 ·simp only [St.nx_adv, St.nx_put]; omega
theorem Pf.bodyE {E : Env} {g : Nat} {fn : Func} {c : Code} {args : List V} {P : D → Prop} (hf : E.fn g = some fn) (hb : fn.body = some c)
  (h : Wc E none c { e := args.map .v ++ List.replicate (fn.ntmps - args.length) (.tup []), ds := [], s := { ob := [], nx := 0 } } (bodyQ E fn fun d0 s2 => ∃ d s3, purD s2 d0 = some (d, s3) ∧ P d)) : ∃ d, Pf E g args d ∧ P d := by
 obtain ⟨n, d0, s2, h1, d, s3, h2, h3⟩ := Ev.body hf hb h
 exact ⟨d, ⟨n, d0, s2, s3, h1, h2⟩, h3⟩
theorem Pf.retE {E : Env} {fn : Func} {x : Fr} {d : D} {s3 : St} {P : D → Prop} (rs : List ResultVar) (vs : List V) (hd : x.ds = []) (hrs : fn.results.toList = rs) (hr : resultsD E x.e x.s rs = some vs) (hp : purD x.s (packD vs) = some (d, s3)) (hP : P d) :
  bodyQ E fn (fun d0 s2 => ∃ d s3, purD s2 d0 = some (d, s3) ∧ P d) .ret x := by
 subst hrs
 exact ⟨x.s, vs, by rw [hd]; rfl, hr, d, s3, hp, hP⟩
theorem Pf.ret1E {E : Env} {fn : Func} {x : Fr} {d : D} {s3 : St} {k : Nat} {P : D → Prop} (rs : List ResultVar) (vs : List V) (hd : x.ds = [k]) (hg : x.s.get k = some .defr) (hrs : fn.results.toList = rs) (hr : resultsD E x.e (x.s.put k .dead) rs = some vs) (hp : purD (x.s.put k .dead) (packD vs) = some (d, s3)) (hP : P d) :
  bodyQ E fn (fun d0 s2 => ∃ d s3, purD s2 d0 = some (d, s3) ∧ P d) .ret x := by
 subst hrs
 exact ⟨_, vs, by rw [hd]; simp only [killAll, hg], hr, d, s3, hp, hP⟩
theorem purD_cb {S : St} {c : C} {y x : Pd} (h : purVs S [.c c] = some ([.c (.p y)], S)) : purD S (packD [.c c, .c (.p x)]) = some (.tup [.c (.p y), .c (.p x)], S) := by simp only [packD, purD, purVs_cp h]
theorem splitN_bad {u : List UInt8} (hu : u ≠ []) (hb : badP u) : ∀ n, splitN n u = none
 | 0 => by rw [splitN, if_neg hu]
 | n + 1 => by rw [splitN, if_neg hu, if_pos hb]
theorem drop_ne {t : List UInt8} {i : Nat} (h : i < t.length) : t.drop i ≠ [] := fun e => by
 have := congrArg List.length e
 rw [List.length_drop, List.length_nil] at this
 omega
theorem pf201 (t : List UInt8) (c : Nat) (ht : t.length < 2^60) (hc40 : c < 2^40) :
  ∃ d, Pf E0 201 [.c (.p (.str t)), .c (.p (pI c))] d ∧ ∃ l : List (List UInt8), d = .tup [.c (.p (.lst l.length (l.map .str))), .c (.p (.bool (splitN c t).isSome))] ∧ ∀ ss, splitN c t = some ss → l = ss := by
 refine Pf.bodyE (fn := Tryz.f201) (by kernel_rfl) rfl ?_; simp only [List.map_cons, List.map_nil, List.cons_append, List.nil_append, List.length_cons, List.length_nil, Tryz.ntmps201, List.replicate, Nat.reduceSub, Nat.reduceAdd]
 refine gS fun K F => ?_; simp only [go_sem]; apply F; clear F K
 refine Wc.seqA (fun y => y.ds = [] ∧ Fs y.e 30 [(0, P' (.str t)), (3, .v (.c (.ref 0 0))), (4, .v (.c (.ref 1 0))), (5, .v (.c (.ref 2 0))), (6, .v (.c (.ref 3 0)))] ∧ OA y.s.nx y.s [(1, .v (.c .nils), 0, [])] [(3, .cells [.nils] false), (2, .cells [.p (.bool false)] false), (1, .cells [.nils] false), (0, .cells [.p (pI c)] false)]) ?_ ?_
 ·refine gR fun K F => ?_; simp only [go_sem]; apply F; clear F K
  exact ⟨rfl, rfl, by simp only [Fs, nZ, go_sem], OA.nil (by (try simp only [St.nx_put, St.nx_adv]); repeat (first | exact OA.mono s00_oa (by omega) | refine OA.newB ?_ (by omega) rfl | refine OA.advB ?_))⟩
 rintro ⟨e, ds, s1⟩ ⟨rfl, hF, ho⟩
 simp only [Fs] at hF ho
 refine Wc.seq (Wc.seq ?_)
 refine gR fun K F => ?_; simp only [go_sem, hF]
 refine call240 (ho.adv.mono (by simp only [St.nx_adv]; omega)) fun s2 ho2 hnx => ?_
 simp only [St.nx_adv] at ho2 hnx
 simp only [go_sem, hF]; apply F; clear F K
 refine Wc.block ?_
 have hk0 : (s2.nx + 1 = 0) = False := by simp
 have hk1 : (s2.nx + 1 = 1) = False := by simp; omega
 have hk2 : (s2.nx + 1 = 2) = False := by simp; omega
 have hk3 : (s2.nx + 1 = 3) = False := by simp; omega
 refine Wc.iterG (iter265 (r := s1.nx + 2) (frz := false) (t := t) ht)
  (fun i L M => ∃ (ss : List (List UInt8)) (c6 : C), L = [(1, .v (.c c6), ss.length, ss.map .str)] ∧ M = [(s1.nx + 2, .cells [.p (.str t)] false), (3, .cells [c6] false), (2, .cells [.p (.bool false)] false), (1, .cells [.nils] false), (0, .cells [.p (pI c)] false)] ∧ i ≤ t.length ∧ ss.length ≤ c ∧ splitN c t = (splitN (c - ss.length) (t.drop i)).map (ss ++ ·))
  (fun ex L M => ex = .ret ∧ splitN c t = none ∧ ∃ (c6 : C), M = [(s1.nx + 2, .cells [.p (.str t)] false), (3, .cells [c6] false), (2, .cells [.p (.bool false)] false), (1, .cells [.nils] false), (0, .cells [.p (pI c)] false)])
  (by simp only [go_sem, hF]) ho2 ⟨[], .nils, rfl, rfl, by omega, by simp, by simp⟩ ?_ ?_ ?_ ?_ ?_
 ·rintro i L M s ⟨ss, c6, rfl, rfl, _⟩ hM
  exact hM (_, _) (List.mem_cons_self ..)
 ·rintro i k a ⟨_, ⟨_, _, _, rfl⟩ | ⟨_, _, rfl⟩⟩ <;> rfl
 ·rintro i k aa lp s L M ⟨hlt, hstep⟩ ⟨ss, c6, rfl, rfl, hil, hssc, hsp⟩ hos
  have hne := drop_ne hlt
  have hend : ∀ (x : St) (lq : LoopR), OA x.nx x [(1, .v (.c c6), ss.length, ss.map .str)] [(s2.nx, .loop lq), (s2.nx + 1, .defr), (s1.nx + 2, .cells [.p (.str t)] false), (3, .cells [c6] false), (2, .cells [.p (.bool false)] false), (1, .cells [.nils] false), (0, .cells [.p (pI c)] false)] →
    OA ((x.put 1 (.cells [.nils] false)).put 2 (.cells [.p (.bool false)] false)).nx ((x.put 1 (.cells [.nils] false)).put 2 (.cells [.p (.bool false)] false)) [(1, .v (.c c6), ss.length, ss.map .str)] [(s2.nx, .loop lq), (s2.nx + 1, .defr), (s1.nx + 2, .cells [.p (.str t)] false), (3, .cells [c6] false), (2, .cells [.p (.bool false)] false), (1, .cells [.nils] false), (0, .cells [.p (pI c)] false)] := fun x lq h => by
   have h1 := OA.set (M1 := [(s2.nx, .loop lq), (s2.nx + 1, .defr), (s1.nx + 2, .cells [.p (.str t)] false), (3, .cells [c6] false), (2, .cells [.p (.bool false)] false)]) (M2 := [(0, .cells [.p (pI c)] false)]) (o' := .cells [.nils] false) h rfl
   exact OA.set (M1 := [(s2.nx, .loop lq), (s2.nx + 1, .defr), (s1.nx + 2, .cells [.p (.str t)] false), (3, .cells [c6] false)]) (M2 := [(1, .cells [.nils] false), (0, .cells [.p (pI c)] false)]) (o' := .cells [.p (.bool false)] false) h1 rfl
  rcases hstep with ⟨hgood, rfl, hkl, rfl⟩ | ⟨hbad, rfl, rfl⟩
  ·obtain ⟨b1, b2, b3, b4⟩ := rdV_le (t.drop i)
   generalize hpart : ((t.drop i).drop (rdV (t.drop i)).2.1).take (rdV (t.drop i)).1.toNat = part
   simp only [setAll, List.zip_cons_cons, List.zip_nil_right]
   refine gS fun K F => ?_; simp only [go_sem, hF]; apply F; clear F K
   refine gR fun K F => ?_; simp only [go_sem, hF]; apply F; clear F K
   refine ⟨rfl, _, _, (hos.mono (by simp only [St.nx_adv]; omega)).adv.adv, fun lq s' hos' => ?_⟩
   have o6 := hos'.at_ (3, .cells [c6] false) (by simp)
   have o2 := hos'.at_ (2, .cells [.p (.bool false)] false) (by simp)
   have o1 := hos'.at_ (1, .cells [.nils] false) (by simp)
   have o0 := hos'.at_ (0, .cells [.p (pI c)] false) (by simp)
   have hl6 := (hos'.own (1, .v (.c c6), ss.length, ss.map .str) (by simp)).len ti155 rfl
   simp only at o6 o0 o1 o2 hl6
   refine Wc.block (Wc.seq (Wc.seq ?_))
   refine gR fun K F => ?_; simp only [go_sem, hF, o6, o0, hl6]; apply F; clear F K
   refine Wc.cond (t := ((ss.length : Int) == (c : Int))) (by simp only [go_sem, hF]) (fun hc => ?_) (fun hc => ?_)
   ·have hsc : ss.length = c := by have : (ss.length : Int) = (c : Int) := by simpa using hc
                                   omega
    have hno : splitN c t = none := by rw [hsp, hsc, Nat.sub_self, splitN, if_neg hne]; rfl
    refine gS fun K F => ?_; simp only [go_sem, hF, o1, o2]; apply F; clear F K
    refine Wc.ret ⟨_, _, hend _ lq ?_, rfl, hno, c6, rfl⟩
    exact (hos'.mono (by simp only [St.nx_adv]; omega)).adv.adv
   ·have hsc : ¬ ss.length = c := by have : ¬ (ss.length : Int) = (c : Int) := by simpa using hc
                                     omega
    refine Wc.skip ?_
    refine gR fun K F => ?_; simp only [go_sem, hF, o6]
    refine OA.app (L1 := []) (L2 := []) (by_ := 16) (n := ss.length) (m := 1) (ys := [.str part]) (OA.put (hos'.adv.adv) (by omega)) (by omega) ⟨_, ti155, rfl⟩ ti9 rfl rfl rfl (by decide) (by decide) (by simp only [go_sem]) rfl (by omega) fun b' s3 hb' hnx' => ?_
    obtain ⟨c6', rfl⟩ := (hb'.own _ (List.mem_cons_self ..)).v
    have o6' := hb'.at_ (3, .cells [c6] false) (by simp)
    simp only at o6'
    simp only [go_sem, hF, o6']; apply F; clear F K
    have hset := OA.set (M1 := [(s2.nx, .loop lq), (s2.nx + 1, .defr), (s1.nx + 2, .cells [.p (.str t)] false)]) (k := 3) (o' := .cells [c6'] false) hb' rfl
    refine ⟨_, _, hset.mono (by simp only [St.nx_put, hnx', St.nx_adv]; omega), ss ++ [part], c6', by simp, rfl, hkl, by simp; omega, ?_⟩
    have e1 : c - ss.length = (c - (ss ++ [part]).length) + 1 := by simp; omega
    rw [hsp, e1, splitN, if_neg hne, if_neg hgood, hpart, List.drop_drop]
    cases splitN (c - (ss ++ [part]).length) (t.drop (i + ((rdV (t.drop i)).2.1 + (rdV (t.drop i)).1.toNat))) <;> simp
  ·have hno : splitN c t = none := by rw [hsp, splitN_bad hne hbad]; rfl
   simp only [setAll, List.zip_cons_cons, List.zip_nil_right]
   refine gS fun K F => ?_; simp only [go_sem, hF]; apply F; clear F K
   refine gR fun K F => ?_; simp only [go_sem, hF]; apply F; clear F K
   refine ⟨rfl, _, _, (hos.mono (by simp only [St.nx_adv]; omega)).adv.adv, fun lq s' hos' => ?_⟩
   have o2 := hos'.at_ (2, .cells [.p (.bool false)] false) (by simp)
   have o1 := hos'.at_ (1, .cells [.nils] false) (by simp)
   simp only at o1 o2
   refine Wc.block (Wc.seq (Wc.seq ?_))
   refine gR fun K F => ?_; simp only [go_sem, hF]; apply F; clear F K
   refine gT (by simp only [go_sem, hF]) ?_
   refine gS fun K F => ?_; simp only [go_sem, hF, o1, o2]; apply F; clear F K
   refine Wc.ret ⟨_, _, hend _ lq ?_, rfl, hno, c6, rfl⟩
   exact (hos'.mono (by simp only [St.nx_adv]; omega)).adv.adv
 ·rintro L M s' i hlast hos ⟨ss, c6, rfl, rfl, hil, hssc, hsp⟩
  have hil2 : i = t.length := by rcases hlast with h | h <;> omega
  subst hil2
  rw [List.drop_length] at hsp
  have o6 := hos.at_ (3, .cells [c6] false) (by simp)
  have o2 := hos.at_ (2, .cells [.p (.bool false)] false) (by simp)
  have o1 := hos.at_ (1, .cells [.nils] false) (by simp)
  have o0 := hos.at_ (0, .cells [.p (pI c)] false) (by simp)
  have gd := hos.at_ (s2.nx + 1, .defr) (by simp)
  have hl6 := (hos.own (1, .v (.c c6), ss.length, ss.map .str) (by simp)).len ti155 rfl
  simp only at o6 o0 o1 o2 gd hl6
  have hk1' : (1 = s2.nx + 1) = False := by simp; omega
  have hk2' : (2 = s2.nx + 1) = False := by simp; omega
  refine Wc.seq ?_
  refine Wc.regT fun K F => ?_; simp only [go_sem, hF, o6, o0, o1, o2, hl6]; refine ⟨by rfl, F _ _ ?_⟩; clear F K
  have hown := hos.own (1, .v (.c c6), ss.length, ss.map .str) (by simp)
  have hres : (splitN c t).isSome = ((ss.length : Int) == (c : Int)) ∧ ∀ l, splitN c t = some l → ss = l := by
   rw [hsp]
   by_cases hsc : ss.length = c
   ·rw [hsc, Nat.sub_self]
    refine ⟨by simp [splitN], fun l hl => ?_⟩
    simp [splitN] at hl
    exact hl
   ·obtain ⟨k, hk⟩ : ∃ k, c - ss.length = k + 1 := ⟨c - ss.length - 1, by omega⟩
    rw [hk]
    refine ⟨?_, fun l hl => ?_⟩
    ·simp [splitN]; omega
    ·simp [splitN] at hl
  exact Wc.ret (Pf.ret1E [.cell 4 155, .cell 5 4] [.c c6, .c (.p (.bool ((ss.length : Int) == (c : Int))))] rfl (by simp only [go_sem, hk1', hk2', gd]) rfl (by simp only [resultsD, go_sem, hF, hk1, hk2]) (purD_cb (hown.vs1 _)) ⟨ss, by rw [hres.1], hres.2⟩)
 ·rintro ex L M s' hne hos ⟨rfl, hno, c6, rfl⟩
  have g2 := hos.at_ (2, .cells [.p (.bool false)] false) (by simp)
  have g1 := hos.at_ (1, .cells [.nils] false) (by simp)
  have gd := hos.at_ (s2.nx + 1, .defr) (by simp)
  simp only at g1 g2 gd
  refine Pf.ret1E [.cell 4 155, .cell 5 4] [.c .nils, .c (.p (.bool false))] rfl gd rfl (by simp only [resultsD, go_sem, hF, g1, g2, hk1, hk2]) rfl ⟨[], by rw [hno]; rfl, fun ss h => ?_⟩
  rw [hno] at h; cases h
set_option maxHeartbeats 8000000
set_option maxRecDepth 10000
set_option linter.unusedSimpArgs false
set_option linter.unusedVariables false
theorem sumsW_len : ∀ (d : List Int) (f : Int), (sumsW f d).length = d.length + 1
 | [], _ => rfl
 | x :: r, f => by simp [sumsW, sumsW_len r]
theorem pf294 (f : Int) (d : List Int) (hd : d.length < 2^40) : Pf E0 294 [.c (.p (pI f)), .c (.p (.lst d.length (d.map pI)))] (P' (.lst (sumsW f d).length ((sumsW f d).map pI))) := by
 have w1 : IntKind.i64.wrap ((d.length : Int) + 1) = ((d.length + 1 : Nat) : Int) := by rw [wi64]; omega
 have m1 : (((8 : Nat) : Int) * ((d.length + 1 : Nat) : Int) ≤ 140737488355328) = True := by simp only [eq_iff_iff, iff_true]; omega
 have m2 : (((d.length + 1 : Nat) : Int) ≤ 9223372036854775807) = True := by simp only [eq_iff_iff, iff_true]; omega
 refine Pf.body (fn := Tryz.f294) (by kernel_rfl) rfl ?_; simp only [List.map_cons, List.map_nil, List.cons_append, List.nil_append, List.length_cons, List.length_nil, Tryz.ntmps294, List.replicate, Nat.reduceSub, Nat.reduceAdd]
 refine gS fun K F => ?_; simp only [go_sem]; apply F; clear F K
 refine Wc.seqA (fun y => ∃ c5, y.ds = [] ∧ Fs y.e 31 [(0, P' (pI f)), (1, P' (.lst d.length (d.map pI))), (5, .v (.c c5))] ∧ OA y.s.nx y.s [(1, .v (.c c5), 0, [])] []) ?_ ?_
 ·refine gR fun K F => ?_; simp only [go_sem, w1, m1, m2]; apply F; clear F K
  exact ⟨rfl, _, rfl, by simp only [Fs, nZ, go_sem], (OA.front (s00_oa.adv.adv) (by omega) rfl).mono (by simp only [St.nx_put, St.nx_adv]; omega)⟩
 rintro ⟨e, ds, s1⟩ ⟨c5, rfl, hF, ho⟩
 simp only [Fs] at hF ho
 refine Wc.seqA (fun y => ∃ c5, y.ds = [] ∧ Fs y.e 31 [(0, P' (pI f)), (1, P' (.lst d.length (d.map pI))), (5, .v (.c c5))] ∧ OA y.s.nx y.s [(1, .v (.c c5), 1, [pI f])] []) ?_ ?_
 ·refine gR fun K F => ?_; simp only [go_sem, hF]
  refine OA.app (L1 := []) (L2 := []) (by_ := 8) (n := 0) (m := 1) (ys := [pI f]) (OA.put (ho.adv) (by omega)) (by omega) ⟨_, ti175, rfl⟩ ti3 rfl rfl rfl (by decide) (by decide) (by simp only [go_sem]) rfl (by omega) fun b' s3 hb' hnx' => ?_
  obtain ⟨c5', rfl⟩ := (hb'.own _ (List.mem_cons_self ..)).v
  simp only [go_sem, hF]; apply F; clear F K
  exact ⟨rfl, c5', rfl, by simp only [Fs, nZ, go_sem, hF], hb'.mono (by simp only [St.nx_put, hnx', St.nx_adv]; omega)⟩
 clear hF ho s1 e c5
 rintro ⟨e, ds, s1⟩ ⟨c5, rfl, hF, ho⟩
 simp only [Fs] at hF ho
 refine Wc.seqA (fun y => ∃ c5, y.ds = [] ∧ Fs y.e 31 [(5, .v (.c c5))] ∧ OA y.s.nx y.s [(1, .v (.c c5), (sumsW f d).length, (sumsW f d).map pI)] []) ?_ ?_
 ·refine gS fun K F => ?_; simp only [go_sem, hF, nZ]; apply F; clear F K
  refine Wc.block (Wc.loop (fun k y => ∃ (i : Nat) (pre : List Int) (cur : Int) (c5 : C), k = d.length - i ∧ i ≤ d.length ∧ y.ds = [] ∧ Fs y.e 31 [(0, P' (pI cur)), (16, P' (.lst d.length (d.map pI))), (17, P' (pI d.length)), (18, P' (pI i)), (5, .v (.c c5))] ∧
   OA y.s.nx y.s [(1, .v (.c c5), i + 1, (pre ++ [cur]).map pI)] [] ∧ pre.length = i ∧ sumsW f d = pre ++ sumsW cur (d.drop i)) ?_ (k := d.length) ?_)
  ·clear hF ho s1 e c5
   rintro k ⟨e, ds, s1⟩ ⟨i, pre, cur, c5, rfl, hi, rfl, hF, ho, hpl, hsw⟩
   simp only [Fs] at hF ho
   refine gS fun K F => ?_; simp only [go_sem, hF]; apply F; clear F K
   refine Wc.seq (Wc.cond (t := decide ((i : Int) < d.length)) (by simp only [go_sem, hF]) (fun hc => ?_) (fun hc => ?_))
   ·have hil : i < d.length := by have : (i : Int) < d.length := by simpa using hc
                                  omega
    obtain ⟨x, hx⟩ : ∃ x, d[i]? = some x := ⟨d[i], List.getElem?_eq_getElem hil⟩
    have hix := ixA ti175 rfl ti3 (j := i) (m := d.length) (cs := d.map pI) hil (by simp) (by decide)
    have hca := rpA (off := i) (drop_map pI hx) (by simp; omega)
    refine Wc.skip (Wc.seq (Wc.block (Wc.seq ?_)))
    refine gR fun K F => ?_; simp only [go_sem, hF, hix, hca]; apply F; clear F K
    refine gS fun K F => ?_; simp only [go_sem, hF]; apply F; clear F K
    generalize hcur : IntKind.i64.wrap (cur + x) = cur'
    refine gR fun K F => ?_; simp only [go_sem, hF]
    refine OA.app (L1 := []) (L2 := []) (by_ := 8) (n := i + 1) (m := 1) (ys := [pI cur']) (OA.put (ho.adv.adv.adv.adv) (by omega)) (by omega) ⟨_, ti175, rfl⟩ ti3 rfl rfl rfl (by decide) (by decide) (by simp only [go_sem]) rfl (by omega) fun b' s3 hb' hnx' => ?_
    obtain ⟨c5', rfl⟩ := (hb'.own _ (List.mem_cons_self ..)).v
    simp only [go_sem, hF]; apply F; clear F K
    refine gR fun K F => ?_; simp only [go_sem, hF, i64n i (by omega)]; apply F; clear F K
    refine ⟨d.length - (i + 1), by omega, i + 1, pre ++ [cur], cur', c5', rfl, by omega, rfl, by simp only [Fs, nZ, go_sem, hF], ?_, by simp [hpl], ?_⟩
    ·have := (hb'.mono (b' := s3.nx + 2) (by simp only [St.nx_put, hnx', St.nx_adv]; omega)).adv (n := 2)
     simpa only [List.nil_append, List.map_append, List.map_cons, List.map_nil, St.nx_adv] using this
    ·rw [hsw, List.drop_eq_getElem_cons hil, (List.getElem?_eq_some_iff.1 hx).2, sumsW, hcur]; simp
   ·have hil : i = d.length := by have : ¬ (i : Int) < d.length := by simpa using hc
                                  omega
    subst hil
    rw [List.drop_length, sumsW] at hsw
    have hlen : (sumsW f d).length = d.length + 1 := sumsW_len d f
    rw [← hsw, ← hlen] at ho
    exact Wc.exit ⟨rfl, c5, rfl, by simp only [Fs, nZ, go_sem, hF], (ho.mono (Nat.le_add_right _ _)).adv⟩
  ·exact ⟨0, [], f, c5, rfl, by omega, rfl, by simp only [Fs, nZ, go_sem, hF], (ho.mono (Nat.le_add_right _ _)).adv, rfl, rfl⟩
 clear hF ho s1 e c5
 rintro ⟨e, ds, s1⟩ ⟨c5, rfl, hF, ho⟩
 simp only [Fs] at hF ho
 refine gS fun K F => ?_; simp only [go_sem, hF]; apply F; clear F K
 exact Wc.ret (Pf.retO [.tmp 4] c5 rfl rfl (by simp only [resultsD, go_sem, hF]) ((ho.adv (n := 1)).own _ (List.mem_cons_self ..)))
theorem rdN_err : ∀ {k : Nat} {s : List UInt8}, (rdN k s).2.2 ≠ 0 → rdN k s = ([], 0, (rdN k s).2.2)
 | 0, s, h => absurd rfl h
 | k + 1, s, h => by
  rw [rdN] at h ⊢
  split
  ·rfl
  ·rename_i h1
   rw [if_neg h1] at h
   split
   ·rfl
   ·rename_i h2
    rw [if_neg h2] at h
    exact absurd rfl h
theorem slice_from {s : List UInt8} {p : Nat} : (s.drop p).take (s.length - p) = s.drop p := List.take_of_length_le (by rw [List.length_drop]; exact Nat.le_refl _)
theorem pf268 (s : List UInt8) (hs : s.length < 2^40) : Pf E0 268 [.c (.p (.str s))] (.tup [.c (.p (.lst (decI s).1.length ((decI s).1.map pI))), .c (.p (.int .i64 (decI s).2))]) := by
 have p78 := pf200 s
 obtain ⟨b1, b2, b3, b4⟩ := rdV_le s
 obtain ⟨c, hcc⟩ : ∃ c : Nat, (rdV s).1 = (c : Int) := ⟨(rdV s).1.toNat, by omega⟩
 unfold decI
 rw [hcc] at p78 b3 ⊢
 rw [Int.toNat_natCast]
 generalize (rdV s).2.1 = sz at *
 generalize (rdV s).2.2 = er at *
 refine Pf.body (fn := Tryz.f268) (by kernel_rfl) rfl ?_; simp only [List.map_cons, List.map_nil, List.cons_append, List.nil_append, List.length_cons, List.length_nil, Tryz.ntmps268, List.replicate, Nat.reduceSub, Nat.reduceAdd]
 refine gS fun K F => ?_; simp only [go_sem]; apply F; clear F K
 refine gS fun K F => ?_; simp only [go_sem]
 refine wpCall.pf p78 (by kernel_rfl) (by kernel_rfl) rfl rfl ?_
 simp only [go_sem]; apply F; clear F K
 refine Wc.seq (Wc.seq ?_)
 refine gR fun K F => ?_; simp only [go_sem]; apply F; clear F K
 refine Wc.cond (t := (er != 0)) (by simp only [go_sem]) (fun hc => ?_) (fun hc => ?_)
 ·have h : er ≠ 0 := by simpa using hc
  rw [if_pos h]
  refine gS fun K F => ?_; simp only [go_sem]; apply F; clear F K
  exact Wc.ret (Pf.ret [.tmp 2, .tmp 3] [.c .nils, .c (.p (pI er))] rfl rfl (by simp only [resultsD, go_sem]) rfl)
 have h0 : ¬ er ≠ 0 := by simpa using hc
 rw [if_neg h0]
 refine Wc.skip (Wc.seq (Wc.seq ?_))
 refine gR fun K F => ?_; simp only [go_sem]; apply F; clear F K
 refine Wc.cond (t := decide ((20000 : Int) < c)) (by simp only [go_sem]) (fun hc => ?_) (fun hc => ?_)
 ·have h : (20000 : Int) < c := by simpa using hc
  rw [if_pos h]
  refine gS fun K F => ?_; simp only [go_sem]; apply F; clear F K
  exact Wc.ret (Pf.ret [.tmp 2, .tmp 3] [.c .nils, .c (.p (pI 4))] rfl rfl (by simp only [resultsD, go_sem]) rfl)
 have h20 : ¬ (20000 : Int) < c := by simpa using hc
 rw [if_neg h20]
 refine Wc.skip ?_
 obtain ⟨q, hq, hqs⟩ : ∃ q : Nat, (if (s.length : Int) < (c : Int) then (s.length : Int) else (c : Int)) = (q : Int) ∧ q ≤ 20000 := by
  split
  ·exact ⟨s.length, rfl, by omega⟩
  ·exact ⟨c, rfl, by omega⟩
 have m1 : (((8 : Nat) : Int) * (q : Int) ≤ 140737488355328) = True := by simp only [eq_iff_iff, iff_true]; omega
 have m2 : ((q : Int) ≤ 9223372036854775807) = True := by simp only [eq_iff_iff, iff_true]; omega
 refine Wc.seqA (fun y => ∃ c7, y.ds = [] ∧ Fs y.e 54 [(0, P' (.str s)), (4, P' (pI c)), (5, P' (pI sz)), (7, .v (.c c7))] ∧ OA y.s.nx y.s [(1, .v (.c c7), 0, [])] []) ?_ ?_
 ·refine gR fun K F => ?_; simp only [go_sem, foldO, hq, m1, m2]; apply F; clear F K
  exact ⟨rfl, .own 0 [] 19, rfl, by simp only [Fs, nZ, go_sem], (OA.front (k := 19) (s00_oa.adv.adv.adv.adv.adv) (by omega) rfl).mono (by simp only [St.nx_put, St.nx_adv]; omega)⟩
 rintro ⟨e, ds, s1⟩ ⟨c7, rfl, hF, ho⟩
 simp only [Fs] at hF ho
 generalize hT : rdN c (s.drop sz) = T
 refine Wc.seqR (fun y => ∃ c7 p, T.2.2 = 0 ∧ p = sz + T.2.1 ∧ y.ds = [] ∧ Fs y.e 54 [(0, P' (.str s)), (5, P' (pI (p : Nat))), (7, .v (.c c7))] ∧ OA y.s.nx y.s [(1, .v (.c c7), T.1.length, T.1.map pI)] []) ?_ ?_
 ·refine gS fun K F => ?_; simp only [go_sem, hF, nZ]; apply F; clear F K
  refine Wc.block (Wc.loop (fun k y => ∃ (i : Nat) (l : List Int) (p : Nat) (c7 : C), k = c - i ∧ i ≤ c ∧ y.ds = [] ∧ Fs y.e 54 [(0, P' (.str s)), (27, P' (pI c)), (28, P' (pI i)), (5, P' (pI p)), (7, .v (.c c7))] ∧
   OA y.s.nx y.s [(1, .v (.c c7), l.length, l.map pI)] [] ∧ l.length = i ∧ sz ≤ p ∧ p ≤ s.length ∧
   T = if (rdN (c - i) (s.drop p)).2.2 ≠ 0 then ([], 0, (rdN (c - i) (s.drop p)).2.2) else (l ++ (rdN (c - i) (s.drop p)).1, (p - sz) + (rdN (c - i) (s.drop p)).2.1, 0)) ?_ (k := c) ?_)
  ·clear hF ho s1 e c7
   rintro k ⟨e, ds, s1⟩ ⟨i, l, p, c7, rfl, hi, rfl, hF, ho, hpl, hp1, hp2, hTi⟩
   simp only [Fs] at hF ho
   refine gS fun K F => ?_; simp only [go_sem, hF]; apply F; clear F K
   refine Wc.seq (Wc.cond (t := decide ((i : Int) < c)) (by simp only [go_sem, hF]) (fun hc => ?_) (fun hc => ?_))
   ·have hil : i < c := by have : (i : Int) < c := by simpa using hc
                           omega
    obtain ⟨j, hj⟩ : ∃ j, c - i = j + 1 := ⟨c - i - 1, by omega⟩
    rw [hj, rdN] at hTi
    have p139 := pf285 (s.drop p)
    obtain ⟨r1, r2, r3⟩ := rdS_le (s.drop p)
    rw [List.length_drop] at r1
    have hdd : (s.drop p).drop (rdS (s.drop p)).2.1 = s.drop (p + (rdS (s.drop p)).2.1) := List.drop_drop ..
    rw [hdd] at hTi
    generalize (rdS (s.drop p)).1 = x at *
    generalize (rdS (s.drop p)).2.1 = z at *
    generalize (rdS (s.drop p)).2.2 = er2 at *
    have c1 : ((p : Int) ≤ (s.length : Int)) = True := by simp; omega
    refine Wc.skip (Wc.seq (Wc.block (Wc.seq ?_)))
    refine gR fun K F => ?_; simp only [go_sem, hF, c1, slice_from, Int.le_refl]
    refine wpCall.pf p139 (by kernel_rfl) (by kernel_rfl) rfl rfl ?_
    simp only [go_sem, hF]; apply F; clear F K
    refine Wc.seq (Wc.seq ?_)
    refine gR fun K F => ?_; simp only [go_sem, hF]; apply F; clear F K
    refine Wc.cond (t := (er2 != 0)) (by simp only [go_sem, hF]) (fun hc => ?_) (fun hc => ?_)
    ·have h : er2 ≠ 0 := by simpa using hc
     rw [if_pos h, if_pos h] at hTi
     refine gS fun K F => ?_; simp only [go_sem, hF]; apply F; clear F K
     rw [hTi, if_pos h]
     exact Wc.ret (Pf.ret [.tmp 2, .tmp 3] [.c .nils, .c (.p (pI er2))] rfl rfl (by simp only [resultsD, go_sem, hF]) rfl)
    have h : ¬ er2 ≠ 0 := by simpa using hc
    rw [if_neg h] at hTi
    have hz := r3 (by simpa using h)
    refine Wc.skip (Wc.seq ?_)
    refine gR fun K F => ?_; simp only [go_sem, hF]
    refine OA.app (L1 := []) (L2 := []) (by_ := 8) (n := l.length) (m := 1) (ys := [pI x]) (OA.put (((ho.adv.adv.adv).adv)) (by omega)) (by omega) ⟨_, ti175, rfl⟩ ti3 rfl rfl rfl (by decide) (by decide) (by simp only [go_sem]) rfl (by omega) fun b' s3 hb' hnx' => ?_
    obtain ⟨c7', rfl⟩ := (hb'.own _ (List.mem_cons_self ..)).v
    simp only [go_sem, hF]; apply F; clear F K
    have w1 : IntKind.i64.wrap ((p : Int) + (z : Int)) = ((p + z : Nat) : Int) := by rw [wi64]; omega
    refine gR fun K F => ?_; simp only [go_sem, hF, w1]; apply F; clear F K
    refine gR fun K F => ?_; simp only [go_sem, hF, i64n i (by omega)]; apply F; clear F K
    have e1 : c - (i + 1) = j := by omega
    refine ⟨c - (i + 1), by omega, i + 1, l ++ [x], p + z, c7', rfl, by omega, rfl, by simp only [Fs, nZ, go_sem, hF], ?_, by simp [hpl], by omega, by omega, ?_⟩
    ·have := (hb'.mono (b' := s3.nx + 4 + 2) (by simp only [St.nx_put, hnx', St.nx_adv]; omega)).adv (n := 4) |>.adv (n := 2)
     simpa only [List.nil_append, List.map_append, List.map_cons, List.map_nil, List.length_append, List.length_cons, List.length_nil, St.nx_adv, Nat.zero_add] using this
    ·rw [e1, hTi]
     generalize rdN j (s.drop (p + z)) = U
     by_cases hU : U.2.2 ≠ 0
     ·simp only [if_pos hU]
     ·simp only [if_neg hU, ne_eq, not_true_eq_false, if_false]
      refine Prod.ext (by simp) (Prod.ext ?_ rfl)
      show p - sz + (z + U.2.1) = p + z - sz + U.2.1
      omega
   ·have hil : i = c := by have : ¬ (i : Int) < c := by simpa using hc
                           omega
    rw [hil, Nat.sub_self, rdN, if_neg (by simp)] at hTi
    subst hTi
    refine Wc.exit ⟨c7, p, rfl, by simp only; omega, rfl, by simp only [Fs, nZ, go_sem, hF], ?_⟩
    simp only [List.append_nil]
    exact (ho.mono (Nat.le_add_right _ _)).adv
  ·refine ⟨0, [], sz, c7, rfl, by omega, rfl, by simp only [Fs, nZ, go_sem, hF], (ho.mono (Nat.le_add_right _ _)).adv, rfl, by omega, by omega, ?_⟩
   rw [Nat.sub_zero, hT]
   split
   ·rename_i h
    rw [← hT] at h ⊢
    exact rdN_err h
   ·rename_i h
    refine Prod.ext rfl (Prod.ext (by simp) (by simpa using h))
 clear hF ho s1 e c7
 rintro ⟨e, ds, s1⟩ ⟨c7, p, hT0, hp, rfl, hF, ho⟩
 simp only [Fs] at hF ho
 rw [if_neg (by rw [hT0]; simp)]
 refine Wc.seq (Wc.seq ?_)
 refine gR fun K F => ?_; simp only [go_sem, hF]; apply F; clear F K
 refine Wc.cond (t := ((p : Int) != (s.length : Int))) (by simp only [go_sem, hF]) (fun hc => ?_) (fun hc => ?_)
 ·have h : sz + T.2.1 ≠ s.length := by have : ¬ (p : Int) = (s.length : Int) := by simpa using hc
                                       omega
  rw [if_pos h]
  refine gS fun K F => ?_; simp only [go_sem, hF]; apply F; clear F K
  exact Wc.ret (Pf.ret [.tmp 2, .tmp 3] [.c .nils, .c (.p (pI 12))] rfl rfl (by simp only [resultsD, go_sem, hF]) rfl)
 ·have h : ¬ sz + T.2.1 ≠ s.length := by have : (p : Int) = (s.length : Int) := by simpa using hc
                                         omega
  rw [if_neg h]
  refine Wc.skip (Wc.seq ?_)
  refine gR fun K F => ?_; simp only [go_sem, hF]; apply F; clear F K
  exact Wc.ret (Pf.ret [.tmp 2, .tmp 3] [.c c7, .c (.p (pI 0))] rfl rfl (by simp only [resultsD, go_sem, hF]) (purD_cb ((ho.own _ (List.mem_cons_self ..)).vs1 _)))
abbrev RO (t : List UInt8) (st : RdT) : Ob := .cells [.p (.str t), .p (pI st.1), .p (.int .i64 st.2)] false
structure RdF (g : Nat) (rd : List UInt8 → Int × Nat × Int) : Prop where
 pf : ∀ u, Pf E0 g [.c (.p (.str u))] (.tup [.c (.p (pI (rd u).1)), .c (.p (pI (rd u).2.1)), .c (.p (.int .i64 (rd u).2.2))])
 xt : E0.xt g = none
 opn : E0.opn g = false
 le : ∀ u, (rd u).2.1 ≤ u.length
theorem rdfV : RdF 200 rdV := ⟨pf200, by kernel_rfl, by kernel_rfl, fun u => (rdV_le u).1⟩
theorem rdfS : RdF 285 rdS := ⟨pf285, by kernel_rfl, by kernel_rfl, fun u => (rdS_le u).1⟩
theorem numR_le {g : Nat} {rd : List UInt8 → Int × Nat × Int} (hg : RdF g rd) {t : List UInt8} {st : RdT} (h : st.1 ≤ t.length) : (numR rd t st).2.1 ≤ t.length := by
 unfold numR
 split
 ·exact h
 ·have := hg.le (t.drop st.1)
  rw [List.length_drop] at this
  simp only
  omega
theorem call292 {s : St} {L : List (Nat × D × Nat × List Pd)} {M1 M2 : List (Nat × Ob)} {r g : Nat} {t : List UInt8} {st : RdT} {rd : List UInt8 → Int × Nat × Int} {K : D → St → Prop} (hg : RdF g rd) (h : OA s.nx s L (M1 ++ (r, RO t st) :: M2)) (hat : st.1 ≤ t.length) (ht : t.length < 2^40)
  (F : ∀ s', OA s'.nx s' L (M1 ++ (r, RO t (numR rd t st).2) :: M2) → K (P' (pI (numR rd t st).1)) s') : wpCall E0 (.v (.c (.p (.fnc 292)))) [.v (.c (.ref r 0)), .v (.c (.p (.fnc g)))] s K := by
 obtain ⟨p, er⟩ := st
 have o := h.at_ (r, RO t (p, er)) (by simp)
 simp only [RO] at o hat
 refine wpCall.opn (fn := Tryz.f292) (by kernel_rfl) (by kernel_rfl) rfl (by kernel_rfl) rfl ?_; simp only [List.map_cons, List.map_nil, List.cons_append, List.nil_append, List.length_cons, List.length_nil, Tryz.ntmps292, List.replicate, Nat.reduceSub, Nat.reduceAdd]
 refine gS fun K F => ?_; simp only [go_sem]; apply F; clear F K
 refine Wc.seq (Wc.seq ?_)
 refine gR fun K F => ?_; simp only [go_sem, o]; apply F; clear F K
 refine Wc.cond (t := (er != 0)) (by simp only [go_sem]) (fun hc => ?_) (fun hc => ?_)
 ·have h0 : er ≠ 0 := by simpa using hc
  have e : numR rd t (p, er) = (0, (p, er)) := by unfold numR; rw [if_pos h0]
  rw [e] at F
  refine gS fun K F => ?_; simp only [go_sem]; apply F; clear F K
  refine Wc.ret ?_
  refine (show bodyQ E0 Tryz.f292 K .ret _ from Op.ret [.tmp 4] [.c (.p (pI 0))] rfl rfl (by simp only [resultsD, go_sem]) (F _ ?_))
  exact by (try simp only [St.nx_put, St.nx_adv]); repeat (first | exact OA.mono h (by omega) | refine OA.newB ?_ (by omega) rfl | refine OA.advB ?_)
 ·have h0 : er = 0 := by simpa using hc
  subst h0
  have e : numR rd t (p, 0) = ((rd (t.drop p)).1, (p + (rd (t.drop p)).2.1, (rd (t.drop p)).2.2)) := by unfold numR; rw [if_neg (by simp)]
  rw [e] at F
  have pg := hg.pf (t.drop p)
  have hle := hg.le (t.drop p)
  rw [List.length_drop] at hle
  have c1 : ((p : Int) ≤ (t.length : Int)) = True := by simp; omega
  have w1 : IntKind.i64.wrap ((p : Int) + ((rd (t.drop p)).2.1 : Int)) = ((p + (rd (t.drop p)).2.1 : Nat) : Int) := by rw [wi64]; omega
  generalize (rd (t.drop p)).1 = x at *
  generalize (rd (t.drop p)).2.1 = z at *
  generalize (rd (t.drop p)).2.2 = er2 at *
  refine Wc.skip (Wc.seq ?_)
  refine Wc.regD fun K F => ?_; simp only [go_sem, o, c1, slice_from, Int.le_refl]
  refine ⟨by simp [hg.opn, hg.xt, plainD, plainV, plainC], ?_⟩
  refine wpCall.pf pg hg.xt hg.opn rfl rfl ?_
  simp only [go_sem]; apply F; clear F K
  refine gS fun K F => ?_; simp only [go_sem, o, w1]; apply F; clear F K
  refine gS fun K F => ?_; simp only [go_sem, o, w1]; apply F; clear F K
  refine gS fun K F => ?_; simp only [go_sem]; apply F; clear F K
  refine Wc.ret ?_
  refine (show bodyQ E0 Tryz.f292 K .ret _ from Op.ret [.tmp 4] [.c (.p (pI x))] rfl rfl (by simp only [resultsD, go_sem]) (F _ ?_))
  exact by (try simp only [St.nx_put, St.nx_adv]); first | ((repeat (first | exact OA.mono h (by omega) | refine OA.advB ?_)); done) | ((repeat refine OA.advB ?_); refine OA.ofS ?_; repeat (first | exact ⟨_, OA.mono h (by omega)⟩ | refine OAs.adv ?_ | refine OAs.put ?_))
theorem runsR_len (t : List UInt8) : ∀ (k m : Nat) (st : RdT), (runsR t k m st).1.length ≤ m
 | 0, m, st => by simp [runsR]
 | k + 1, m, st => by
  rw [runsR]
  split
  ·simp
  ·simp only
   split
   ·simp
   ·rename_i h1 h2
    split
    ·simp
    ·have ih := runsR_len t k (m - (numR rdV t (numR rdS t st).2).1.toNat) (numR rdV t (numR rdS t st).2).2
     have hb : runB m (numR rdV t (numR rdS t st).2) = 0 := by simpa using h2
     generalize numR rdV t (numR rdS t st).2 = y at *
     unfold runB at hb
     split at hb
     ·cases hb
     ·simp only [List.length_append, List.length_replicate]
      omega
theorem runsR_err (t : List UInt8) : ∀ (k m : Nat) (st : RdT), (runsR t k m st).2.2 ≠ 0 → (runsR t k m st).1 = []
 | 0, m, st, _ => rfl
 | k + 1, m, st, h => by
  rw [runsR] at h ⊢
  split
  ·rfl
  ·rename_i h0
   rw [if_neg h0] at h
   simp only at h ⊢
   split
   ·rfl
   ·rename_i h1
    rw [if_neg h1] at h
    split
    ·rfl
    ·rename_i h2
     rw [if_neg h2] at h
     exact absurd h h2
theorem call293 {s : St} {L : List (Nat × D × Nat × List Pd)} {M1 M2 : List (Nat × Ob)} {r m : Nat} {t : List UInt8} {st : RdT} {K : D → St → Prop} (h : OA s.nx s L (M1 ++ (r, RO t st) :: M2)) (hat : st.1 ≤ t.length) (ht : t.length < 2^40) (hm : m ≤ 20000)
  (F : ∀ s' c, OA s'.nx s' ((1, .v (.c c), (runsR t m m st).1.length, (runsR t m m st).1.map pI) :: L) (M1 ++ (r, RO t (runsR t m m st).2) :: M2) → K (.v (.c c)) s') : wpCall E0 (.v (.c (.p (.fnc 293)))) [.v (.c (.ref r 0)), .v (.c (.p (pI m)))] s K := by
 generalize hT : runsR t m m st = T at F
 refine wpCall.opn (fn := Tryz.f293) (by kernel_rfl) (by kernel_rfl) rfl (by kernel_rfl) rfl ?_; simp only [List.map_cons, List.map_nil, List.cons_append, List.nil_append, List.length_cons, List.length_nil, Tryz.ntmps293, List.replicate, Nat.reduceSub, Nat.reduceAdd]
 refine gS fun K F => ?_; simp only [go_sem]; apply F; clear F K
 refine gS fun K F => ?_; simp only [go_sem]; apply F; clear F K
 refine Wc.seqR (fun y => ∃ c5, y.ds = [] ∧ Fs y.e 50 [(5, .v (.c c5))] ∧ OA y.s.nx y.s ((1, .v (.c c5), T.1.length, T.1.map pI) :: L) (M1 ++ (r, RO t T.2) :: M2)) ?_ ?_
 ·refine Wc.block (Wc.loop (fun k y => ∃ (l : List Int) (st' : RdT) (c5 : C) (f : Nat), k = m - l.length ∧ l.length ≤ m ∧ m - l.length ≤ f ∧ st'.1 ≤ t.length ∧ (l = [] ∨ st'.2 = 0) ∧ y.ds = [] ∧ Fs y.e 50 [(0, .v (.c (.ref r 0))), (1, P' (pI m)), (5, .v (.c c5))] ∧
   OA y.s.nx y.s ((1, .v (.c c5), l.length, l.map pI) :: L) (M1 ++ (r, RO t st') :: M2) ∧ T = if (runsR t f (m - l.length) st').2.2 ≠ 0 then ([], (runsR t f (m - l.length) st').2) else (l ++ (runsR t f (m - l.length) st').1, (runsR t f (m - l.length) st').2)) ?_ (k := m) ?_)
  ·rintro k ⟨e, ds, s1⟩ ⟨l, st', c5, f, rfl, hlm, hf, hat', hl0, rfl, hF, ho, hTi⟩
   simp only [Fs] at hF ho
   have hl5 := (ho.own _ (List.mem_cons_self ..)).len ti175 rfl
   refine Wc.seq (Wc.seq ?_)
   refine gR fun K F => ?_; simp only [go_sem, hF, hl5]; apply F; clear F K
   refine Wc.cond (t := decide ((l.length : Int) < m)) (by simp only [go_sem, hF]) (fun hc => ?_) (fun hc => ?_)
   ·have hlt : l.length < m := by have : (l.length : Int) < m := by simpa using hc
                                  omega
    obtain ⟨f', rfl⟩ : ∃ f', f = f' + 1 := ⟨f - 1, by omega⟩
    rw [runsR, if_neg (show ¬ (m - l.length = 0) by omega)] at hTi
    simp only at hTi
    have hx1 := numR_le rdfS hat' (rd := rdS) (t := t) (st := st')
    refine Wc.skip (Wc.block (Wc.seq ?_))
    refine gR fun K F => ?_; simp only [go_sem, hF]
    refine call292 rdfS (ho.adv.adv.mono (by simp only [St.nx_adv]; omega)) hat' ht fun s2 ho2 => ?_
    simp only [go_sem, hF]; apply F; clear F K
    generalize numR rdS t st' = x at *
    refine gS fun K F => ?_; simp only [go_sem, hF]
    have hy1 := numR_le rdfV hx1 (rd := rdV) (t := t) (st := x.2)
    have hy2 : ∃ n : Nat, (numR rdV t x.2).1 = (n : Int) := by
     unfold numR
     split
     ·exact ⟨0, rfl⟩
     ·have := (rdV_le (t.drop x.2.1)).2.1
      exact ⟨(rdV (t.drop x.2.1)).1.toNat, (Int.toNat_of_nonneg this).symm⟩
    refine call292 rdfV (ho2.adv.mono (by simp only [St.nx_adv]; omega)) hx1 ht fun s3 ho3 => ?_
    simp only [go_sem, hF]; apply F; clear F K
    generalize numR rdV t x.2 = y at *
    obtain ⟨n, hn⟩ := hy2
    obtain ⟨y1, y2, y3⟩ := y
    simp only at hn hy1 ho3
    subst hn
    clear ho2 ho
    have hos := (ho3.own _ (List.mem_cons_self ..)).len ti175 rfl
    have o3 := ho3.at_ (r, RO t (y2, y3)) (by simp)
    simp only [RO] at hos o3
    have w1 : IntKind.i64.wrap ((m : Int) - (l.length : Int)) = ((m - l.length : Nat) : Int) := by rw [wi64]; omega
    refine Wc.seqR (fun y => y.ds = [] ∧ Fs y.e 50 [(0, .v (.c (.ref r 0))), (1, P' (pI m)), (5, .v (.c c5)), (6, P' (pI x.1)), (7, P' (pI n))] ∧ OA y.s.nx y.s ((1, .v (.c c5), l.length, l.map pI) :: L) (M1 ++ (r, RO t (y2, runB (m - l.length) (((n : Nat) : Int), (y2, y3)))) :: M2)) ?_ ?_
    ·refine Wc.seq ?_
     by_cases hy0 : y3 = 0
     ·subst hy0
      have d0 : ((0 : Int) == 0) = true := rfl
      by_cases hn0 : n = 0
      ·subst hn0
       have e1 : runB (m - l.length) (((0 : Nat) : Int), (y2, 0)) = 12 := by unfold runB; rw [if_pos ⟨rfl, .inl rfl⟩]
       rw [e1]
       refine gR fun K F => ?_; simp only [go_sem, hF, hos, o3, w1, d0, nZ]; apply F; clear F K
       refine gT (by simp only [go_sem, hF]) ?_
       refine gR fun K F => ?_; simp only [go_sem, hF, o3]; apply F; clear F K
       exact ⟨rfl, by simp only [Fs, nZ, go_sem, hF], by (try simp only [St.nx_put, St.nx_adv]); first | ((repeat (first | exact OA.mono ho3 (by omega) | refine OA.advB ?_)); done) | ((repeat refine OA.advB ?_); refine OA.ofS ?_; repeat (first | exact ⟨_, OA.mono ho3 (by omega)⟩ | refine OAs.adv ?_ | refine OAs.put ?_))⟩
      ·have d1 : ((n : Int) == 0) = false := by simpa using hn0
       refine gR fun K F => ?_; simp only [go_sem, hF, hos, o3, w1, d0, d1]; apply F; clear F K
       refine Wc.cond (t := decide (((m - l.length : Nat) : Int) < n)) (by simp only [go_sem, hF]) (fun hc => ?_) (fun hc => ?_)
       ·have e1 : runB (m - l.length) ((n : Int), (y2, 0)) = 12 := by unfold runB; rw [if_pos ⟨rfl, .inr (of_decide_eq_true hc)⟩]
        rw [e1]
        refine gR fun K F => ?_; simp only [go_sem, hF, o3]; apply F; clear F K
        exact ⟨rfl, by simp only [Fs, nZ, go_sem, hF], by (try simp only [St.nx_put, St.nx_adv]); first | ((repeat (first | exact OA.mono ho3 (by omega) | refine OA.advB ?_)); done) | ((repeat refine OA.advB ?_); refine OA.ofS ?_; repeat (first | exact ⟨_, OA.mono ho3 (by omega)⟩ | refine OAs.adv ?_ | refine OAs.put ?_))⟩
       ·have hc' := of_decide_eq_false hc
        have e1 : runB (m - l.length) ((n : Int), (y2, 0)) = 0 := by unfold runB; rw [if_neg]; rintro ⟨_, h | h⟩ <;> simp only at h <;> omega
        rw [e1]
        exact Wc.skip ⟨rfl, by simp only [Fs, nZ, go_sem, hF], by (try simp only [St.nx_put, St.nx_adv]); first | ((repeat (first | exact OA.mono ho3 (by omega) | refine OA.advB ?_)); done) | ((repeat refine OA.advB ?_); refine OA.ofS ?_; repeat (first | exact ⟨_, OA.mono ho3 (by omega)⟩ | refine OAs.adv ?_ | refine OAs.put ?_))⟩
     ·have e1 : runB (m - l.length) ((n : Int), (y2, y3)) = y3 := by unfold runB; rw [if_neg]; rintro ⟨h, _⟩; exact hy0 h
      rw [e1]
      have d0 : (y3 == 0) = false := by simpa using hy0
      refine gR fun K F => ?_; simp only [go_sem, hF, hos, o3, w1, d0]; apply F; clear F K
      refine gF (by simp only [go_sem, hF]) ?_
      exact ⟨rfl, by simp only [Fs, nZ, go_sem, hF], by (try simp only [St.nx_put, St.nx_adv]); first | ((repeat (first | exact OA.mono ho3 (by omega) | refine OA.advB ?_)); done) | ((repeat refine OA.advB ?_); refine OA.ofS ?_; repeat (first | exact ⟨_, OA.mono ho3 (by omega)⟩ | refine OAs.adv ?_ | refine OAs.put ?_))⟩
    clear hF ho3 hos o3 e
    rintro ⟨e, ds, s4⟩ ⟨rfl, hF, ho4⟩
    simp only [Fs] at hF ho4
    have hrb : runB (m - l.length) ((n : Int), (y2, y3)) = 0 → y3 = 0 ∧ n ≠ 0 ∧ n ≤ m - l.length := fun h => by
     unfold runB at h
     split at h
     ·cases h
     ·rename_i h1
      simp only at h h1
      subst h
      simp only [true_and] at h1
      omega
    generalize hrbq : runB (m - l.length) ((n : Int), (y2, y3)) = rb at *
    have o4 := ho4.at_ (r, RO t (y2, rb)) (by simp)
    simp only [RO] at o4
    refine Wc.seq (Wc.seq ?_)
    refine gR fun K F => ?_; simp only [go_sem, hF, o4]; apply F; clear F K
    refine Wc.cond (t := (rb != 0)) (by simp only [go_sem, hF]) (fun hc => ?_) (fun hc => ?_)
    ·have h0 : rb ≠ 0 := by simpa using hc
     rw [if_pos h0] at hTi
     simp only [if_pos h0] at hTi
     subst hTi
     refine gS fun K F => ?_; simp only [go_sem, hF]; apply F; clear F K
     refine Wc.ret ?_
     refine (show bodyQ E0 Tryz.f293 K .ret _ from Op.ret [.tmp 4] [.c .nils] rfl rfl (by simp only [resultsD, go_sem, hF]) (F _ .nils (show OA _ _ ((1, .v (.c .nils), 0, []) :: L) (M1 ++ (r, RO t (y2, rb)) :: M2) from OA.nil ?_)))
     exact OA.sub (L := (1, .v (.c c5), l.length, l.map pI) :: L) (by (try simp only [St.nx_put, St.nx_adv]); first | ((repeat (first | exact OA.mono ho4 (by omega) | refine OA.advB ?_)); done) | ((repeat refine OA.advB ?_); refine OA.ofS ?_; repeat (first | exact ⟨_, OA.mono ho4 (by omega)⟩ | refine OAs.adv ?_ | refine OAs.put ?_))) (List.sublist_cons_self _ _) (List.Sublist.refl _)
    ·have h0 : rb = 0 := by simpa using hc
     obtain ⟨hy0, hn0, hnm⟩ := hrb h0
     subst h0 hy0
     rw [if_neg (show ¬ ((0 : Int) ≠ 0) by simp), Int.toNat_natCast] at hTi
     refine Wc.skip (Wc.seq ?_)
     refine gR fun K F => ?_; simp only [go_sem, hF, nZ]; apply F; clear F K
     refine Wc.block (Wc.loop (fun q y => ∃ (j : Nat) (c5 : C), q = n - j ∧ j ≤ n ∧ y.ds = [] ∧ Fs y.e 50 [(0, .v (.c (.ref r 0))), (1, P' (pI m)), (5, .v (.c c5)), (6, P' (pI x.1)), (41, P' (pI n)), (42, P' (pI j))] ∧ OA y.s.nx y.s ((1, .v (.c c5), (l ++ List.replicate j x.1).length, (l ++ List.replicate j x.1).map pI) :: L) (M1 ++ (r, RO t (y2, 0)) :: M2)) ?_ (k := n) ?_)
     ·clear hF ho4 o4 e s4
      rintro q ⟨e, ds, s4⟩ ⟨j, c5, rfl, hj, rfl, hF, ho4⟩
      simp only [Fs] at hF ho4
      refine gS fun K F => ?_; simp only [go_sem, hF]; apply F; clear F K
      refine Wc.seq (Wc.cond (t := decide ((j : Int) < n)) (by simp only [go_sem, hF]) (fun hc => ?_) (fun hc => ?_))
      ·have hjl : j < n := by have : (j : Int) < n := by simpa using hc
                              omega
       refine Wc.skip (Wc.seq (Wc.block ?_))
       refine gR fun K F => ?_; simp only [go_sem, hF]
       refine OA.app (L1 := []) (L2 := L) (by_ := 8) (n := (l ++ List.replicate j x.1).length) (m := 1) (ys := [pI x.1]) (OA.put (ho4.adv.adv) (by omega)) (by omega) ⟨_, ti175, rfl⟩ ti3 rfl rfl rfl (by decide) (by decide) (by simp only [go_sem]) rfl (by simp; omega) fun b' s5 hb' hnx' => ?_
       obtain ⟨c5', rfl⟩ := (hb'.own _ (List.mem_cons_self ..)).v
       simp only [go_sem, hF]; apply F; clear F K
       refine gR fun K F => ?_; simp only [go_sem, hF, i64n j (by omega)]; apply F; clear F K
       refine ⟨n - (j + 1), by omega, j + 1, c5', rfl, by omega, rfl, by simp only [Fs, nZ, go_sem, hF], ?_⟩
       have := (hb'.mono (b' := s5.nx + 2) (by simp only [St.nx_put, hnx', St.nx_adv]; omega)).adv (n := 2)
       have e5 : (l ++ List.replicate (j + 1) x.1) = (l ++ List.replicate j x.1) ++ [x.1] := by rw [List.replicate_succ', List.append_assoc]
       rw [e5, List.length_append (bs := [x.1]), List.map_append (l₂ := [x.1])]
       simpa only [List.nil_append, List.map_cons, List.map_nil, List.length_cons, List.length_nil, St.nx_adv, Nat.zero_add] using this
      ·have hjl : j = n := by have : ¬ (j : Int) < n := by simpa using hc
                              omega
       subst hjl
       have e6 : m - (l ++ List.replicate j x.1).length = m - l.length - j := by simp; omega
       refine Wc.exit ⟨m - (l ++ List.replicate j x.1).length, by omega, l ++ List.replicate j x.1, (y2, 0), c5, f', rfl, by simp; omega, by rw [e6]; omega, hy1, .inr rfl, rfl, by simp only [Fs, nZ, go_sem, hF], (ho4.mono (Nat.le_add_right _ _)).adv, ?_⟩
       rw [e6, hTi]
       generalize runsR t f' (m - l.length - j) (y2, 0) = U
       by_cases hU : U.2.2 ≠ 0
       ·simp only [if_pos hU]
       ·simp only [if_neg hU, List.append_assoc]
     ·exact ⟨0, c5, rfl, by omega, rfl, by simp only [Fs, nZ, go_sem, hF], by simp only [List.replicate_zero, List.append_nil]; exact by (try simp only [St.nx_put, St.nx_adv]); repeat (first | exact OA.mono ho4 (by omega) | refine OA.newB ?_ (by omega) rfl | refine OA.advB ?_)⟩
   ·have hlt : l.length = m := by have : ¬ (l.length : Int) < m := by simpa using hc
                                  omega
    rw [hlt, Nat.sub_self] at hTi
    have e0 : ∀ f, runsR t f 0 st' = ([], st') := fun f => by cases f <;> simp [runsR]
    rw [e0] at hTi
    simp only [List.append_nil] at hTi
    have hT2 : T = (l, st') := by
     rw [hTi]
     rcases hl0 with h | h
     ·subst h; split <;> rfl
     ·rw [if_neg (by simp [h])]
    rw [hT2]
    exact Wc.exit ⟨c5, rfl, by simp only [Fs, nZ, go_sem, hF], (ho.mono (Nat.le_add_right _ _)).adv⟩
  ·refine ⟨[], st, .nils, m, by simp, by simp, by simp, hat, .inl rfl, rfl, by simp only [Fs, nZ, go_sem], OA.nil (by (try simp only [St.nx_put, St.nx_adv]); repeat (first | exact OA.mono h (by omega) | refine OA.newB ?_ (by omega) rfl | refine OA.advB ?_)), ?_⟩
   simp only [List.length_nil, Nat.sub_zero, hT, List.nil_append]
   split
   ·rename_i h
    refine Prod.ext ?_ rfl
    rw [← hT] at h ⊢
    exact runsR_err t m m st h
   ·rfl
 rintro ⟨e, ds, s1⟩ ⟨c5, rfl, hF, ho⟩
 simp only [Fs] at hF ho
 refine gS fun K F => ?_; simp only [go_sem, hF]; apply F; clear F K
 exact Wc.ret (show bodyQ E0 Tryz.f293 K .ret _ from Op.ret [.tmp 4] [.c c5] rfl rfl (by simp only [resultsD, go_sem, hF]) (F _ _ (ho.mono (Nat.le_add_right _ _)).adv))
end Go.Proofs.YtedcnhbblgmdnaaGreat.Ab
