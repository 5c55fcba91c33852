/- A part of the proof: an evaluator of the code, its contracts, the law. No condition. -/
import Derived.Test.YtafaoldmemcigaaGreatT23
import Derived.Test.YtafaoldmemcigaaGreatT9
namespace Go.Proofs.YtafaoldmemcigaaGreat.Ab
set_option maxHeartbeats 4000000
set_option maxRecDepth 10000
set_option linter.unusedSimpArgs false
set_option linter.unusedVariables false
/-- What is known of a frame. -/
def Fs (e : List D) (n : Nat) : List (Nat × D) → Prop
  | [] => e.length = n
  | (j, d) :: r => e.getD j .junk = d ∧ Fs e n r
theorem OA.newB {s : St} {c k : Nat} {o : Ob} {L : List (Nat × D × Nat × List Pd)} {M : List (Nat × Ob)} (h : OA k s L M) (hc : k < c) (hf : o.isFront = false) : OA c (s.put k o) L ((k, o) :: M) :=
  (h.new (Nat.le_refl _) hf).mono hc
theorem OA.advB {s : St} {c n : Nat} {L : List (Nat × D × Nat × List Pd)} {M : List (Nat × Ob)} (h : OA c s L M) : OA c (s.adv n) L M := h.adv
attribute [go_sem] St.put_put
/-- An iterator whose rounds may also end it. -/
def IterG (g : Nat) (cap : List C) (H : St → Prop) (step : Nat → Nat → List V → Prop) (last : Nat → Prop) : Prop :=
  ∃ fn c, E0.fn g = some fn ∧ fn.body = some c ∧ ∀ (l : Nat) (J : Nat → St → Prop) (Z : St → Prop), (∀ i s n, J i s → J i (s.adv n)) → (∀ i s n k o, J i s → s.nx ≤ k → k < s.nx + n → J i ((s.adv n).put k o)) → (∀ s n, Z s → Z (s.adv n)) → (∀ i s, J i s → H s) →
    (∀ i k a s, J i s → step i k a → wpCall E0 (.v (.c (.fn (.yield l) [] []))) (a.map .v) s (fun d s' => (d = P' (.bool true) ∧ J k s') ∨ (d = P' (.bool false) ∧ Z s'))) →
    ∀ s, J 0 s → ∀ Q : D → St → Prop, (∀ d s' i, last i → J i s' → Q d s') → (∀ d s', Z s' → Q d s') →
      Wc E0 none c { e := (V.c (.fn (.yield l) [] []) :: cap.map .c).map .v ++ List.replicate (fn.ntmps - (V.c (.fn (.yield l) [] []) :: cap.map .c).length) (.tup []), ds := [], s := s } (bodyQ E0 fn Q)
/-- How a round ends. -/
def endG (R Z : Prop) : Ex → Prop
  | .normal => R
  | _ => Z
end Go.Proofs.YtafaoldmemcigaaGreat.Ab
namespace Go.Proofs.YtafaoldmemcigaaGreat.Ab
set_option maxHeartbeats 8000000
set_option maxRecDepth 10000
set_option linter.unusedSimpArgs false
set_option linter.unusedVariables false
theorem pf17 {z : Zo} (hz : z.ok) : Pf E0 17 [zV z.c z.t1 z.t2 z.v1 z.v2] (P' (.int .i64 0)) := by
  rcases hz with rfl | h
  · exact pf17z
  · exact pf17v h
/-- May, without strings -/
def mayZ (z : Zo) (p : Flt) : Bool := !(z.c == 0 || (decide (z.t2 ≤ p.f) || decide (p.u < z.t1))) && !(p.hv && (decide (z.v2 < p.lo) || decide (p.hi < z.v1)))
/-- 16: May -/
theorem pf16 {z : Zo} (hz : z.ok) (p : Flt) (hs : p.ss = []) : Pf E0 16 [zV z.c z.t1 z.t2 z.v1 z.v2, .agg (p.pd.map .p)] (P' (.bool (mayZ z p))) := by
  have h17 := pf17 hz
  obtain ⟨c, t1, t2, v1, v2⟩ := z
  obtain ⟨f, u, hv, lo, hi, ss⟩ := p
  simp only at hs h17
  subst hs
  have b2 : ((0 : Int) != 0) = false := by decide
  unfold mayZ
  refine Pf.body (fn := Tryz.f16) (by kernel_rfl) rfl ?_; simp only [List.map_cons, List.map_nil, List.cons_append, List.nil_append, List.length_cons, List.length_nil, Tryz.ntmps16, List.replicate, Nat.reduceSub, Nat.reduceAdd]
  refine Wc.seq ?_
  refine Wc.reg fun K hK => ?_; simp only [go_sem, ti3, ti9, ti4, ti35, ti50, ti48, ti32, ti30]; refine hK _ _ ?_; clear hK K
  refine Wc.seq (Wc.seq ?_)
  refine Wc.reg fun K hK => ?_; simp only [go_sem, ti3, ti9, ti4, ti35, ti50, ti48, ti32, ti30]
  refine wpCall.pf h17 (by kernel_rfl) (by kernel_rfl) rfl rfl ?_
  simp only [go_sem, ti3, ti9, ti4, ti35, ti50, ti48, ti32, ti30, b2]; refine hK _ _ ?_; clear hK K
  refine Wc.cond (t := false) (by simp only [go_sem, ti3, ti9, ti4, ti35, ti50, ti48, ti32, ti30, b2]) (fun hc => by cases hc) (fun _ => Wc.skip ?_)
  have no : ∀ (b : Bool), b = true → False ∨ b = true := fun b h => .inr h
  refine Wc.seqR (fun y => (c ≠ 0 ∧ ¬ t2 ≤ f ∧ ¬ u < t1) ∧ y.ds = [] ∧ Fs y.e 55 [(2, .v (.c (.ref 0 0))), (3, .v (.c (.ref 1 0)))] ∧ y.s.get 0 = some (.cells (cellsV (zV c t1 t2 v1 v2)) false) ∧ y.s.get 1 = some (.cells [.p (pI f), .p (pI u), .p (.bool hv), .p (pI lo), .p (pI hi), .p (.lst 0 [])] false)) ?_ ?_
  · refine Wc.seq ?_
    by_cases z1 : c = 0
    · have z1' : (c == 0) = true := by simpa using z1
      refine Wc.reg fun K hK => ?_; simp only [go_sem, ti3, ti9, ti4, ti35, ti50, ti48, ti32, ti30, z1']; refine hK _ _ ?_; clear hK K
      refine Wc.cond (t := true) (by simp only [go_sem, ti3, ti9, ti4, ti35, ti50, ti48, ti32, ti30, z1']) (fun _ => ?_) (fun hc => by cases hc)
      refine Wc.seq ?_
      refine Wc.reg fun K hK => ?_; simp only [go_sem, ti3, ti9, ti4, ti35, ti50, ti48, ti32, ti30]; refine hK _ _ ?_; clear hK K
      exact Wc.ret (Pf.ret [.tmp 4] [.c (.p (.bool false))] rfl rfl (by simp only [resultsD, go_sem, ti3, ti9, ti4, ti35, ti50, ti48, ti32, ti30]) (by simp [z1]; rfl))
    have z1' : (c == 0) = false := by simpa using z1
    by_cases z2 : t2 ≤ f
    · refine Wc.reg fun K hK => ?_; simp only [go_sem, ti3, ti9, ti4, ti35, ti50, ti48, ti32, ti30, z1', z2]; refine hK _ _ ?_; clear hK K
      refine Wc.cond (t := true) (by simp only [go_sem, ti3, ti9, ti4, ti35, ti50, ti48, ti32, ti30]) (fun _ => ?_) (fun hc => by cases hc)
      refine Wc.seq ?_
      refine Wc.reg fun K hK => ?_; simp only [go_sem, ti3, ti9, ti4, ti35, ti50, ti48, ti32, ti30]; refine hK _ _ ?_; clear hK K
      exact Wc.ret (Pf.ret [.tmp 4] [.c (.p (.bool false))] rfl rfl (by simp only [resultsD, go_sem, ti3, ti9, ti4, ti35, ti50, ti48, ti32, ti30]) (by simp [z2]; rfl))
    by_cases z3 : u < t1
    · refine Wc.reg fun K hK => ?_; simp only [go_sem, ti3, ti9, ti4, ti35, ti50, ti48, ti32, ti30, z1', z2, z3]; refine hK _ _ ?_; clear hK K
      refine Wc.cond (t := true) (by simp only [go_sem, ti3, ti9, ti4, ti35, ti50, ti48, ti32, ti30]) (fun _ => ?_) (fun hc => by cases hc)
      refine Wc.seq ?_
      refine Wc.reg fun K hK => ?_; simp only [go_sem, ti3, ti9, ti4, ti35, ti50, ti48, ti32, ti30]; refine hK _ _ ?_; clear hK K
      exact Wc.ret (Pf.ret [.tmp 4] [.c (.p (.bool false))] rfl rfl (by simp only [resultsD, go_sem, ti3, ti9, ti4, ti35, ti50, ti48, ti32, ti30]) (by simp [z3]; rfl))
    refine Wc.reg fun K hK => ?_; simp only [go_sem, ti3, ti9, ti4, ti35, ti50, ti48, ti32, ti30, z1', z2, z3]; refine hK _ _ ?_; clear hK K
    refine Wc.cond (t := false) (by simp only [go_sem, ti3, ti9, ti4, ti35, ti50, ti48, ti32, ti30]) (fun hc => by cases hc) (fun _ => Wc.skip ?_)
    exact ⟨⟨z1, z2, z3⟩, rfl, by simp only [Fs, go_sem, ti3, ti9, ti4, ti35, ti50, ti48, ti32, ti30], by simp only [go_sem, ti3, ti9, ti4, ti35, ti50, ti48, ti32, ti30], by simp only [go_sem, ti3, ti9, ti4, ti35, ti50, ti48, ti32, ti30]⟩
  rintro ⟨e, ds, s1⟩ ⟨⟨z1, z2, z3⟩, rfl, hF, g0, g1⟩
  simp only [Fs, cellsV] at hF g0 g1
  have e1 : (!(c == 0 || (decide (t2 ≤ f) || decide (u < t1)))) = true := by simp [z1, z2, z3]
  simp only [e1, Bool.true_and]
  refine Wc.seqR (fun y => (hv && (decide (v2 < lo) || decide (hi < v1))) = false ∧ y.ds = [] ∧ Fs y.e 55 [(2, .v (.c (.ref 0 0))), (3, .v (.c (.ref 1 0)))] ∧ y.s.get 1 = some (.cells [.p (pI f), .p (pI u), .p (.bool hv), .p (pI lo), .p (pI hi), .p (.lst 0 [])] false)) ?_ ?_
  · refine Wc.seq ?_
    cases hv with
    | false =>
      refine Wc.reg fun K hK => ?_; simp only [go_sem, ti3, ti9, ti4, ti35, ti50, ti48, ti32, ti30, hF, g0, g1]; refine hK _ _ ?_; clear hK K
      refine Wc.cond (t := false) (by simp only [go_sem, ti3, ti9, ti4, ti35, ti50, ti48, ti32, ti30, hF]) (fun hc => by cases hc) (fun _ => Wc.skip ?_)
      exact ⟨rfl, rfl, by simp only [Fs, go_sem, ti3, ti9, ti4, ti35, ti50, ti48, ti32, ti30, hF], g1⟩
    | true =>
      by_cases z4 : v2 < lo
      · refine Wc.reg fun K hK => ?_; simp only [go_sem, ti3, ti9, ti4, ti35, ti50, ti48, ti32, ti30, hF, g0, g1, z4]; refine hK _ _ ?_; clear hK K
        refine Wc.cond (t := true) (by simp only [go_sem, ti3, ti9, ti4, ti35, ti50, ti48, ti32, ti30, hF]) (fun _ => ?_) (fun hc => by cases hc)
        refine Wc.seq ?_
        refine Wc.reg fun K hK => ?_; simp only [go_sem, ti3, ti9, ti4, ti35, ti50, ti48, ti32, ti30, hF]; refine hK _ _ ?_; clear hK K
        exact Wc.ret (Pf.ret [.tmp 4] [.c (.p (.bool false))] rfl rfl (by simp only [resultsD, go_sem, ti3, ti9, ti4, ti35, ti50, ti48, ti32, ti30, hF]) (by simp [z4]; rfl))
      by_cases z5 : hi < v1
      · refine Wc.reg fun K hK => ?_; simp only [go_sem, ti3, ti9, ti4, ti35, ti50, ti48, ti32, ti30, hF, g0, g1, z4, z5]; refine hK _ _ ?_; clear hK K
        refine Wc.cond (t := true) (by simp only [go_sem, ti3, ti9, ti4, ti35, ti50, ti48, ti32, ti30, hF]) (fun _ => ?_) (fun hc => by cases hc)
        refine Wc.seq ?_
        refine Wc.reg fun K hK => ?_; simp only [go_sem, ti3, ti9, ti4, ti35, ti50, ti48, ti32, ti30, hF]; refine hK _ _ ?_; clear hK K
        exact Wc.ret (Pf.ret [.tmp 4] [.c (.p (.bool false))] rfl rfl (by simp only [resultsD, go_sem, ti3, ti9, ti4, ti35, ti50, ti48, ti32, ti30, hF]) (by simp [z5]; rfl))
      refine Wc.reg fun K hK => ?_; simp only [go_sem, ti3, ti9, ti4, ti35, ti50, ti48, ti32, ti30, hF, g0, g1, z4, z5]; refine hK _ _ ?_; clear hK K
      refine Wc.cond (t := false) (by simp only [go_sem, ti3, ti9, ti4, ti35, ti50, ti48, ti32, ti30, hF]) (fun hc => by cases hc) (fun _ => Wc.skip ?_)
      exact ⟨by simp [z4, z5], rfl, by simp only [Fs, go_sem, ti3, ti9, ti4, ti35, ti50, ti48, ti32, ti30, hF], g1⟩
  clear hF g0 g1 e s1
  rintro ⟨e, ds, s1⟩ ⟨z4, rfl, hF, g1⟩
  simp only [Fs] at hF g1
  simp only [z4, Bool.not_false]
  refine Wc.seqA (fun y => y.ds = [] ∧ Fs y.e 55 []) ?_ ?_
  · refine Wc.seq ?_
    refine Wc.reg fun K hK => ?_; simp only [go_sem, ti3, ti9, ti4, ti35, ti50, ti48, ti32, ti30, hF, g1, Int.natCast_zero]; refine hK _ _ ?_; clear hK K
    refine Wc.block (Wc.loop (fun k y => y.ds = [] ∧ Fs y.e 55 [(45, P' (pI 0)), (46, P' (pI 0))]) ?_ (k := 0) ?_)
    · rintro k ⟨e, ds, s1⟩ ⟨rfl, hF⟩
      simp only [Fs] at hF
      refine Wc.seq ?_
      refine Wc.reg fun K hK => ?_; simp only [go_sem, ti3, ti9, ti4, ti35, ti50, ti48, ti32, ti30, hF]; refine hK _ _ ?_; clear hK K
      refine Wc.seq (Wc.cond (t := false) (by simp only [go_sem, ti3, ti9, ti4, ti35, ti50, ti48, ti32, ti30, hF]) (fun hc => by cases hc) (fun _ => Wc.exit ?_))
      exact ⟨rfl, by simp only [Fs, go_sem, ti3, ti9, ti4, ti35, ti50, ti48, ti32, ti30, hF]⟩
    · exact ⟨rfl, by simp only [Fs, go_sem, ti3, ti9, ti4, ti35, ti50, ti48, ti32, ti30, hF]⟩
  clear hF g1 e s1
  rintro ⟨e, ds, s1⟩ ⟨rfl, hF⟩
  simp only [Fs] at hF
  refine Wc.seq ?_
  refine Wc.reg fun K hK => ?_; simp only [go_sem, ti3, ti9, ti4, ti35, ti50, ti48, ti32, ti30, hF]; refine hK _ _ ?_; clear hK K
  exact Wc.ret (Pf.ret [.tmp 4] [.c (.p (.bool true))] rfl rfl (by simp only [resultsD, go_sem, ti3, ti9, ti4, ti35, ti50, ti48, ti32, ti30, hF]) rfl)
end Go.Proofs.YtafaoldmemcigaaGreat.Ab
namespace Go.Proofs.YtafaoldmemcigaaGreat.Ab
set_option maxHeartbeats 4000000
set_option linter.unusedSimpArgs false
set_option linter.unusedVariables false
/-! ### reading numbers -/
/-- The number at the beginning of a string, its bytes, why not. -/
def rdB : Nat → Nat → List UInt8 → Nat × Nat × Int
  | _, _, [] => (0, 0, 11)
  | i, acc, b :: r => if (128 ≤ b.toNat ∧ i = 8) ∨ (b.toNat = 0 ∧ 0 < i) then (0, 0, 12) else if b.toNat < 128 then (acc + b.toNat * 2 ^ (7 * i), i + 1, 0) else rdB (i + 1) (acc + (b.toNat - 128) * 2 ^ (7 * i)) r
def rdV (s : List UInt8) : Int × Nat × Int := if (rdB 0 0 s).2.2 ≠ 0 then (0, 0, (rdB 0 0 s).2.2) else if 1152921504606846976 < (rdB 0 0 s).1 then (0, 0, 12) else ((rdB 0 0 s).1, (rdB 0 0 s).2.1, 0)
def unf (u : Nat) : Int := if u % 2 = 0 then ((u / 2 : Nat) : Int) else -((u / 2 : Nat) : Int) - 1
def rdS (s : List UInt8) : Int × Nat × Int := if (rdB 0 0 s).2.2 ≠ 0 then (0, 0, (rdB 0 0 s).2.2) else if inR (unf (rdB 0 0 s).1) = false then (0, 0, 12) else (unf (rdB 0 0 s).1, (rdB 0 0 s).2.1, 0)
/-! ### lists of numbers -/
def rdN : Nat → List UInt8 → List Int × Nat × Int
  | 0, _ => ([], 0, 0)
  | k + 1, s => if (rdS s).2.2 ≠ 0 then ([], 0, (rdS s).2.2) else
    if (rdN k (s.drop (rdS s).2.1)).2.2 ≠ 0 then ([], 0, (rdN k (s.drop (rdS s).2.1)).2.2) else ((rdS s).1 :: (rdN k (s.drop (rdS s).2.1)).1, (rdS s).2.1 + (rdN k (s.drop (rdS s).2.1)).2.1, 0)
def decI (s : List UInt8) : List Int × Int := if (rdV s).2.2 ≠ 0 then ([], (rdV s).2.2) else if 20000 < (rdV s).1 then ([], 4) else
  if (rdN (rdV s).1.toNat (s.drop (rdV s).2.1)).2.2 ≠ 0 then ([], (rdN (rdV s).1.toNat (s.drop (rdV s).2.1)).2.2) else
  if (rdV s).2.1 + (rdN (rdV s).1.toNat (s.drop (rdV s).2.1)).2.1 ≠ s.length then ([], 12) else ((rdN (rdV s).1.toNat (s.drop (rdV s).2.1)).1, 0)
/-! ### columns -/
/-- A reader of a text: where it is, why it stopped. -/
abbrev RdT := Nat × Int
def numR (rd : List UInt8 → Int × Nat × Int) (t : List UInt8) (st : RdT) : Int × RdT := if st.2 ≠ 0 then (0, st) else ((rd (t.drop st.1)).1, (st.1 + (rd (t.drop st.1)).2.1, (rd (t.drop st.1)).2.2))
def runB (m : Nat) (y : Int × RdT) : Int := if y.2.2 = 0 ∧ (y.1 = 0 ∨ (m : Int) < y.1) then 12 else y.2.2
/-- The runs of m numbers, by fuel. -/
def runsR (t : List UInt8) : Nat → Nat → RdT → List Int × RdT
  | 0, _, st => ([], st)
  | k + 1, m, st => if m = 0 then ([], st) else
    let x := numR rdS t st
    let y := numR rdV t x.2
    if runB m y ≠ 0 then ([], (y.2.1, runB m y)) else
    let q := runsR t k (m - y.1.toNat) y.2
    (if q.2.2 ≠ 0 then ([], q.2) else (List.replicate y.1.toNat x.1 ++ q.1, q.2))
def sumsW (f : Int) : List Int → List Int
  | [] => [f]
  | x :: r => f :: sumsW (IntKind.i64.wrap (f + x)) r
def timesR (t : List UInt8) (c : Nat) (st : RdT) : List Int × RdT :=
  if c = 0 then ([], st) else
  let f := numR rdS t st
  if c = 1 then ([f.1], f.2) else
  let d := numR rdS t f.2
  let o := runsR t (c - 2) (c - 2) d.2
  (sumsW f.1 (sumsW d.1 o.1), o.2)
def valuesR (t : List UInt8) (c : Nat) (st : RdT) : List Int × RdT :=
  if c = 0 then ([], st) else
  let f := numR rdS t st
  let o := runsR t (c - 1) (c - 1) f.2
  (sumsW f.1 o.1, o.2)
def colR (rd : Nat → RdT → List Int × RdT) (enc : List Int → List UInt8 × Int) (t : List UInt8) : List Int × Int :=
  let c := numR rdV t (0, 0)
  if 20000 < c.1 then ([], 4) else
  let q := rd c.1.toNat c.2
  if q.2.2 ≠ 0 then ([], q.2.2) else if q.2.1 ≠ t.length then ([], 12) else if (enc q.1).2 = 0 ∧ (enc q.1).1 = t then (q.1, 0) else ([], 12)
def decT (t : List UInt8) : List Int × Int := colR (timesR t) encT t
def decV (t : List UInt8) : List Int × Int := colR (valuesR t) encV t
def decF (f : Int) (s : List UInt8) : List Int × Int := if f = 0 then decT s else if f = 1 then decV s else decI s
/-! ### parts -/
/-- The contents of the parts, if there are just so many. -/
def splitN : Nat → List UInt8 → Option (List (List UInt8))
  | 0, s => if s = [] then some [] else none
  | k + 1, s => if s = [] then none else if (rdV s).2.2 ≠ 0 ∨ ((s.length - (rdV s).2.1 : Nat) : Int) < (rdV s).1 then none else
    (splitN k (s.drop ((rdV s).2.1 + (rdV s).1.toNat))).map (((s.drop (rdV s).2.1).take (rdV s).1.toNat) :: ·)
end Go.Proofs.YtafaoldmemcigaaGreat.Ab
namespace Go.Proofs.YtafaoldmemcigaaGreat.Ab
set_option maxHeartbeats 4000000
set_option linter.unusedSimpArgs false
set_option linter.unusedVariables false
/-- A column that is read: its form, its setter. -/
abbrev ColR (A : Type) := Int × (A → Int → A)
def unpkG {A : Type} : List (ColR A) → List (List UInt8) → List A → Option (List A)
  | c :: cs, s :: ss, l => if (decF c.1 s).2 ≠ 0 ∨ (decF c.1 s).1.length ≠ l.length then none else unpkG cs ss (List.zipWith c.2 l (decF c.1 s).1)
  | _, _, l => some l
def unpk {A : Type} (z : A) : List (ColR A) → List (List UInt8) → Option (List A)
  | c :: cs, s :: ss => if (decF c.1 s).2 ≠ 0 then none else unpkG cs ss ((decF c.1 s).1.map (c.2 z))
  | _, _ => some []
def smpR : List (ColR I2) := [(0, fun x n => (n, x.2)), (1, fun x n => (x.1, n))]
def bckR : List (ColR I2) := [(1, fun x n => (n, x.2)), (1, fun x n => (x.1, n))]
def hstR : List (ColR HSm) := [(0, fun x n => { x with t := n }), (1, fun x n => { x with h := { x.h with p := n } }), (1, fun x n => { x with h := { x.h with c := n } }), (1, fun x n => { x with h := { x.h with mn := n } }), (1, fun x n => { x with h := { x.h with mx := n } })]
def zHS : HSm := ⟨0, ⟨0, 0, 0, 0, 0, []⟩⟩
/-- Each histogram gets its sum and its buckets. -/
def distH : List HSm → List Int → List Int → List I2 → Option (List HSm)
  | x :: l, n :: ns, s :: ss, bs => if n < 0 ∨ (bs.length : Int) < n then none else (distH l ns ss (bs.drop n.toNat)).map ({ x with h := { x.h with s := s, bs := bs.take n.toNat } } :: ·)
  | _, _, _, bs => if bs = [] then some [] else none
def unpH : List (List UInt8) → Option (List HSm)
  | [c0, c1, c2, c3, c4, c5, c6, c7, c8] => match unpk zHS hstR [c0, c1, c2, c3, c4] with
    | none => none
    | some l => if (decV c5).2 ≠ 0 ∨ (decV c5).1.length ≠ l.length then none else match unpk (0, 0) bckR [c6, c7] with
      | none => none
      | some bs => if (decI c8).2 ≠ 0 ∨ (decI c8).1.length ≠ l.length then none else distH l (decV c5).1 (decI c8).1 bs
  | _ => none
/-- The series in data, valid or not. -/
def parseS (lb : List Lb) (d : List UInt8) : Option Ser :=
  if (rdV d).2.2 ≠ 0 ∨ 262144 < d.length then none else
  if (rdV d).1 = 3 then (match splitN 9 (d.drop (rdV d).2.1) with
    | none => none
    | some ss => (unpH ss).map fun l => ⟨lb, (rdV d).1, [], l⟩)
  else match splitN 2 (d.drop (rdV d).2.1) with
    | none => none
    | some ss => (unpk (0, 0) smpR ss).map fun l => ⟨lb, (rdV d).1, l, []⟩
/-- The data of Encode. -/
def encO (x : Ser) : Option (List UInt8) := if serOK x = false then none else match colsOK (serCs x) with
  | none => none
  | some ss => jn (appV [] x.k).1 ss
theorem encS_some {x : Ser} {d : List UInt8} (h : encO x = some d) : encS x = .tup [chV 1 (.lst x.lb.length (x.lb.flatMap lbP)) (serZ x).pd d, .c (.p (pI 0))] := by
  unfold encO at h
  unfold encS encC
  split at h
  · cases h
  · rename_i hs
    rw [if_neg hs]
    split at h
    · cases h
    · rename_i ss hss
      rw [hss]
      simp only [h, finE]
theorem encS_none {x : Ser} (h : encO x = none) : ∃ e, e ≠ 0 ∧ encS x = .tup [noCh, .c (.p (pI e))] := by
  unfold encO at h
  unfold encS encC
  split at h
  · rename_i hs; rw [if_pos hs]; exact ⟨1, by decide, rfl⟩
  · rename_i hs
    rw [if_neg hs]
    split at h
    · rename_i hss; rw [hss]; exact ⟨4, by decide, rfl⟩
    · rename_i ss hss
      rw [hss]
      simp only [h, finE]
      exact ⟨4, by decide, rfl⟩
instance : DecidableEq Zo := fun ⟨a, b, c, d, e⟩ ⟨a', b', c', d', e'⟩ => decidable_of_iff (a = a' ∧ b = b' ∧ c = c' ∧ d = d' ∧ e = e') (by simp)
/-- The series of a chunk. -/
def decR (lb : List Lb) (z : Zo) (d : List UInt8) : Option Ser := match parseS lb d with
  | none => none
  | some x => if encO x = some d ∧ serZ x = z then some x else none
/-- A histogram without its sum and its buckets. -/
def bareH (x : HSm) : HSm := ⟨x.t, ⟨x.h.p, x.h.c, 0, x.h.mn, x.h.mx, []⟩⟩
/-- What encO tells. -/
theorem encO_some {x : Ser} {d : List UInt8} (h : encO x = some d) : serOK x = true ∧ (x.k = 1 ∨ x.k = 2 ∨ x.k = 3) ∧ ∃ ss, colsOK (serCs x) = some ss ∧ d = vb x.k.toNat ++ flatP ss ∧ d.length ≤ 262144 := by
  unfold encO at h
  split at h
  · cases h
  · rename_i hs
    have hs' : serOK x = true := by simpa using hs
    have hk : x.k = 1 ∨ x.k = 2 ∨ x.k = 3 := by
      by_cases h3 : x.k = 3
      · exact .inr (.inr h3)
      · rcases (serOK_s hs' h3).1 with h | h
        · exact .inl h
        · exact .inr (.inl h)
    refine ⟨hs', hk, ?_⟩
    split at h
    · cases h
    · rename_i ss hss
      have e : (appV [] x.k).1 = vb x.k.toNat := by unfold appV; rw [if_neg (by omega)]; rfl
      have hv := vb_len10 (n := x.k.toNat) (by omega)
      rw [e, jn_eq _ _ (by omega)] at h
      split at h
      · cases h
      · rename_i hl
        cases h
        exact ⟨ss, hss, rfl, by omega⟩
end Go.Proofs.YtafaoldmemcigaaGreat.Ab
namespace Go.Proofs.YtafaoldmemcigaaGreat.Ab
set_option maxHeartbeats 8000000
set_option maxRecDepth 10000
set_option linter.unusedSimpArgs false
set_option linter.unusedVariables false
/-- 18: Great, of a histogram -/
theorem pf18 (h : Hst) : Pf E0 18 [.agg (h.pd.map .p)] (P' (.bool (decide (40 < h.bs.length)))) := by
  refine Pf.body (fn := Tryz.f18) (by kernel_rfl) rfl ?_; simp only [List.map_cons, List.map_nil, List.cons_append, List.nil_append, List.length_cons, List.length_nil, Tryz.ntmps18, List.replicate, Nat.reduceSub, Nat.reduceAdd]
  refine Wc.seq ?_
  refine Wc.reg fun K hK => ?_; simp only [go_sem, ti3, ti9, ti4, ti35, ti22, ti23, ti24, ti26, ti32, ti34, ti45, ti53, ti55, ti57, ti64]; refine hK _ _ ?_; clear hK K
  refine Wc.seq ?_
  refine Wc.reg fun K hK => ?_; simp only [go_sem, ti3, ti9, ti4, ti35, ti22, ti23, ti24, ti26, ti32, ti34, ti45, ti53, ti55, ti57, ti64]; refine hK _ _ ?_; clear hK K
  rw [show decide (40 < h.bs.length) = decide ((40 : Int) < h.bs.length) by rw [decide_eq_decide]; omega]
  exact Wc.ret (Pf.ret [.tmp 2] [.c (.p (.bool (decide ((40 : Int) < h.bs.length))))] rfl rfl (by simp only [resultsD, go_sem, ti3, ti9, ti4, ti35, ti22, ti23, ti24, ti26, ti32, ti34, ti45, ti53, ti55, ti57, ti64]) rfl)
def lbG (x : Lb) : Bool := decide (61 < x.1.length) || decide (201 < x.2.length)
def lbsG (l : List Lb) : Bool := l.any lbG || decide (17 < l.length)
/-- 19: Great, of labels -/
theorem pf19 (l : List Lb) (hl : l.length < 2^60) : Pf E0 19 [.c (.p (.lst l.length (l.flatMap lbP)))] (P' (.bool (lbsG l))) := by
  have hfl : (l.flatMap lbP).length = l.length * 2 := flat_len (k := 2) (fun _ => rfl) l
  refine Pf.body (fn := Tryz.f19) (by kernel_rfl) rfl ?_; simp only [List.map_cons, List.map_nil, List.cons_append, List.nil_append, List.length_cons, List.length_nil, Tryz.ntmps19, List.replicate, Nat.reduceSub, Nat.reduceAdd]
  refine Wc.seq ?_
  refine Wc.reg fun K hK => ?_; simp only [go_sem, ti3, ti9, ti4, ti35, ti22, ti23, ti24, ti26, ti32, ti34, ti45, ti53, ti55, ti57, ti64]; refine hK _ _ ?_; clear hK K
  refine Wc.seqR (fun y => l.any lbG = false ∧ y.ds = [] ∧ y.e.length = 29 ∧ y.e.getD 0 .junk = P' (.lst l.length (l.flatMap lbP))) ?_ ?_
  · refine Wc.seq ?_
    refine Wc.reg fun K hK => ?_; simp only [go_sem, ti3, ti9, ti4, ti35, ti22, ti23, ti24, ti26, ti32, ti34, ti45, ti53, ti55, ti57, ti64, Int.natCast_zero]; refine hK _ _ ?_; clear hK K
    refine Wc.block (Wc.loop (fun k y => ∃ i : Nat, k = l.length - i ∧ i ≤ l.length ∧ y.ds = [] ∧ y.e.length = 29 ∧ y.e.getD 0 .junk = P' (.lst l.length (l.flatMap lbP)) ∧ y.e.getD 3 .junk = P' (pI i) ∧ (l.take i).any lbG = false) ?_ (k := l.length) ?_)
    · rintro k ⟨e, ds, s1⟩ ⟨i, rfl, hi, rfl, hlen, h0, h3, hn⟩
      simp only at hlen h0 h3
      refine Wc.seq (Wc.seq ?_)
      refine Wc.reg fun K hK => ?_; simp only [go_sem, ti3, ti9, ti4, ti35, ti22, ti23, ti24, ti26, ti32, ti34, ti45, ti53, ti55, ti57, ti64, hlen, h0, h3]; refine hK _ _ ?_; clear hK K
      refine Wc.cond (t := decide ((i : Int) < l.length)) (by simp only [go_sem, ti3, ti9, ti4, ti35, ti22, ti23, ti24, ti26, ti32, ti34, ti45, ti53, ti55, ti57, ti64, hlen]) (fun hc => ?_) (fun hc => ?_)
      · have hil : i < l.length := by have h9 : (i : Int) < l.length := (by simpa using hc); omega
        obtain ⟨x, hx⟩ : ∃ x, l[i]? = some x := ⟨l[i], List.getElem?_eq_getElem hil⟩
        have hix := ixA ti22 rfl ti64 (j := i) (m := l.length) (cs := l.flatMap lbP) hil hfl (by decide)
        have hca := rpA (off := i * 2) (drop_flat (f := lbP) (k := 2) (fun _ => rfl) hx) (by rw [hfl]; omega)
        have hcc := rpA (off := i * 2 + 1) (cs := l.flatMap lbP) (pre := [.str x.2]) (rest := (l.drop (i + 1)).flatMap lbP) (by rw [← List.drop_drop, drop_flat (f := lbP) (k := 2) (fun _ => rfl) hx]; rfl) (by rw [hfl]; omega)
        have bad : lbG x = true → lbsG l = true := fun h => by
          unfold lbsG
          rw [List.any_eq_true.2 ⟨x, List.mem_of_getElem? hx, h⟩, Bool.true_or]
        refine Wc.skip (Wc.seq (Wc.block (Wc.seq ?_)))
        by_cases z1 : 61 < x.1.length
        · have f1 : ((61 : Int) < (x.1.length : Int)) = True := by simp only [eq_iff_iff, iff_true]; omega
          refine Wc.reg fun K hK => ?_; simp only [go_sem, ti3, ti9, ti4, ti35, ti22, ti23, ti24, ti26, ti32, ti34, ti45, ti53, ti55, ti57, ti64, hlen, h0, h3, hix, hca, f1]; refine hK _ _ ?_; clear hK K
          refine Wc.cond (t := true) (by simp only [go_sem, ti3, ti9, ti4, ti35, ti22, ti23, ti24, ti26, ti32, ti34, ti45, ti53, ti55, ti57, ti64, hlen]) (fun _ => ?_) (fun hc => by cases hc)
          refine Wc.seq ?_
          refine Wc.reg fun K hK => ?_; simp only [go_sem, ti3, ti9, ti4, ti35, ti22, ti23, ti24, ti26, ti32, ti34, ti45, ti53, ti55, ti57, ti64, hlen]; refine hK _ _ ?_; clear hK K
          rw [bad (by simp [lbG, z1])]
          exact Wc.ret (Pf.ret [.tmp 2] [.c (.p (.bool true))] rfl rfl (by simp only [resultsD, go_sem, ti3, ti9, ti4, ti35, ti22, ti23, ti24, ti26, ti32, ti34, ti45, ti53, ti55, ti57, ti64, hlen]) rfl)
        have f1 : ((61 : Int) < (x.1.length : Int)) = False := by simp only [eq_iff_iff, iff_false]; omega
        refine Wc.reg fun K hK => ?_; simp only [go_sem, ti3, ti9, ti4, ti35, ti22, ti23, ti24, ti26, ti32, ti34, ti45, ti53, ti55, ti57, ti64, hlen, h0, h3, hix, hca, hcc, f1]; refine hK _ _ ?_; clear hK K
        refine Wc.cond (t := decide ((201 : Int) < x.2.length)) (by simp only [go_sem, ti3, ti9, ti4, ti35, ti22, ti23, ti24, ti26, ti32, ti34, ti45, ti53, ti55, ti57, ti64, hlen]) (fun hc => ?_) (fun hc => ?_)
        · have z2 : (201 : Int) < x.2.length := of_decide_eq_true hc
          have z3 : 201 < x.2.length := by omega
          refine Wc.seq ?_
          refine Wc.reg fun K hK => ?_; simp only [go_sem, ti3, ti9, ti4, ti35, ti22, ti23, ti24, ti26, ti32, ti34, ti45, ti53, ti55, ti57, ti64, hlen]; refine hK _ _ ?_; clear hK K
          rw [bad (by simp [lbG, z3])]
          exact Wc.ret (Pf.ret [.tmp 2] [.c (.p (.bool true))] rfl rfl (by simp only [resultsD, go_sem, ti3, ti9, ti4, ti35, ti22, ti23, ti24, ti26, ti32, ti34, ti45, ti53, ti55, ti57, ti64, hlen]) rfl)
        · have z2 : ¬ (201 : Int) < x.2.length := of_decide_eq_false hc
          have z3 : ¬ 201 < x.2.length := by omega
          refine Wc.skip ?_
          refine Wc.reg fun K hK => ?_; simp only [go_sem, ti3, ti9, ti4, ti35, ti22, ti23, ti24, ti26, ti32, ti34, ti45, ti53, ti55, ti57, ti64, hlen, h0, h3, i64n i (by omega)]; refine hK _ _ ?_; clear hK K
          refine ⟨l.length - (i + 1), by omega, i + 1, rfl, by omega, rfl, by simp only [go_sem, ti3, ti9, ti4, ti35, ti22, ti23, ti24, ti26, ti32, ti34, ti45, ti53, ti55, ti57, ti64, hlen], by simp only [go_sem, ti3, ti9, ti4, ti35, ti22, ti23, ti24, ti26, ti32, ti34, ti45, ti53, ti55, ti57, ti64, hlen, h0], by simp only [go_sem, ti3, ti9, ti4, ti35, ti22, ti23, ti24, ti26, ti32, ti34, ti45, ti53, ti55, ti57, ti64, hlen], ?_⟩
          rw [take_snoc hx, List.any_append, hn]
          simp only [List.any_cons, List.any_nil, lbG, decide_eq_false z1, decide_eq_false z3, Bool.or_self]
      · have hil : i = l.length := by have h9 : ¬ (i : Int) < l.length := (by simpa using hc); omega
        subst hil
        rw [List.take_length] at hn
        exact Wc.exit ⟨hn, rfl, by simp only [go_sem, ti3, ti9, ti4, ti35, ti22, ti23, ti24, ti26, ti32, ti34, ti45, ti53, ti55, ti57, ti64, hlen], by simp only [go_sem, ti3, ti9, ti4, ti35, ti22, ti23, ti24, ti26, ti32, ti34, ti45, ti53, ti55, ti57, ti64, hlen, h0]⟩
    · exact ⟨0, rfl, by omega, rfl, rfl, rfl, rfl, rfl⟩
  rintro ⟨e, ds, s1⟩ ⟨hn, rfl, hlen, h0⟩
  simp only at hlen h0
  refine Wc.seq ?_
  refine Wc.reg fun K hK => ?_; simp only [go_sem, ti3, ti9, ti4, ti35, ti22, ti23, ti24, ti26, ti32, ti34, ti45, ti53, ti55, ti57, ti64, hlen, h0]; refine hK _ _ ?_; clear hK K
  have e1 : lbsG l = decide ((17 : Int) < l.length) := by unfold lbsG; rw [hn, Bool.false_or, decide_eq_decide]; omega
  rw [e1]
  exact Wc.ret (Pf.ret [.tmp 2] [.c (.p (.bool (decide ((17 : Int) < l.length))))] rfl rfl (by simp only [resultsD, go_sem, ti3, ti9, ti4, ti35, ti22, ti23, ti24, ti26, ti32, ti34, ti45, ti53, ti55, ti57, ti64, hlen]) rfl)
/-- 20: Great, of samples -/
theorem pf20 (l : List I2) : Pf E0 20 [.c (.p (.lst l.length (l.flatMap p2)))] (P' (.bool (decide (24 < l.length)))) := by
  refine Pf.body (fn := Tryz.f20) (by kernel_rfl) rfl ?_; simp only [List.map_cons, List.map_nil, List.cons_append, List.nil_append, List.length_cons, List.length_nil, Tryz.ntmps20, List.replicate, Nat.reduceSub, Nat.reduceAdd]
  refine Wc.seq ?_
  refine Wc.reg fun K hK => ?_; simp only [go_sem, ti3, ti9, ti4, ti35, ti22, ti23, ti24, ti26, ti32, ti34, ti45, ti53, ti55, ti57, ti64]; refine hK _ _ ?_; clear hK K
  refine Wc.seq ?_
  refine Wc.reg fun K hK => ?_; simp only [go_sem, ti3, ti9, ti4, ti35, ti22, ti23, ti24, ti26, ti32, ti34, ti45, ti53, ti55, ti57, ti64]; refine hK _ _ ?_; clear hK K
  rw [show decide (24 < l.length) = decide ((24 : Int) < l.length) by rw [decide_eq_decide]; omega]
  exact Wc.ret (Pf.ret [.tmp 2] [.c (.p (.bool (decide ((24 : Int) < l.length))))] rfl rfl (by simp only [resultsD, go_sem, ti3, ti9, ti4, ti35, ti22, ti23, ti24, ti26, ti32, ti34, ti45, ti53, ti55, ti57, ti64]) rfl)
def serG (x : Ser) : Bool := x.hs.any (fun y => decide (40 < y.h.bs.length)) || (lbsG x.lb || (decide (24 < x.sm.length) || decide (6 < x.hs.length)))
/-- 7: GreatSeries -/
theorem pf7 (x : Ser) (hh : x.hs.length < 2^60) (hlb : x.lb.length < 2^60) : Pf E0 7 [.agg (x.pd.map .p)] (P' (.bool (serG x))) := by
  have hfl : (x.hs.flatMap HSm.pd).length = x.hs.length * 7 := flat_len (k := 7) (fun _ => rfl) x.hs
  refine Pf.body (fn := Tryz.f7) (by kernel_rfl) rfl ?_; simp only [List.map_cons, List.map_nil, List.cons_append, List.nil_append, List.length_cons, List.length_nil, Tryz.ntmps7, List.replicate, Nat.reduceSub, Nat.reduceAdd]
  refine Wc.seq ?_
  refine Wc.reg fun K hK => ?_; simp only [go_sem, ti3, ti9, ti4, ti35, ti22, ti23, ti24, ti26, ti32, ti34, ti45, ti53, ti55, ti57, ti64]; refine hK _ _ ?_; clear hK K
  refine Wc.seqR (fun y => x.hs.any (fun y => decide (40 < y.h.bs.length)) = false ∧ y.ds = [] ∧ y.e.length = 32 ∧ y.e.getD 1 .junk = .v (.c (.ref 0 0)) ∧ y.s.get 0 = some (.cells (x.pd.map .p) false)) ?_ ?_
  · refine Wc.seq ?_
    refine Wc.reg fun K hK => ?_; simp only [go_sem, ti3, ti9, ti4, ti35, ti22, ti23, ti24, ti26, ti32, ti34, ti45, ti53, ti55, ti57, ti64, Int.natCast_zero]; refine hK _ _ ?_; clear hK K
    refine Wc.block (Wc.loop (fun k y => ∃ i : Nat, k = x.hs.length - i ∧ i ≤ x.hs.length ∧ y.ds = [] ∧ y.e.length = 32 ∧ y.e.getD 1 .junk = .v (.c (.ref 0 0)) ∧ y.e.getD 3 .junk = P' (pI i) ∧ y.s.get 0 = some (.cells (x.pd.map .p) false) ∧ (x.hs.take i).any (fun y => decide (40 < y.h.bs.length)) = false) ?_ (k := x.hs.length) ?_)
    · rintro k ⟨e, ds, s1⟩ ⟨i, rfl, hi, rfl, hlen, h1, h3, g0, hn⟩
      simp only at hlen h1 h3 g0
      have g0' := g0
      simp only [List.map_cons, List.map_nil] at g0
      refine Wc.seq (Wc.seq ?_)
      refine Wc.reg fun K hK => ?_; simp only [go_sem, ti3, ti9, ti4, ti35, ti22, ti23, ti24, ti26, ti32, ti34, ti45, ti53, ti55, ti57, ti64, hlen, h1, h3, g0]; refine hK _ _ ?_; clear hK K
      refine Wc.cond (t := decide ((i : Int) < x.hs.length)) (by simp only [go_sem, ti3, ti9, ti4, ti35, ti22, ti23, ti24, ti26, ti32, ti34, ti45, ti53, ti55, ti57, ti64, hlen]) (fun hc => ?_) (fun hc => ?_)
      · have hil : i < x.hs.length := by have h9 : (i : Int) < x.hs.length := (by simpa using hc); omega
        obtain ⟨u, hu⟩ : ∃ u, x.hs[i]? = some u := ⟨x.hs[i], List.getElem?_eq_getElem hil⟩
        have hix := ixA ti24 rfl ti57 (j := i) (m := x.hs.length) (cs := x.hs.flatMap HSm.pd) hil hfl (by decide)
        have hcc := rpA (off := i * 7 + 1) (cs := x.hs.flatMap HSm.pd) (pre := u.h.pd) (rest := (x.hs.drop (i + 1)).flatMap HSm.pd) (by rw [← List.drop_drop, drop_flat (f := HSm.pd) (k := 7) (fun _ => rfl) hu]; rfl) (by rw [hfl]; omega)
        refine Wc.skip (Wc.seq (Wc.block (Wc.seq ?_)))
        refine Wc.reg fun K hK => ?_; simp only [go_sem, ti3, ti9, ti4, ti35, ti22, ti23, ti24, ti26, ti32, ti34, ti45, ti53, ti55, ti57, ti64, hlen, h1, h3, g0, hix, hcc]
        refine wpCall.pf (pf18 u.h) (by kernel_rfl) (by kernel_rfl) rfl rfl ?_
        simp only [go_sem, ti3, ti9, ti4, ti35, ti22, ti23, ti24, ti26, ti32, ti34, ti45, ti53, ti55, ti57, ti64, hlen, h1, h3, g0, hix, hcc]; refine hK _ _ ?_; clear hK K
        refine Wc.cond (t := decide (40 < u.h.bs.length)) (by simp only [go_sem, ti3, ti9, ti4, ti35, ti22, ti23, ti24, ti26, ti32, ti34, ti45, ti53, ti55, ti57, ti64, hlen]) (fun hc => ?_) (fun hc => ?_)
        · have e1 : serG x = true := by
            unfold serG
            rw [List.any_eq_true.2 ⟨u, List.mem_of_getElem? hu, hc⟩, Bool.true_or]
          refine Wc.seq ?_
          refine Wc.reg fun K hK => ?_; simp only [go_sem, ti3, ti9, ti4, ti35, ti22, ti23, ti24, ti26, ti32, ti34, ti45, ti53, ti55, ti57, ti64, hlen]; refine hK _ _ ?_; clear hK K
          rw [e1]
          exact Wc.ret (Pf.ret [.tmp 2] [.c (.p (.bool true))] rfl rfl (by simp only [resultsD, go_sem, ti3, ti9, ti4, ti35, ti22, ti23, ti24, ti26, ti32, ti34, ti45, ti53, ti55, ti57, ti64, hlen]) rfl)
        · refine Wc.skip ?_
          refine Wc.reg fun K hK => ?_; simp only [go_sem, ti3, ti9, ti4, ti35, ti22, ti23, ti24, ti26, ti32, ti34, ti45, ti53, ti55, ti57, ti64, hlen, h1, h3, i64n i (by omega)]; refine hK _ _ ?_; clear hK K
          refine ⟨x.hs.length - (i + 1), by omega, i + 1, rfl, by omega, rfl, by simp only [go_sem, ti3, ti9, ti4, ti35, ti22, ti23, ti24, ti26, ti32, ti34, ti45, ti53, ti55, ti57, ti64, hlen], by simp only [go_sem, ti3, ti9, ti4, ti35, ti22, ti23, ti24, ti26, ti32, ti34, ti45, ti53, ti55, ti57, ti64, hlen, h1], by simp only [go_sem, ti3, ti9, ti4, ti35, ti22, ti23, ti24, ti26, ti32, ti34, ti45, ti53, ti55, ti57, ti64, hlen], g0', ?_⟩
          rw [take_snoc hu, List.any_append, hn]
          simp only [List.any_cons, List.any_nil, hc, Bool.or_self]
      · have hil : i = x.hs.length := by have h9 : ¬ (i : Int) < x.hs.length := (by simpa using hc); omega
        subst hil
        rw [List.take_length] at hn
        exact Wc.exit ⟨hn, rfl, by simp only [go_sem, ti3, ti9, ti4, ti35, ti22, ti23, ti24, ti26, ti32, ti34, ti45, ti53, ti55, ti57, ti64, hlen], by simp only [go_sem, ti3, ti9, ti4, ti35, ti22, ti23, ti24, ti26, ti32, ti34, ti45, ti53, ti55, ti57, ti64, hlen, h1], g0'⟩
    · exact ⟨0, rfl, by omega, rfl, rfl, rfl, rfl, by simp only [go_sem, ti3, ti9, ti4, ti35, ti22, ti23, ti24, ti26, ti32, ti34, ti45, ti53, ti55, ti57, ti64], rfl⟩
  rintro ⟨e, ds, s1⟩ ⟨hn, rfl, hlen, h1, g0⟩
  simp only at hlen h1 g0
  simp only [List.map_cons, List.map_nil] at g0
  have e1 : serG x = (lbsG x.lb || (decide (24 < x.sm.length) || decide (6 < x.hs.length))) := by unfold serG; rw [hn, Bool.false_or]
  rw [e1]
  refine Wc.seq ?_
  refine Wc.reg fun K hK => ?_; simp only [go_sem, ti3, ti9, ti4, ti35, ti22, ti23, ti24, ti26, ti32, ti34, ti45, ti53, ti55, ti57, ti64, hlen, h1, g0]
  refine wpCall.pf (pf19 x.lb hlb) (by kernel_rfl) (by kernel_rfl) rfl rfl ?_
  cases z1 : lbsG x.lb with
  | true =>
    simp only [go_sem, ti3, ti9, ti4, ti35, ti22, ti23, ti24, ti26, ti32, ti34, ti45, ti53, ti55, ti57, ti64, hlen, h1, g0, z1]; refine hK _ _ ?_; clear hK K
    try rw [z1]
    rw [Bool.true_or]
    exact Wc.ret (Pf.ret [.tmp 2] [.c (.p (.bool true))] rfl rfl (by simp only [resultsD, go_sem, ti3, ti9, ti4, ti35, ti22, ti23, ti24, ti26, ti32, ti34, ti45, ti53, ti55, ti57, ti64, hlen]) rfl)
  | false =>
    simp only [go_sem, ti3, ti9, ti4, ti35, ti22, ti23, ti24, ti26, ti32, ti34, ti45, ti53, ti55, ti57, ti64, hlen, h1, g0, z1]
    refine wpCall.pf (pf20 x.sm) (by kernel_rfl) (by kernel_rfl) rfl rfl ?_
    cases z2 : decide (24 < x.sm.length) with
    | true =>
      simp only [go_sem, ti3, ti9, ti4, ti35, ti22, ti23, ti24, ti26, ti32, ti34, ti45, ti53, ti55, ti57, ti64, hlen, h1, g0, z1, z2]; refine hK _ _ ?_; clear hK K
      try rw [z1]
      try rw [z2]
      rw [Bool.false_or, Bool.true_or]
      exact Wc.ret (Pf.ret [.tmp 2] [.c (.p (.bool true))] rfl rfl (by simp only [resultsD, go_sem, ti3, ti9, ti4, ti35, ti22, ti23, ti24, ti26, ti32, ti34, ti45, ti53, ti55, ti57, ti64, hlen]) rfl)
    | false =>
      simp only [go_sem, ti3, ti9, ti4, ti35, ti22, ti23, ti24, ti26, ti32, ti34, ti45, ti53, ti55, ti57, ti64, hlen, h1, g0, z1, z2]; refine hK _ _ ?_; clear hK K
      try rw [z1]
      try rw [z2]
      rw [Bool.false_or, Bool.false_or, show decide (6 < x.hs.length) = decide ((6 : Int) < x.hs.length) by rw [decide_eq_decide]; omega]
      exact Wc.ret (Pf.ret [.tmp 2] [.c (.p (.bool (decide ((6 : Int) < x.hs.length))))] rfl rfl (by simp only [resultsD, go_sem, ti3, ti9, ti4, ti35, ti22, ti23, ti24, ti26, ti32, ti34, ti45, ti53, ti55, ti57, ti64, hlen]) rfl)
theorem serG_sz {x : Ser} (h : serG x = false) : x.Sz := by
  simp only [serG, lbsG, Bool.or_eq_false_iff, decide_eq_false_iff_not] at h
  obtain ⟨h1, ⟨h2, h3⟩, h4, h5⟩ := h
  rw [List.any_eq_false] at h1 h2
  refine ⟨by omega, fun y hy => ?_, by omega, by omega, fun y hy => ?_⟩
  · have := h2 y hy
    simp only [lbG, Bool.or_eq_true, decide_eq_true_eq] at this
    omega
  · have := h1 y hy
    simp only [decide_eq_true_eq] at this
    omega
theorem thenD_ret {K : Fr → Prop} {Q : Ex → Fr → Prop} {y : Fr} (h : Q .ret y) : thenD K Q .ret y := h
end Go.Proofs.YtafaoldmemcigaaGreat.Ab
namespace Go.Proofs.YtafaoldmemcigaaGreat.Ab
set_option maxRecDepth 100000
/-- What the closed check comes to. -/
noncomputable def aw : Option Bool := match bodyD E0 (runF E0 100) 100 8 [] { ob := [], nx := 0 } with
  | some (.v (.c (.p (.bool b))), _) => some b
  | _ => none
theorem aw_true : aw = some true := by kernel_rfl
/-- 8: the example of the chapter -/
theorem pf8 : Pf E0 8 [] (P' (.bool true)) := by
  have h := aw_true
  unfold aw at h
  split at h
  · rename_i b s hb
    cases h
    exact ⟨100, _, _, _, hb, rfl⟩
  · cases h
end Go.Proofs.YtafaoldmemcigaaGreat.Ab
