/- DownsampleSet returns true whatever the data, the width and the Id, and leaves its arguments as they were. -/
import Derived.Test.YtedcnhbblgmdnaaGreatRows
import Derived.Test.YtedcnhbblgmdnaaGreatT31
import Derived.Test.YtedcnhbblgmdnaaGreatT32
import Derived.Test.YtedcnhbblgmdnaaGreatT33
import Derived.Test.YtedcnhbblgmdnaaGreatT38
import Derived.WalkKit
import Derived.ProofKit
import Derived.OpenShut
import Derived.ShutString
import Derived.ChangeOld
import Derived.Below
import Derived.Carry
import Derived.SizedLaws
namespace Go.Proofs.YtedcnhbblgmdnaaGreat.downsampleSet
open Go.ChangeShapes Go.WideShapes Go.ChangeAt Go.RowKit
open Go.Proofs.YtedcnhbblgmdnaaGreat.Ab
set_option linter.unusedVariables false
theorem own : ownKnob Tryz.prog.godebug = none := by kernel_rfl
theorem laidOut : laidOutB Tryz.prog = true := by kernel_rfl
section
variable {P : Program} {W : World} {H : Type} {enc : TypeId × Value → H} {B : Type}
theorem argA {t n : Nat} {e : B → List Pd} {Q : B → Prop} (h : Rd enc P W t n e Q) {v : Value} {d : DataW H} {p : List MemPlace} (hv : ∃ cs, v = .agg cs) (hT : DataW.Trod enc P W 0 (fun _ => true) true t v d p) (hs : small P t d) :
    ∃ a, Q a ∧ relV (topG W) s00 W (.agg ((e a).map .p)) v := by
  obtain ⟨cs, rfl⟩ := hv
  obtain ⟨fuel, hT⟩ := hT
  obtain ⟨a, hB, hr⟩ := h.rd _ _ _ hT hs
  exact ⟨a, hB, cs, rfl, relCL_p hr.1 hr.2⟩
theorem argC {t : Nat} {e : B → Pd} {Q : B → Prop} (h : Rd enc P W t 1 (fun a => [e a]) Q) {v : Value} {d : DataW H} {p : List MemPlace} (hv : v.cells.toList = [v]) (hT : DataW.Trod enc P W 0 (fun _ => true) true t v d p) (hs : small P t d) :
    ∃ a, Q a ∧ relV (topG W) s00 W (.c (.p (e a))) v := by
  obtain ⟨fuel, hT⟩ := hT
  rw [hv] at hT
  obtain ⟨a, hB, hr⟩ := h.rd _ _ _ hT hs
  obtain ⟨v', h1, h2⟩ := hr.2 0 (e a) rfl
  simp at h1
  subst h1
  exact ⟨a, hB, h2⟩
end
set_option maxRecDepth 100000 in
theorem lifted (os : Os) (started : os.Started) (H : Type) (enc : TypeId × Value → H) :
    ReturnsInHanded {} Tryz.checked os 8 .any (Rows.downsampleSetSpec.pre6 enc Tryz.prog Tryz.f8 Rows.downsampleSetRow.domain false) (Rows.downsampleSetSpec.post enc Tryz.prog Tryz.f8 false true false false) := by
  refine returnsInHanded_of_change_sized (C := Tryz.checked) own started (by kernel_rfl) Tryz.func8
    (ChangeSpec.witness6 (enc := enc) (C := Tryz.checked) false ⟨#[], #[.agg #[.slice none 0 0, .slice none 0 0, .slice none 0 0, .slice none 0 0, .slice none 0 0], .int .i64 0, .int .i64 0], []⟩ 8 (by kernel_rfl) (by kernel_rfl) (by kernel_rfl) (by kernel_rfl)) ?_
  intro W base args ds gs before hval0 hW hcnd hsz0 _
  have hsz : (DataW.weightsEach Tryz.prog (Tryz.f8.params.toList ++ Rows.downsampleSetSpec.plain.varTypes Tryz.prog) (ds ++ gs)).all (· ≤ reachBytes) = true := hsz0
  have hval : ∀ (j : Nat) t v, Tryz.f8.params[j]? = some t → args[j]? = some v → Value.okWide Tryz.prog W .any base t v := hval0
  have hW' := hW
  obtain ⟨p, q, hA0, hV, rfl, hfz, hnd⟩ := hW
  have hA : DataW.TrodAll enc Tryz.prog W 0 (fun _ => true) true Tryz.f8.params.toList args.toList ds p := hA0
  rw [Tryz.params8] at hA hval hsz
  obtain ⟨v0, vs0, d0, ds0, p0, q0, hargs, rfl, rfl, h0, r0⟩ := trodAll_cons hA
  obtain ⟨v1, vs1, d1, ds1, p1, q1, rfl, rfl, rfl, h1, r1⟩ := trodAll_cons r0
  obtain ⟨v2, vs2, d2, ds2, p2, q2, rfl, rfl, rfl, h2, r2⟩ := trodAll_cons r1
  obtain ⟨rfl, rfl, rfl⟩ := trodAll_nil r2
  obtain rfl : args = #[v0, v1, v2] := by cases args; simp_all
  obtain ⟨rfl, rfl⟩ := trodVars_none hV
  obtain ⟨cs0, hcs0, _⟩ := okWide_struct Tryz.underlying58 (hval 0 58 v0 rfl rfl)
  have lt0 : ∀ x ∈ p0, x.block < W.heap.size := by obtain ⟨m, hm⟩ := h0; exact DataW.trod_lt m _ _ _ hm
  have k0 := h0
  have hs0 : small Tryz.prog 58 d0 := fun w hw => by
    have := List.all_eq_true.1 hsz w (by
      show w ∈ DataW.weightsEach Tryz.prog (58 :: _) (d0 :: _)
      simp only [DataW.weightsEach, List.mem_append]; exact .inl hw)
    simpa using this
  obtain ⟨x, hx0, hr0⟩ := argA rdDat ⟨cs0, hcs0⟩ h0 hs0
  obtain ⟨cs1, hcs1⟩ := okWide_int Tryz.underlying3 (hval 1 3 v1 rfl rfl)
  have lt1 : ∀ x ∈ p1, x.block < W.heap.size := by obtain ⟨m, hm⟩ := h1; exact DataW.trod_lt m _ _ _ hm
  have k1 := h1
  have hs1 : small Tryz.prog 3 d1 := fun w hw => by
    have := List.all_eq_true.1 hsz w (by
      show w ∈ DataW.weightsEach Tryz.prog (58 :: 3 :: _) (d0 :: d1 :: _)
      simp only [DataW.weightsEach, List.mem_append]; exact .inr (.inl hw))
    simpa using this
  obtain ⟨w, hx1, hr1⟩ := argC (Rd.int Tryz.underlying3) (by rw [hcs1]; rfl) h1 hs1
  obtain ⟨cs2, hcs2⟩ := okWide_int Tryz.underlying3 (hval 2 3 v2 rfl rfl)
  have lt2 : ∀ x ∈ p2, x.block < W.heap.size := by obtain ⟨m, hm⟩ := h2; exact DataW.trod_lt m _ _ _ hm
  have k2 := h2
  have hs2 : small Tryz.prog 3 d2 := fun w hw => by
    have := List.all_eq_true.1 hsz w (by
      show w ∈ DataW.weightsEach Tryz.prog (58 :: 3 :: 3 :: _) (d0 :: d1 :: d2 :: _)
      simp only [DataW.weightsEach, List.mem_append]; exact .inr (.inr (.inl hw)))
    simpa using this
  obtain ⟨id, hx2, hr2⟩ := argC (Rd.int Tryz.underlying3) (by rw [hcs2]; rfl) h2 hs2
  have hb : reachBytes < 2^60 := by decide
  obtain ⟨s', hev⟩ := law8 x w id ⟨by have := hx0.1.1; omega, fun c hc => ⟨by have := (hx0.1.2 c hc).1; omega, by have := (hx0.1.2 c hc).2.1; omega, fun y hy => by have := (hx0.1.2 c hc).2.2 y hy; omega⟩, by have := hx0.2.1.1; omega, fun c hc => ⟨by have := (hx0.2.1.2 c hc).1; omega, by have := (hx0.2.1.2 c hc).2; omega⟩, by have := hx0.2.2.1.1; omega, fun c hc => ⟨by have := (hx0.2.2.1.2 c hc).1; omega, (hx0.2.2.1.2 c hc).2.1, (hx0.2.2.1.2 c hc).2.2⟩, by have := hx0.2.2.2.1.1; omega, fun c hc => ⟨by have := (hx0.2.2.2.1.2 c hc).1; omega, by have := (hx0.2.2.2.1.2 c hc).2; omega⟩, by have := hx0.2.2.2.2.1; omega, fun c hc => ⟨by have := (hx0.2.2.2.2.2 c hc).1; omega, (hx0.2.2.2.2.2 c hc).2⟩⟩
  have hrel : relVL (topG W) s00 W [.agg (x.pd.map .p), .c (.p (pI w)), .c (.p (pI id))] (#[v0, v1, v2] : Array Value).toList := ⟨_, _, rfl, hr0, ⟨_, _, rfl, hr1, ⟨_, _, rfl, hr2, rfl⟩⟩⟩
  have hc := law_calls E0_ok hrel hev
  rw [FW_none] at hc
  clear hA0 hval0 hsz0 hsz
  refine (callsIn_wide.1 hc).mono fun e W' ⟨he, bel⟩ => ?_
  subst he
  exact ⟨_, rfl, _, _, _, [], _, [], hW', trodAll_mk1 (shut_bool Tryz.underlying4 _), (trodAll_cons_mk (Below.trod laidOut (by kernel_rfl) (of_decide_eq_true (by kernel_rfl)) k0 bel lt0) (trodAll_cons_mk (Below.trod laidOut (by kernel_rfl) (of_decide_eq_true (by kernel_rfl)) k1 bel lt1) (trodAll_cons_mk (Below.trod laidOut (by kernel_rfl) (of_decide_eq_true (by kernel_rfl)) k2 bel lt2) trodAll_mk0))), rfl, bel.frame _, fun h => by cases h⟩
theorem over1 : Tryz.pinned.checked.prog.funcNamed Rows.downsampleSetRow.func = some 8 := by kernel_rfl
theorem over3 : Tryz.f8.isWrapper Tryz.pinned.checked.prog Rows.downsampleSetRow.wrapper Rows.downsampleSetRow.mainSum := by unfold Func.isWrapper; first | (rw [if_pos (by decide +kernel)]; kernel_rfl) | (rw [if_neg (by decide +kernel)]; exact ⟨rfl, rfl⟩)
theorem over4 : Tryz.f8.isInstance Tryz.pinned.checked.prog Rows.downsampleSetRow.origin Rows.downsampleSetRow.targs := of_decide_eq_true (by kernel_rfl)
theorem over : Rows.downsampleSetRow.holds Tryz.pinned (OpenSpec.ofChange Rows.downsampleSetSpec) :=
  OpenClaim.holds_of_wide 8 Tryz.f8 rfl rfl rfl rfl rfl rfl rfl ⟨rfl, rfl, rfl, rfl, rfl⟩ rfl rfl rfl rfl rfl over1 Tryz.func8
    over2 over4 over3
    (fun os started H enc _ => lifted os started H enc)
theorem proved : Rows.DownsampleSetSaid := over
end Go.Proofs.YtedcnhbblgmdnaaGreat.downsampleSet
