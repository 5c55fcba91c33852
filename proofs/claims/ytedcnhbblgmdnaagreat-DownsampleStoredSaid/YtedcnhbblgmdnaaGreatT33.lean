/- DownsampleStored returns true whatever the set of rollups and the Id, and leaves its arguments as they were. -/
import Derived.Test.YtedcnhbblgmdnaaGreatRows
import Derived.Test.YtedcnhbblgmdnaaGreatT12
import Derived.Test.YtedcnhbblgmdnaaGreatT26
import Derived.Test.YtedcnhbblgmdnaaGreatT32
import Derived.WalkKit
import Derived.ProofKit
import Derived.OpenShut
import Derived.ShutString
import Derived.ChangeOld
import Derived.Below
import Derived.Carry
import Derived.SizedLaws
namespace Go.Proofs.YtedcnhbblgmdnaaGreat.downsampleStored
open Go.ChangeShapes Go.WideShapes Go.ChangeAt Go.RowKit
open Go.Proofs.YtedcnhbblgmdnaaGreat.Ab
set_option linter.unusedVariables false
theorem own : ownKnob Tryz.prog.godebug = none := by kernel_rfl
theorem laidOut : laidOutB Tryz.prog = true := by kernel_rfl
section
variable {P : Program} {W : World} {H : Type} {enc : TypeId × Value → H} {B : Type}
theorem argA {t n : Nat} {e : B → List Pd} {Q : B → Prop} (h : Rd enc P W t n e Q) {v : Value} {d : DataW H} {p : List MemPlace} (hv : ∃ cs, v = .agg cs) (hT : DataW.Trod enc P W 0 (fun _ => true) true t v d p) (hs : small P t d) :
    ∃ a, Q a ∧ relV (topG W) s00 W (.agg ((e a).map .p)) v := by
  obtain ⟨cs, rfl⟩ := hv
  obtain ⟨fuel, hT⟩ := hT
  obtain ⟨a, hB, hr⟩ := h.rd _ _ _ hT hs
  exact ⟨a, hB, cs, rfl, relCL_p hr.1 hr.2⟩
theorem argC {t : Nat} {e : B → Pd} {Q : B → Prop} (h : Rd enc P W t 1 (fun a => [e a]) Q) {v : Value} {d : DataW H} {p : List MemPlace} (hv : v.cells.toList = [v]) (hT : DataW.Trod enc P W 0 (fun _ => true) true t v d p) (hs : small P t d) :
    ∃ a, Q a ∧ relV (topG W) s00 W (.c (.p (e a))) v := by
  obtain ⟨fuel, hT⟩ := hT
  rw [hv] at hT
  obtain ⟨a, hB, hr⟩ := h.rd _ _ _ hT hs
  obtain ⟨v', h1, h2⟩ := hr.2 0 (e a) rfl
  simp at h1
  subst h1
  exact ⟨a, hB, h2⟩
end
set_option maxRecDepth 100000 in
theorem lifted (os : Os) (started : os.Started) (H : Type) (enc : TypeId × Value → H) :
    ReturnsInHanded {} Tryz.checked os 10 .any (Rows.downsampleStoredSpec.pre6 enc Tryz.prog Tryz.f10 Rows.downsampleStoredRow.domain false) (Rows.downsampleStoredSpec.post enc Tryz.prog Tryz.f10 false true false false) := by
  refine returnsInHanded_of_change_sized (C := Tryz.checked) own started (by kernel_rfl) Tryz.func10
    (ChangeSpec.witness6 (enc := enc) (C := Tryz.checked) false ⟨#[], #[.agg #[.int .i64 0, .int .i64 0, .slice none 0 0], .int .i64 0], []⟩ 8 (by kernel_rfl) (by kernel_rfl) (by kernel_rfl) (by kernel_rfl)) ?_
  intro W base args ds gs before hval0 hW hcnd hsz0 _
  have hsz : (DataW.weightsEach Tryz.prog (Tryz.f10.params.toList ++ Rows.downsampleStoredSpec.plain.varTypes Tryz.prog) (ds ++ gs)).all (· ≤ reachBytes) = true := hsz0
  have hval : ∀ (j : Nat) t v, Tryz.f10.params[j]? = some t → args[j]? = some v → Value.okWide Tryz.prog W .any base t v := hval0
  have hW' := hW
  obtain ⟨p, q, hA0, hV, rfl, hfz, hnd⟩ := hW
  have hA : DataW.TrodAll enc Tryz.prog W 0 (fun _ => true) true Tryz.f10.params.toList args.toList ds p := hA0
  rw [Tryz.params10] at hA hval hsz
  obtain ⟨v0, vs0, d0, ds0, p0, q0, hargs, rfl, rfl, h0, r0⟩ := trodAll_cons hA
  obtain ⟨v1, vs1, d1, ds1, p1, q1, rfl, rfl, rfl, h1, r1⟩ := trodAll_cons r0
  obtain ⟨rfl, rfl, rfl⟩ := trodAll_nil r1
  obtain rfl : args = #[v0, v1] := by cases args; simp_all
  obtain ⟨rfl, rfl⟩ := trodVars_none hV
  obtain ⟨cs0, hcs0, _⟩ := okWide_struct Tryz.underlying62 (hval 0 62 v0 rfl rfl)
  have lt0 : ∀ x ∈ p0, x.block < W.heap.size := by obtain ⟨m, hm⟩ := h0; exact DataW.trod_lt m _ _ _ hm
  have k0 := h0
  have hs0 : small Tryz.prog 62 d0 := fun w hw => by
    have := List.all_eq_true.1 hsz w (by
      show w ∈ DataW.weightsEach Tryz.prog (62 :: _) (d0 :: _)
      simp only [DataW.weightsEach, List.mem_append]; exact .inl hw)
    simpa using this
  obtain ⟨x, hx0, hr0⟩ := argA rdRSet ⟨cs0, hcs0⟩ h0 hs0
  obtain ⟨cs1, hcs1⟩ := okWide_int Tryz.underlying3 (hval 1 3 v1 rfl rfl)
  have lt1 : ∀ x ∈ p1, x.block < W.heap.size := by obtain ⟨m, hm⟩ := h1; exact DataW.trod_lt m _ _ _ hm
  have k1 := h1
  have hs1 : small Tryz.prog 3 d1 := fun w hw => by
    have := List.all_eq_true.1 hsz w (by
      show w ∈ DataW.weightsEach Tryz.prog (62 :: 3 :: _) (d0 :: d1 :: _)
      simp only [DataW.weightsEach, List.mem_append]; exact .inr (.inl hw))
    simpa using this
  obtain ⟨d, hx1, hr1⟩ := argC (Rd.int Tryz.underlying3) (by rw [hcs1]; rfl) h1 hs1
  have hb : reachBytes < 2^60 := by decide
  obtain ⟨s', hev⟩ := law10 x d (by omega) (fun r hr => by have := hx0.2 r hr; omega)
  have hrel : relVL (topG W) s00 W [.agg (x.pd.map .p), .c (.p (pI d))] (#[v0, v1] : Array Value).toList := ⟨_, _, rfl, hr0, ⟨_, _, rfl, hr1, rfl⟩⟩
  have hc := law_calls E0_ok hrel hev
  rw [FW_none] at hc
  clear hA0 hval0 hsz0 hsz
  refine (callsIn_wide.1 hc).mono fun e W' ⟨he, bel⟩ => ?_
  subst he
  exact ⟨_, rfl, _, _, _, [], _, [], hW', trodAll_mk1 (shut_bool Tryz.underlying4 _), (trodAll_cons_mk (Below.trod laidOut (by kernel_rfl) (of_decide_eq_true (by kernel_rfl)) k0 bel lt0) (trodAll_cons_mk (Below.trod laidOut (by kernel_rfl) (of_decide_eq_true (by kernel_rfl)) k1 bel lt1) trodAll_mk0)), rfl, bel.frame _, fun h => by cases h⟩
theorem over : Rows.downsampleStoredRow.holds Tryz.pinned (OpenSpec.ofChange Rows.downsampleStoredSpec) :=
  OpenClaim.holds_of_wide 10 Tryz.f10 rfl rfl rfl rfl rfl rfl rfl ⟨rfl, rfl, rfl, rfl, rfl⟩ rfl rfl rfl rfl rfl (by kernel_rfl) Tryz.func10 (by kernel_rfl)
    (of_decide_eq_true (by kernel_rfl)) (by unfold Func.isWrapper; first | (rw [if_pos (by decide +kernel)]; kernel_rfl) | (rw [if_neg (by decide +kernel)]; exact ⟨rfl, rfl⟩))
    (fun os started H enc _ => lifted os started H enc)
theorem proved : Rows.DownsampleStoredSaid := over
end Go.Proofs.YtedcnhbblgmdnaaGreat.downsampleStored
