/- A part of the proof: an evaluator of the code, its contracts, the law. No condition. -/
import Derived.Test.YtafaoldmemcigaaGreatT22
import Derived.Test.YtafaoldmemcigaaGreatT23
/- The argument of SerieschunkZones: what is asked of a chunk. -/
namespace Go.Proofs.YtafaoldmemcigaaGreat.Ab
open Go.RowKit
set_option linter.unusedVariables false
section
variable {W : World} {H : Type} {enc : TypeId × Value → H}
theorem flat_str (l : List (List UInt8)) : l.flatMap (fun s => [Pd.str s]) = l.map .str := by
  induction l with
  | nil => rfl
  | cons x r ih => simp [ih]
theorem rdFlt : Rd enc Tryz.prog W 50 6 Flt.pd (fun x => True) :=
  (Rd.struct (n := 6) Tryz.underlying50 (by kernel_rfl) (RdS.cons (n1 := 1) (n2 := 5) (Rd.int Tryz.underlying3) rfl (by kernel_rfl) (RdS.cons (n1 := 1) (n2 := 4) (Rd.int Tryz.underlying3) rfl (by kernel_rfl) (RdS.cons (n1 := 1) (n2 := 3) (Rd.bool Tryz.underlying4) rfl (by kernel_rfl)
    (RdS.cons (n1 := 1) (n2 := 2) (Rd.int Tryz.underlying3) rfl (by kernel_rfl) (RdS.cons (n1 := 1) (n2 := 1) (Rd.int Tryz.underlying3) rfl (by kernel_rfl) (RdS.cons (n1 := 1) (n2 := 0) (Rd.slice (Rd.str Tryz.underlying9) Tryz.underlying48 (by kernel_rfl) (by decide) (of_decide_eq_true (by kernel_rfl))) rfl (by kernel_rfl) RdS.nil))))))).map
    (fun p => ⟨p.1, p.2.1, p.2.2.1, p.2.2.2.1, p.2.2.2.2.1, p.2.2.2.2.2.1⟩) (fun p => by simp only [Flt.pd, ← flat_str]; rfl) (fun _ => rfl) (fun _ h => trivial)
end
end Go.Proofs.YtafaoldmemcigaaGreat.Ab
