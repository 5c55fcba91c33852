/- A part of the proof: an evaluator of the code, its contracts, the law. No condition. -/
import Derived.Test.YtedcnhbblgmdnaaGreatT21
import Derived.Test.YtedcnhbblgmdnaaGreatT25
/- The arguments of the Downsample laws: sets of rollups. -/
namespace Go.Proofs.YtedcnhbblgmdnaaGreat.Ab
open Go.RowKit
set_option linter.unusedVariables false
section
variable {W : World} {H : Type} {enc : TypeId × Value → H}
theorem rdRSet : Rd enc Tryz.prog W 62 3 RSet.pd (fun x => x.rs.length ≤ reachBytes ∧ ∀ r ∈ x.rs, r.lb.length ≤ reachBytes) :=
  (Rd.struct (n := 3) Tryz.underlying62 (by kernel_rfl) (RdS.cons (n1 := 1) (n2 := 2) (Rd.int Tryz.underlying3) rfl (by kernel_rfl) (RdS.cons (n1 := 1) (n2 := 1) (Rd.int Tryz.underlying3) rfl (by kernel_rfl)
    (RdS.cons (n1 := 1) (n2 := 0) (Rd.slice rdRlp Tryz.underlying60 (by kernel_rfl) (by decide) (of_decide_eq_true (by kernel_rfl))) rfl (by kernel_rfl) RdS.nil)))).map
    (fun p => ⟨p.1, p.2.1, p.2.2.1⟩) (fun _ => rfl) (fun _ => rfl) (fun _ h => ⟨le_reach h.2.2.1.1 (of_decide_eq_true (by kernel_rfl)), fun r hr => (h.2.2.1.2 r hr).1⟩)
end
end Go.Proofs.YtedcnhbblgmdnaaGreat.Ab
