/- A part of the proof. -/
import Derived.Test.YtedcnhbblgmdnaaGreatRows
import Derived.WalkKit
import Derived.ProofKit
import Derived.OpenShut
import Derived.ShutString
import Derived.ChangeOld
import Derived.Below
import Derived.Carry
import Derived.SizedLaws
set_option maxHeartbeats 8000000
set_option maxRecDepth 10000
set_option linter.unusedSimpArgs false
set_option linter.unusedVariables false
/- DownsampleSet: what is closed in the row. -/
namespace Go.Proofs.YtedcnhbblgmdnaaGreat.downsampleSet
open Go.ChangeShapes Go.WideShapes Go.ChangeAt Go.RowKit
theorem over2:joinedFacts Tryz.pinned.checked.prog 8 Tryz.f8 Rows.downsampleSetSpec Rows.downsampleSetRow=true:=by kernel_rfl
end Go.Proofs.YtedcnhbblgmdnaaGreat.downsampleSet
