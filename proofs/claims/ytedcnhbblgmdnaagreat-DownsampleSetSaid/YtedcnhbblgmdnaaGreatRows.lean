/-
  No cell of these rows narrows 'for every input' (looked for: loops, veiled, ifaces, maps, wideKeys, modest, calm, conditions, laid).
  DERIVED. THE GIVEN ROWS OF THIS SEAT. 8 by the template 'for every input the law returns true; each argument reads behind the call as it read before'; 0 by the template 'total and deterministic' (their statements: YtedcnhbblgmdnaaGreatTotals.lean).
  GIVEN WITH THE SEED: the statements are not yours to turn. If you find one false, say at which input.
  Laid BY PROGRAM, IN A SANDBOX (cutbox-rows.mjs): the forced cells as the released guide's own fill.sh prints them over the translation 8642202083db0b8d… (all of the seat's roots in one cut). By AI agents, Wed Nov 11 2026. No macro, syntax, notation, axiom, sorry.
-/
import Derived.Test.YtedcnhbblgmdnaaGreatChecked
import GoSem.Claim
import GoSem.ClaimJoined
import GoSem.ClaimMapViews
import Derived.JoinedTies
import Derived.KernelRfl
namespace Go.Proofs.YtedcnhbblgmdnaaGreat
/- THE CELL 'sum', in the pinned program and in every row, IS THE sha256 OF THE DUMP (.gsa) THAT YtedcnhbblgmdnaaGreatProg.lean LOADS. Nothing in Lean hashes anything: it is a label: what it is worth is what the hold of that sum in a sandbox is worth. -/
noncomputable def Tryz.pinned : Pinned := { name := "ytedcnhbblgmdnaagreat", sum := "8642202083db0b8d37c951bb1ce45119e2133e57151193f5d23e04b59f0a8e5f", checked := Tryz.checked }
namespace Rows
def none {H : Type} : Left H := { results := [], args := [] }

/-- 'lookoutlaw28.DownsampleOf': WHATEVER THE INPUT: true; the input reads as it did. -/
def downsampleOfSpec : ChangeSpec := { name := "downsampleOf", fn := fun _ => fun
  | [d1, d2, d3] => { results := [.lit (.bool true)], args := [d1, d2, d3] }
  | _ => none }
def downsampleOfRow : OpenClaim := { program := "ytedcnhbblgmdnaagreat", sum := "8642202083db0b8d37c951bb1ce45119e2133e57151193f5d23e04b59f0a8e5f", func := "lookout/lookoutlaw28.DownsampleOf", spec := "downsampleOf", inPlace := ["internal/bytealg.IndexByteString", "internal/bytealg.IndexString", "internal/abi.NoEscape"], unfollowed := true, recurses := true, named := ["internal/bytealg.MaxLen"], apart := false }
def DownsampleOfSaid : Prop := downsampleOfRow.holds Tryz.pinned (OpenSpec.ofChange downsampleOfSpec)

/-- ITS FALSE NEIGHBOUR: 'it returns false'. Refute it at one input. -/
def downsampleOfWrong : ChangeSpec := { name := "downsampleOf", fn := fun _ => fun
  | [d1, d2, d3] => { results := [.lit (.bool false)], args := [d1, d2, d3] }
  | _ => none }
def DownsampleOfWrongFalsely : Prop := downsampleOfRow.holds Tryz.pinned (OpenSpec.ofChange downsampleOfWrong)

/-- 'lookoutlaw28.DownsampleBuckets': WHATEVER THE INPUT: true; the input reads as it did. -/
def downsampleBucketsSpec : ChangeSpec := { name := "downsampleBuckets", fn := fun _ => fun
  | [d1, d2] => { results := [.lit (.bool true)], args := [d1, d2] }
  | _ => none }
def downsampleBucketsRow : OpenClaim := { program := "ytedcnhbblgmdnaagreat", sum := "8642202083db0b8d37c951bb1ce45119e2133e57151193f5d23e04b59f0a8e5f", func := "lookout/lookoutlaw28.DownsampleBuckets", spec := "downsampleBuckets", inPlace := ["internal/bytealg.IndexByteString", "internal/bytealg.IndexString", "internal/abi.NoEscape"], unfollowed := true, recurses := true, named := ["internal/bytealg.MaxLen"], apart := false }
def DownsampleBucketsSaid : Prop := downsampleBucketsRow.holds Tryz.pinned (OpenSpec.ofChange downsampleBucketsSpec)

/-- ITS FALSE NEIGHBOUR: 'it returns false'. Refute it at one input. -/
def downsampleBucketsWrong : ChangeSpec := { name := "downsampleBuckets", fn := fun _ => fun
  | [d1, d2] => { results := [.lit (.bool false)], args := [d1, d2] }
  | _ => none }
def DownsampleBucketsWrongFalsely : Prop := downsampleBucketsRow.holds Tryz.pinned (OpenSpec.ofChange downsampleBucketsWrong)

/-- 'lookoutlaw28.DownsampleCoarsens': WHATEVER THE INPUT: true; the input reads as it did. -/
def downsampleCoarsensSpec : ChangeSpec := { name := "downsampleCoarsens", fn := fun _ => fun
  | [d1, d2, d3, d4] => { results := [.lit (.bool true)], args := [d1, d2, d3, d4] }
  | _ => none }
def downsampleCoarsensRow : OpenClaim := { program := "ytedcnhbblgmdnaagreat", sum := "8642202083db0b8d37c951bb1ce45119e2133e57151193f5d23e04b59f0a8e5f", func := "lookout/lookoutlaw28.DownsampleCoarsens", spec := "downsampleCoarsens", inPlace := ["internal/bytealg.IndexByteString", "internal/bytealg.IndexString", "internal/abi.NoEscape"], unfollowed := true, recurses := true, named := ["internal/bytealg.MaxLen"], apart := false }
def DownsampleCoarsensSaid : Prop := downsampleCoarsensRow.holds Tryz.pinned (OpenSpec.ofChange downsampleCoarsensSpec)

/-- ITS FALSE NEIGHBOUR: 'it returns false'. Refute it at one input. -/
def downsampleCoarsensWrong : ChangeSpec := { name := "downsampleCoarsens", fn := fun _ => fun
  | [d1, d2, d3, d4] => { results := [.lit (.bool false)], args := [d1, d2, d3, d4] }
  | _ => none }
def DownsampleCoarsensWrongFalsely : Prop := downsampleCoarsensRow.holds Tryz.pinned (OpenSpec.ofChange downsampleCoarsensWrong)

/-- 'lookoutlaw28.DownsampleMerge': WHATEVER THE INPUT: true; the input reads as it did. -/
def downsampleMergeSpec : ChangeSpec := { name := "downsampleMerge", fn := fun _ => fun
  | [d1, d2, d3] => { results := [.lit (.bool true)], args := [d1, d2, d3] }
  | _ => none }
def downsampleMergeRow : OpenClaim := { program := "ytedcnhbblgmdnaagreat", sum := "8642202083db0b8d37c951bb1ce45119e2133e57151193f5d23e04b59f0a8e5f", func := "lookout/lookoutlaw28.DownsampleMerge", spec := "downsampleMerge", inPlace := ["internal/bytealg.IndexByteString", "internal/bytealg.IndexString", "internal/abi.NoEscape"], unfollowed := true, recurses := true, named := ["internal/bytealg.MaxLen"], apart := false }
def DownsampleMergeSaid : Prop := downsampleMergeRow.holds Tryz.pinned (OpenSpec.ofChange downsampleMergeSpec)

/-- ITS FALSE NEIGHBOUR: 'it returns false'. Refute it at one input. -/
def downsampleMergeWrong : ChangeSpec := { name := "downsampleMerge", fn := fun _ => fun
  | [d1, d2, d3] => { results := [.lit (.bool false)], args := [d1, d2, d3] }
  | _ => none }
def DownsampleMergeWrongFalsely : Prop := downsampleMergeRow.holds Tryz.pinned (OpenSpec.ofChange downsampleMergeWrong)

/-- 'lookoutlaw28.DownsampleParts': WHATEVER THE INPUT: true; the input reads as it did. -/
def downsamplePartsSpec : ChangeSpec := { name := "downsampleParts", fn := fun _ => fun
  | [d1, d2, d3] => { results := [.lit (.bool true)], args := [d1, d2, d3] }
  | _ => none }
def downsamplePartsRow : OpenClaim := { program := "ytedcnhbblgmdnaagreat", sum := "8642202083db0b8d37c951bb1ce45119e2133e57151193f5d23e04b59f0a8e5f", func := "lookout/lookoutlaw28.DownsampleParts", spec := "downsampleParts", inPlace := ["internal/bytealg.IndexByteString", "internal/bytealg.IndexString", "internal/abi.NoEscape"], unfollowed := true, recurses := true, named := ["internal/bytealg.MaxLen"], apart := false }
def DownsamplePartsSaid : Prop := downsamplePartsRow.holds Tryz.pinned (OpenSpec.ofChange downsamplePartsSpec)

/-- ITS FALSE NEIGHBOUR: 'it returns false'. Refute it at one input. -/
def downsamplePartsWrong : ChangeSpec := { name := "downsampleParts", fn := fun _ => fun
  | [d1, d2, d3] => { results := [.lit (.bool false)], args := [d1, d2, d3] }
  | _ => none }
def DownsamplePartsWrongFalsely : Prop := downsamplePartsRow.holds Tryz.pinned (OpenSpec.ofChange downsamplePartsWrong)

/-- 'lookoutlaw28.DownsampleSet': WHATEVER THE INPUT: true; the input reads as it did. -/
def downsampleSetSpec : ChangeSpec := { name := "downsampleSet", fn := fun _ => fun
  | [d1, d2, d3] => { results := [.lit (.bool true)], args := [d1, d2, d3] }
  | _ => none }
def downsampleSetRow : OpenClaim := { program := "ytedcnhbblgmdnaagreat", sum := "8642202083db0b8d37c951bb1ce45119e2133e57151193f5d23e04b59f0a8e5f", func := "lookout/lookoutlaw28.DownsampleSet", spec := "downsampleSet", inPlace := ["internal/bytealg.IndexByteString", "internal/bytealg.IndexString", "internal/abi.NoEscape"], unfollowed := true, recurses := true, named := ["internal/bytealg.MaxLen"], apart := false }
def DownsampleSetSaid : Prop := downsampleSetRow.holds Tryz.pinned (OpenSpec.ofChange downsampleSetSpec)

/-- ITS FALSE NEIGHBOUR: 'it returns false'. Refute it at one input. -/
def downsampleSetWrong : ChangeSpec := { name := "downsampleSet", fn := fun _ => fun
  | [d1, d2, d3] => { results := [.lit (.bool false)], args := [d1, d2, d3] }
  | _ => none }
def DownsampleSetWrongFalsely : Prop := downsampleSetRow.holds Tryz.pinned (OpenSpec.ofChange downsampleSetWrong)

/-- 'lookoutlaw28.DownsampleBlock': WHATEVER THE INPUT: true; the input reads as it did. -/
def downsampleBlockSpec : ChangeSpec := { name := "downsampleBlock", fn := fun _ => fun
  | [d1, d2, d3] => { results := [.lit (.bool true)], args := [d1, d2, d3] }
  | _ => none }
def downsampleBlockRow : OpenClaim := { program := "ytedcnhbblgmdnaagreat", sum := "8642202083db0b8d37c951bb1ce45119e2133e57151193f5d23e04b59f0a8e5f", func := "lookout/lookoutlaw28.DownsampleBlock", spec := "downsampleBlock", inPlace := ["internal/bytealg.IndexByteString", "internal/bytealg.IndexString", "internal/abi.NoEscape"], unfollowed := true, recurses := true, named := ["internal/bytealg.MaxLen"], apart := false }
def DownsampleBlockSaid : Prop := downsampleBlockRow.holds Tryz.pinned (OpenSpec.ofChange downsampleBlockSpec)

/-- ITS FALSE NEIGHBOUR: 'it returns false'. Refute it at one input. -/
def downsampleBlockWrong : ChangeSpec := { name := "downsampleBlock", fn := fun _ => fun
  | [d1, d2, d3] => { results := [.lit (.bool false)], args := [d1, d2, d3] }
  | _ => none }
def DownsampleBlockWrongFalsely : Prop := downsampleBlockRow.holds Tryz.pinned (OpenSpec.ofChange downsampleBlockWrong)

/-- 'lookoutlaw28.DownsampleStored': WHATEVER THE INPUT: true; the input reads as it did. -/
def downsampleStoredSpec : ChangeSpec := { name := "downsampleStored", fn := fun _ => fun
  | [d1, d2] => { results := [.lit (.bool true)], args := [d1, d2] }
  | _ => none }
def downsampleStoredRow : OpenClaim := { program := "ytedcnhbblgmdnaagreat", sum := "8642202083db0b8d37c951bb1ce45119e2133e57151193f5d23e04b59f0a8e5f", func := "lookout/lookoutlaw28.DownsampleStored", spec := "downsampleStored", inPlace := ["internal/bytealg.IndexByteString", "internal/bytealg.IndexString", "internal/abi.NoEscape"], unfollowed := true, recurses := true, named := ["internal/bytealg.MaxLen"], apart := false }
def DownsampleStoredSaid : Prop := downsampleStoredRow.holds Tryz.pinned (OpenSpec.ofChange downsampleStoredSpec)

/-- ITS FALSE NEIGHBOUR: 'it returns false'. Refute it at one input. -/
def downsampleStoredWrong : ChangeSpec := { name := "downsampleStored", fn := fun _ => fun
  | [d1, d2] => { results := [.lit (.bool false)], args := [d1, d2] }
  | _ => none }
def DownsampleStoredWrongFalsely : Prop := downsampleStoredRow.holds Tryz.pinned (OpenSpec.ofChange downsampleStoredWrong)

/- THE SECOND FORM. 'bulk': how many values and letters a reading holds, each counted each time it is reached (what is shared counts as often as it is met; a slice's spare places count too). A statement '..UptoSaid' is the law's where the arguments, and the package variables that the reading takes, are together of bulk at most 1048576: NARROWER than '..Said'. Prove '..Said' where nothing that the law and all that it calls make is longer than what came in: it says more and counts as full. Else prove '..UptoSaid'. A law counts once. -/
mutual
def uptoBulk {H : Type} : DataW H → Nat
  | .lit (.string bytes) => bytes.length + 1
  | .lit _ => 1
  | .nil => 1
  | .ptr d => uptoBulk d + 1
  | .slice elems spare => uptoBulkAll elems + uptoBulkAll spare + 1
  | .agg parts => uptoBulkAll parts + 1
  | .iface _ d => uptoBulk d + 1
  | .map entries => uptoBulkEntries entries + 1
  | .held _ => 1
def uptoBulkAll {H : Type} : List (DataW H) → Nat
  | [] => 0
  | d :: r => uptoBulk d + uptoBulkAll r
def uptoBulkEntries {H : Type} : List (Lit × DataW H) → Nat
  | [] => 0
  | x :: r => uptoBulkEntry x + uptoBulkEntries r
def uptoBulkEntry {H : Type} : Lit × DataW H → Nat
  | (.string bytes, d) => bytes.length + uptoBulk d + 1
  | (_, d) => uptoBulk d + 1
 end
def uptoSmall : (H : Type) → List (DataW H) → Bool := fun _ ds => decide (uptoBulkAll ds ≤ 1048576)
def OpenSpec.upto (s : _root_.Go.ChangeSpec) : _root_.Go.OpenSpec := { _root_.Go.OpenSpec.ofChange s with cond := some uptoSmall }

/-- 'lookoutlaw28.DownsampleOf', WHERE WHAT IT READS IS OF BULK AT MOST 1048576: true; the input reads as it did. -/
def downsampleOfUptoRow : OpenClaim := { program := "ytedcnhbblgmdnaagreat", sum := "8642202083db0b8d37c951bb1ce45119e2133e57151193f5d23e04b59f0a8e5f", func := "lookout/lookoutlaw28.DownsampleOf", spec := "downsampleOf", inPlace := ["internal/bytealg.IndexByteString", "internal/bytealg.IndexString", "internal/abi.NoEscape"], unfollowed := true, recurses := true, named := ["internal/bytealg.MaxLen"], apart := false, narrowed := true }
def DownsampleOfUptoSaid : Prop := downsampleOfUptoRow.holds Tryz.pinned (OpenSpec.upto downsampleOfSpec)

/-- 'lookoutlaw28.DownsampleBuckets', WHERE WHAT IT READS IS OF BULK AT MOST 1048576: true; the input reads as it did. -/
def downsampleBucketsUptoRow : OpenClaim := { program := "ytedcnhbblgmdnaagreat", sum := "8642202083db0b8d37c951bb1ce45119e2133e57151193f5d23e04b59f0a8e5f", func := "lookout/lookoutlaw28.DownsampleBuckets", spec := "downsampleBuckets", inPlace := ["internal/bytealg.IndexByteString", "internal/bytealg.IndexString", "internal/abi.NoEscape"], unfollowed := true, recurses := true, named := ["internal/bytealg.MaxLen"], apart := false, narrowed := true }
def DownsampleBucketsUptoSaid : Prop := downsampleBucketsUptoRow.holds Tryz.pinned (OpenSpec.upto downsampleBucketsSpec)

/-- 'lookoutlaw28.DownsampleCoarsens', WHERE WHAT IT READS IS OF BULK AT MOST 1048576: true; the input reads as it did. -/
def downsampleCoarsensUptoRow : OpenClaim := { program := "ytedcnhbblgmdnaagreat", sum := "8642202083db0b8d37c951bb1ce45119e2133e57151193f5d23e04b59f0a8e5f", func := "lookout/lookoutlaw28.DownsampleCoarsens", spec := "downsampleCoarsens", inPlace := ["internal/bytealg.IndexByteString", "internal/bytealg.IndexString", "internal/abi.NoEscape"], unfollowed := true, recurses := true, named := ["internal/bytealg.MaxLen"], apart := false, narrowed := true }
def DownsampleCoarsensUptoSaid : Prop := downsampleCoarsensUptoRow.holds Tryz.pinned (OpenSpec.upto downsampleCoarsensSpec)

/-- 'lookoutlaw28.DownsampleMerge', WHERE WHAT IT READS IS OF BULK AT MOST 1048576: true; the input reads as it did. -/
def downsampleMergeUptoRow : OpenClaim := { program := "ytedcnhbblgmdnaagreat", sum := "8642202083db0b8d37c951bb1ce45119e2133e57151193f5d23e04b59f0a8e5f", func := "lookout/lookoutlaw28.DownsampleMerge", spec := "downsampleMerge", inPlace := ["internal/bytealg.IndexByteString", "internal/bytealg.IndexString", "internal/abi.NoEscape"], unfollowed := true, recurses := true, named := ["internal/bytealg.MaxLen"], apart := false, narrowed := true }
def DownsampleMergeUptoSaid : Prop := downsampleMergeUptoRow.holds Tryz.pinned (OpenSpec.upto downsampleMergeSpec)

/-- 'lookoutlaw28.DownsampleParts', WHERE WHAT IT READS IS OF BULK AT MOST 1048576: true; the input reads as it did. -/
def downsamplePartsUptoRow : OpenClaim := { program := "ytedcnhbblgmdnaagreat", sum := "8642202083db0b8d37c951bb1ce45119e2133e57151193f5d23e04b59f0a8e5f", func := "lookout/lookoutlaw28.DownsampleParts", spec := "downsampleParts", inPlace := ["internal/bytealg.IndexByteString", "internal/bytealg.IndexString", "internal/abi.NoEscape"], unfollowed := true, recurses := true, named := ["internal/bytealg.MaxLen"], apart := false, narrowed := true }
def DownsamplePartsUptoSaid : Prop := downsamplePartsUptoRow.holds Tryz.pinned (OpenSpec.upto downsamplePartsSpec)

/-- 'lookoutlaw28.DownsampleSet', WHERE WHAT IT READS IS OF BULK AT MOST 1048576: true; the input reads as it did. -/
def downsampleSetUptoRow : OpenClaim := { program := "ytedcnhbblgmdnaagreat", sum := "8642202083db0b8d37c951bb1ce45119e2133e57151193f5d23e04b59f0a8e5f", func := "lookout/lookoutlaw28.DownsampleSet", spec := "downsampleSet", inPlace := ["internal/bytealg.IndexByteString", "internal/bytealg.IndexString", "internal/abi.NoEscape"], unfollowed := true, recurses := true, named := ["internal/bytealg.MaxLen"], apart := false, narrowed := true }
def DownsampleSetUptoSaid : Prop := downsampleSetUptoRow.holds Tryz.pinned (OpenSpec.upto downsampleSetSpec)

/-- 'lookoutlaw28.DownsampleBlock', WHERE WHAT IT READS IS OF BULK AT MOST 1048576: true; the input reads as it did. -/
def downsampleBlockUptoRow : OpenClaim := { program := "ytedcnhbblgmdnaagreat", sum := "8642202083db0b8d37c951bb1ce45119e2133e57151193f5d23e04b59f0a8e5f", func := "lookout/lookoutlaw28.DownsampleBlock", spec := "downsampleBlock", inPlace := ["internal/bytealg.IndexByteString", "internal/bytealg.IndexString", "internal/abi.NoEscape"], unfollowed := true, recurses := true, named := ["internal/bytealg.MaxLen"], apart := false, narrowed := true }
def DownsampleBlockUptoSaid : Prop := downsampleBlockUptoRow.holds Tryz.pinned (OpenSpec.upto downsampleBlockSpec)

/-- 'lookoutlaw28.DownsampleStored', WHERE WHAT IT READS IS OF BULK AT MOST 1048576: true; the input reads as it did. -/
def downsampleStoredUptoRow : OpenClaim := { program := "ytedcnhbblgmdnaagreat", sum := "8642202083db0b8d37c951bb1ce45119e2133e57151193f5d23e04b59f0a8e5f", func := "lookout/lookoutlaw28.DownsampleStored", spec := "downsampleStored", inPlace := ["internal/bytealg.IndexByteString", "internal/bytealg.IndexString", "internal/abi.NoEscape"], unfollowed := true, recurses := true, named := ["internal/bytealg.MaxLen"], apart := false, narrowed := true }
def DownsampleStoredUptoSaid : Prop := downsampleStoredUptoRow.holds Tryz.pinned (OpenSpec.upto downsampleStoredSpec)

end Rows
end Go.Proofs.YtedcnhbblgmdnaaGreat
