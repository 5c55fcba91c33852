/-
  No cell of these rows narrows 'for every input' (looked for: loops, veiled, ifaces, maps, wideKeys, modest, calm, conditions, laid).
  DERIVED. THE GIVEN ROWS OF THIS SEAT. 4 by the template 'for every input the law returns true; each argument reads behind the call as it read before'; 0 by the template 'total and deterministic' (their statements: YtafaoldmemcigaaGreatTotals.lean).
  GIVEN WITH THE SEED: the statements are not yours to turn. If you find one false, say at which input.
  Laid BY PROGRAM, IN A SANDBOX (cutbox-rows.mjs): the forced cells as the released guide's own fill.sh prints them over the translation a4bf4568977210d0… (all of the seat's roots in one cut). By AI agents, Wed Nov 11 2026. No macro, syntax, notation, axiom, sorry.
-/
import Derived.Test.YtafaoldmemcigaaGreatChecked
import GoSem.Claim
import GoSem.ClaimJoined
import GoSem.ClaimMapViews
import Derived.JoinedTies
import Derived.KernelRfl
namespace Go.Proofs.YtafaoldmemcigaaGreat
/- THE CELL 'sum', in the pinned program and in every row, IS THE sha256 OF THE DUMP (.gsa) THAT YtafaoldmemcigaaGreatProg.lean LOADS. Nothing in Lean hashes anything: it is a label: what it is worth is what the hold of that sum in a sandbox is worth. -/
noncomputable def Tryz.pinned : Pinned := { name := "ytafaoldmemcigaagreat", sum := "a4bf4568977210d048b3cea6697aeae2f4ba93fb3873dbf3c3c31512a711ba64", checked := Tryz.checked }
namespace Rows
def none {H : Type} : Left H := { results := [], args := [] }

/-- 'lookoutlaw17.SerieschunkSeries': WHATEVER THE INPUT: true; the input reads as it did. -/
def serieschunkSeriesSpec : ChangeSpec := { name := "serieschunkSeries", fn := fun _ => fun
  | [d] => { results := [.lit (.bool true)], args := [d] }
  | _ => none }
def serieschunkSeriesRow : OpenClaim := { program := "ytafaoldmemcigaagreat", sum := "a4bf4568977210d048b3cea6697aeae2f4ba93fb3873dbf3c3c31512a711ba64", func := "lookout/lookoutlaw17.SerieschunkSeries", spec := "serieschunkSeries", inPlace := ["internal/abi.NoEscape"], unfollowed := true, recurses := true, apart := false }
def SerieschunkSeriesSaid : Prop := serieschunkSeriesRow.holds Tryz.pinned (OpenSpec.ofChange serieschunkSeriesSpec)

/-- ITS FALSE NEIGHBOUR: 'it returns false'. Refute it at one input. -/
def serieschunkSeriesWrong : ChangeSpec := { name := "serieschunkSeries", fn := fun _ => fun
  | [d] => { results := [.lit (.bool false)], args := [d] }
  | _ => none }
def SerieschunkSeriesWrongFalsely : Prop := serieschunkSeriesRow.holds Tryz.pinned (OpenSpec.ofChange serieschunkSeriesWrong)

/-- 'lookoutlaw17.SerieschunkDamage': WHATEVER THE INPUT: true; the input reads as it did. -/
def serieschunkDamageSpec : ChangeSpec := { name := "serieschunkDamage", fn := fun _ => fun
  | [d1, d2, d3] => { results := [.lit (.bool true)], args := [d1, d2, d3] }
  | _ => none }
def serieschunkDamageRow : OpenClaim := { program := "ytafaoldmemcigaagreat", sum := "a4bf4568977210d048b3cea6697aeae2f4ba93fb3873dbf3c3c31512a711ba64", func := "lookout/lookoutlaw17.SerieschunkDamage", spec := "serieschunkDamage", inPlace := ["internal/abi.NoEscape"], unfollowed := true, recurses := true, apart := false }
def SerieschunkDamageSaid : Prop := serieschunkDamageRow.holds Tryz.pinned (OpenSpec.ofChange serieschunkDamageSpec)

/-- ITS FALSE NEIGHBOUR: 'it returns false'. Refute it at one input. -/
def serieschunkDamageWrong : ChangeSpec := { name := "serieschunkDamage", fn := fun _ => fun
  | [d1, d2, d3] => { results := [.lit (.bool false)], args := [d1, d2, d3] }
  | _ => none }
def SerieschunkDamageWrongFalsely : Prop := serieschunkDamageRow.holds Tryz.pinned (OpenSpec.ofChange serieschunkDamageWrong)

/-- 'lookoutlaw17.SerieschunkSlices': WHATEVER THE INPUT: true; the input reads as it did. -/
def serieschunkSlicesSpec : ChangeSpec := { name := "serieschunkSlices", fn := fun _ => fun
  | [d1, d2] => { results := [.lit (.bool true)], args := [d1, d2] }
  | _ => none }
def serieschunkSlicesRow : OpenClaim := { program := "ytafaoldmemcigaagreat", sum := "a4bf4568977210d048b3cea6697aeae2f4ba93fb3873dbf3c3c31512a711ba64", func := "lookout/lookoutlaw17.SerieschunkSlices", spec := "serieschunkSlices", inPlace := ["internal/abi.NoEscape"], unfollowed := true, recurses := true, apart := false }
def SerieschunkSlicesSaid : Prop := serieschunkSlicesRow.holds Tryz.pinned (OpenSpec.ofChange serieschunkSlicesSpec)

/-- ITS FALSE NEIGHBOUR: 'it returns false'. Refute it at one input. -/
def serieschunkSlicesWrong : ChangeSpec := { name := "serieschunkSlices", fn := fun _ => fun
  | [d1, d2] => { results := [.lit (.bool false)], args := [d1, d2] }
  | _ => none }
def SerieschunkSlicesWrongFalsely : Prop := serieschunkSlicesRow.holds Tryz.pinned (OpenSpec.ofChange serieschunkSlicesWrong)

/-- 'lookoutlaw17.SerieschunkZones': WHATEVER THE INPUT: true; the input reads as it did. -/
def serieschunkZonesSpec : ChangeSpec := { name := "serieschunkZones", fn := fun _ => fun
  | [d1, d2] => { results := [.lit (.bool true)], args := [d1, d2] }
  | _ => none }
def serieschunkZonesRow : OpenClaim := { program := "ytafaoldmemcigaagreat", sum := "a4bf4568977210d048b3cea6697aeae2f4ba93fb3873dbf3c3c31512a711ba64", func := "lookout/lookoutlaw17.SerieschunkZones", spec := "serieschunkZones", inPlace := ["internal/abi.NoEscape"], unfollowed := true, recurses := true, apart := false }
def SerieschunkZonesSaid : Prop := serieschunkZonesRow.holds Tryz.pinned (OpenSpec.ofChange serieschunkZonesSpec)

/-- ITS FALSE NEIGHBOUR: 'it returns false'. Refute it at one input. -/
def serieschunkZonesWrong : ChangeSpec := { name := "serieschunkZones", fn := fun _ => fun
  | [d1, d2] => { results := [.lit (.bool false)], args := [d1, d2] }
  | _ => none }
def SerieschunkZonesWrongFalsely : Prop := serieschunkZonesRow.holds Tryz.pinned (OpenSpec.ofChange serieschunkZonesWrong)

/- THE SECOND FORM. 'bulk': how many values and letters a reading holds, each counted each time it is reached (what is shared counts as often as it is met; a slice's spare places count too). A statement '..UptoSaid' is the law's where the arguments, and the package variables that the reading takes, are together of bulk at most 1048576: NARROWER than '..Said'. Prove '..Said' where nothing that the law and all that it calls make is longer than what came in: it says more and counts as full. Else prove '..UptoSaid'. A law counts once. -/
mutual
def uptoBulk {H : Type} : DataW H → Nat
  | .lit (.string bytes) => bytes.length + 1
  | .lit _ => 1
  | .nil => 1
  | .ptr d => uptoBulk d + 1
  | .slice elems spare => uptoBulkAll elems + uptoBulkAll spare + 1
  | .agg parts => uptoBulkAll parts + 1
  | .iface _ d => uptoBulk d + 1
  | .map entries => uptoBulkEntries entries + 1
  | .held _ => 1
def uptoBulkAll {H : Type} : List (DataW H) → Nat
  | [] => 0
  | d :: r => uptoBulk d + uptoBulkAll r
def uptoBulkEntries {H : Type} : List (Lit × DataW H) → Nat
  | [] => 0
  | x :: r => uptoBulkEntry x + uptoBulkEntries r
def uptoBulkEntry {H : Type} : Lit × DataW H → Nat
  | (.string bytes, d) => bytes.length + uptoBulk d + 1
  | (_, d) => uptoBulk d + 1
 end
def uptoSmall : (H : Type) → List (DataW H) → Bool := fun _ ds => decide (uptoBulkAll ds ≤ 1048576)
def OpenSpec.upto (s : _root_.Go.ChangeSpec) : _root_.Go.OpenSpec := { _root_.Go.OpenSpec.ofChange s with cond := some uptoSmall }

/-- 'lookoutlaw17.SerieschunkSeries', WHERE WHAT IT READS IS OF BULK AT MOST 1048576: true; the input reads as it did. -/
def serieschunkSeriesUptoRow : OpenClaim := { program := "ytafaoldmemcigaagreat", sum := "a4bf4568977210d048b3cea6697aeae2f4ba93fb3873dbf3c3c31512a711ba64", func := "lookout/lookoutlaw17.SerieschunkSeries", spec := "serieschunkSeries", inPlace := ["internal/abi.NoEscape"], unfollowed := true, recurses := true, apart := false, narrowed := true }
def SerieschunkSeriesUptoSaid : Prop := serieschunkSeriesUptoRow.holds Tryz.pinned (OpenSpec.upto serieschunkSeriesSpec)

/-- 'lookoutlaw17.SerieschunkDamage', WHERE WHAT IT READS IS OF BULK AT MOST 1048576: true; the input reads as it did. -/
def serieschunkDamageUptoRow : OpenClaim := { program := "ytafaoldmemcigaagreat", sum := "a4bf4568977210d048b3cea6697aeae2f4ba93fb3873dbf3c3c31512a711ba64", func := "lookout/lookoutlaw17.SerieschunkDamage", spec := "serieschunkDamage", inPlace := ["internal/abi.NoEscape"], unfollowed := true, recurses := true, apart := false, narrowed := true }
def SerieschunkDamageUptoSaid : Prop := serieschunkDamageUptoRow.holds Tryz.pinned (OpenSpec.upto serieschunkDamageSpec)

/-- 'lookoutlaw17.SerieschunkSlices', WHERE WHAT IT READS IS OF BULK AT MOST 1048576: true; the input reads as it did. -/
def serieschunkSlicesUptoRow : OpenClaim := { program := "ytafaoldmemcigaagreat", sum := "a4bf4568977210d048b3cea6697aeae2f4ba93fb3873dbf3c3c31512a711ba64", func := "lookout/lookoutlaw17.SerieschunkSlices", spec := "serieschunkSlices", inPlace := ["internal/abi.NoEscape"], unfollowed := true, recurses := true, apart := false, narrowed := true }
def SerieschunkSlicesUptoSaid : Prop := serieschunkSlicesUptoRow.holds Tryz.pinned (OpenSpec.upto serieschunkSlicesSpec)

/-- 'lookoutlaw17.SerieschunkZones', WHERE WHAT IT READS IS OF BULK AT MOST 1048576: true; the input reads as it did. -/
def serieschunkZonesUptoRow : OpenClaim := { program := "ytafaoldmemcigaagreat", sum := "a4bf4568977210d048b3cea6697aeae2f4ba93fb3873dbf3c3c31512a711ba64", func := "lookout/lookoutlaw17.SerieschunkZones", spec := "serieschunkZones", inPlace := ["internal/abi.NoEscape"], unfollowed := true, recurses := true, apart := false, narrowed := true }
def SerieschunkZonesUptoSaid : Prop := serieschunkZonesUptoRow.holds Tryz.pinned (OpenSpec.upto serieschunkZonesSpec)

end Rows
end Go.Proofs.YtafaoldmemcigaaGreat
