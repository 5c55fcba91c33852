/- A part of the proof. -/
import Derived.Test.YtedcnhbblgmdnaaGreatProg
import Derived.Lib.Strings
import Derived.Lib.Slices
import Derived.Lib.Walk
import Derived.Lib.Bytealg
set_option maxHeartbeats 8000000
set_option maxRecDepth 10000
set_option linter.unusedSimpArgs false
set_option linter.unusedVariables false
/-
 DERIVED: LAID BY THE SHELF's contract.sh OFF ITS TEMPLATE 'internal/stringslite.IndexByte' FOR THE PROGRAM 'Tryz' (the function's number there: 273). THE LIBRARY's OWN TEXT IS WALKED: nothing is assumed of it;where it calls a function without a Go body (internal/bytealg),THE MODEL's OWN ENTRY stands in,by its law (Derived/Lib/Bytealg.lean). Behind the contract: ONE FALSE NEIGHBOUR,a contract that says a little too much,REFUTED. (The template: the authors,an AI agent;Sun.)
-/
namespace Go.Proofs
set_option maxHeartbeats 1000000 in
set_option maxRecDepth 100000 in
theorem Tryz.stringslite_IndexByte (s:ByteArray)(c:Int)(w:World) :
  Calls Tryz.prog 273 #[.string s,.int .u8 c] w fun e w'=>e=.returned (.int .i64 (Lib.indexByte s.data.toList c.toNat.toUInt8))∧w'=w:=by
 go_enter Tryz.func273,Tryz.ntmps273
 go_wp2
 rw[run_callFunc_extern Tryz.func288 (by kernel_rfl) (by kernel_rfl) (by kernel_rfl) (e:=Extern.BytealgIndexByte.indexByte) (by kernel_rfl),Lib.run_indexByteString]
 simp only[Result.andThen]
 rw[Oper.upon_value]
 go_wp2
 go_ret
 exact⟨rfl,rfl⟩
end Go.Proofs
/-
 DERIVED: LAID BY THE SHELF's contract.sh OFF ITS TEMPLATE 'internal/stringslite.Index' FOR THE PROGRAM 'Tryz' (the function's number there: 251). THE LIBRARY's OWN TEXT IS WALKED: nothing is assumed of it. ✋ AT A substr OF ONE BYTE ALONE (the everyday 'strings.Contains(s, ",")'): of a longer one this contract says nothing. Behind the contract: ONE FALSE NEIGHBOUR, a contract that says a little too much, REFUTED. (The template: an AI agent of the authors' house; Sun.)
-/
namespace Go.Proofs
set_option maxHeartbeats 2000000 in
set_option maxRecDepth 100000 in
theorem Tryz.stringslite_Index_one (s:ByteArray)(c:UInt8)(w:World) :
  Calls Tryz.prog 251 #[.string s,.string ⟨#[c]⟩] w fun e w'=>e=.returned (.int .i64 (Lib.indexByte s.data.toList c))∧w'=w:=by
 go_enter Tryz.func251,Tryz.ntmps251
 go_wp2_with (go_at_call 273;refine(Tryz.stringslite_IndexByte _ _ _).mono ?_;rintro e w' ⟨rfl,rfl⟩)
 ·have h:([c]==s.toList)=true:=by assumption
  go_ret
  refine⟨?_,rfl⟩
  have e:s.data.toList=[c]:=by rw[← Lib.toList_data];exact(beq_iff_eq.1 h).symm
  rw[e]
  simp[Lib.indexByte]
 ·go_ret
  exact⟨rfl,rfl⟩
end Go.Proofs
/-
 DERIVED: LAID BY THE SHELF's contract.sh OFF ITS TEMPLATE 'strings.Index' FOR THE PROGRAM 'Tryz' (the function's number there: 213). THE LIBRARY's OWN TEXT IS WALKED: nothing is assumed of it. ✋ AT A substr OF ONE BYTE ALONE (the everyday 'strings.Index(s, ",")'): of a longer one this contract says nothing. Behind the contract: ONE FALSE NEIGHBOUR, a contract that says a little too much, REFUTED. (The template: an AI agent of the authors' house; Sun.)
-/
namespace Go.Proofs
set_option maxHeartbeats 1000000 in
theorem Tryz.strings_Index_one (s:ByteArray)(c:UInt8)(w:World) :
  Calls Tryz.prog 213 #[.string s,.string ⟨#[c]⟩] w fun e w'=>e=.returned (.int .i64 (Lib.indexByte s.data.toList c))∧w'=w:=by
 go_enter Tryz.func213,Tryz.ntmps213
 go_wp2_with (go_at_call 251;refine(Tryz.stringslite_Index_one _ _ _).mono ?_;rintro e w' ⟨rfl,rfl⟩)
 go_ret
 exact⟨rfl,rfl⟩
end Go.Proofs
/-
 DERIVED: LAID BY THE SHELF's contract.sh OFF ITS TEMPLATE 'strings.Contains' FOR THE PROGRAM 'Tryz' (the function's number there: 137). THE LIBRARY's OWN TEXT IS WALKED: nothing is assumed of it. ✋ AT A substr OF ONE BYTE ALONE (the everyday 'strings.Contains(s, ",")'): of a longer one this contract says nothing. Behind the contract: ONE FALSE NEIGHBOUR, a contract that says a little too much, REFUTED. (The template: an AI agent of the authors' house; Sun.)
-/
namespace Go.Proofs
set_option maxHeartbeats 1000000 in
theorem Tryz.strings_Contains_one (s:ByteArray)(c:UInt8)(w:World) :
  Calls Tryz.prog 137 #[.string s,.string ⟨#[c]⟩] w fun e w'=>e=.returned (.bool (decide (0≤Lib.indexByte s.data.toList c)))∧w'=w:=by
 go_enter Tryz.func137,Tryz.ntmps137
 go_wp2_with (go_at_call 213;refine(Tryz.strings_Index_one _ _ _).mono ?_;rintro e w' ⟨rfl,rfl⟩)
 go_ret
 exact⟨rfl,rfl⟩
end Go.Proofs
