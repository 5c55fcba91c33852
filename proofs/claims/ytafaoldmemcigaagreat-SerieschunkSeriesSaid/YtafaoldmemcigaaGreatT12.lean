/- A part of the proof: an evaluator of the code, its contracts, the law. No condition. -/
import Derived.Test.YtafaoldmemcigaaGreatT11
import Derived.Test.YtafaoldmemcigaaGreatProg
import Derived.KernelRfl
namespace Go.Proofs.YtafaoldmemcigaaGreat.Ab
set_option maxHeartbeats 4000000
set_option linter.unusedSimpArgs false
set_option linter.unusedVariables false
def isOwner (r off : Nat) : C → Bool
  | .p .nilp => true
  | .ref r' off' => r' == r && off' == off
  | _ => false
/-- strings.Builder's copyCheck -/
def bldK : List V → St → Option (D × St)
  | [.c (.ref r off)], s => match s.get r with
    | some (.tc t [.p .nilp, b]) => if t = 150 ∧ off = 0 then some (.tup [], s.put r (.tc t [.ref r 0, b])) else none
    | some (.tc t [.ref r' o', _]) => if t = 150 ∧ off = 0 ∧ r' = r ∧ o' = 0 then some (.tup [], s) else none
    | _ => none
  | _, _ => none
/-- A byte. -/
def byteS : Pd → Option UInt8
  | .int .u8 n => if 0 ≤ n ∧ n < 256 then some (UInt8.ofNat n.toNat) else none
  | _ => none
theorem byteS_eq {x : Pd} {b : UInt8} (h : byteS x = some b) : x = pdOfByte b := by
  unfold byteS at h
  split at h
  · split at h
    · rename_i n hn
      cases h
      simp [pdOfByte]; omega
    · cases h
  · cases h
theorem byteS_of (b : UInt8) : byteS (pdOfByte b) = some b := by
  have h : b.toNat < 256 := b.toNat_lt
  simp only [byteS, pdOfByte]
  rw [if_pos ⟨by omega, by omega⟩]
  simp
theorem allM_byteS : ∀ {b : List Pd} {l : List UInt8}, allM byteS b = some l → b = l.map pdOfByte
  | [], l, h => by cases h; rfl
  | x :: r, l, h => by
    simp only [allM] at h
    split at h
    · cases h
    · rename_i y hy
      split at h
      · cases h
      · rename_i ys hys
        cases h
        rw [byteS_eq hy, allM_byteS hys]; rfl
theorem allM_byteS_of (l : List UInt8) : allM byteS (l.map pdOfByte) = some l := by
  induction l with
  | nil => rfl
  | cons x r ih => simp only [List.map_cons, allM, byteS_of, ih]
/-- String -/
def bldS : List V → St → Option (D × St)
  | [.c (.ref r off)], s => match s.get r with
    | some (.tc t [_, .nils]) => if t = 150 ∧ off = 0 then some (P' (.str []), s) else none
    | some (.tc t [_, .own n b id]) => match s.get id, allM byteS b with
      | some (.front es m u), some l => if t = 150 ∧ off = 0 ∧ es = 1 ∧ u = 5 ∧ m = n ∧ l.length = n ∧ 0 < n ∧ n ≤ 140737488355328 then some (P' (.str l), s) else none
      | _, _ => none
    | _ => none
  | _, _ => none
def bld (n : Nat) : Option (List V → St → Option (D × St)) := if n = 130 then some bldK else if n = 109 then some bldS else none
def opens : List Nat := [61, 54, 117, 129, 135, 143, 24, 48, 51, 81, 118, 120, 107, 108]
noncomputable def E0 : Env := mkEnv Tryz.prog opens [32, 45, 64, 83] bld [150]
theorem btE (t : Nat) : E0.bt t = (t == 150) := by
  show List.elem t [150] = _
  unfold List.elem
  cases (t == 150) <;> rfl
attribute [go_sem] btE
theorem ti0 : E0.ti 0 = some { size := 1, agg := false, bytes := 0, zero := none, kn := Kn.other, eq := false } := by kernel_rfl
theorem ti1 : E0.ti 1 = some { size := 1, agg := false, bytes := 8, zero := some [C.p Pd.nilf], kn := Kn.other, eq := false } := by kernel_rfl
theorem ti2 : E0.ti 2 = some { size := 1, agg := false, bytes := 8, zero := some [C.p (Pd.int IntKind.i64 (0))], kn := Kn.int IntKind.i64, eq := false } := by kernel_rfl
theorem ti3 : E0.ti 3 = some { size := 1, agg := false, bytes := 8, zero := some [C.p (Pd.int IntKind.i64 (0))], kn := Kn.int IntKind.i64, eq := false } := by kernel_rfl
theorem ti4 : E0.ti 4 = some { size := 1, agg := false, bytes := 1, zero := some [C.p (Pd.bool false)], kn := Kn.bool, eq := false } := by kernel_rfl
theorem ti5 : E0.ti 5 = some { size := 1, agg := false, bytes := 1, zero := some [C.p (Pd.int IntKind.u8 (0))], kn := Kn.int IntKind.u8, eq := false } := by kernel_rfl
theorem ti6 : E0.ti 6 = some { size := 1, agg := false, bytes := 1, zero := some [C.p (Pd.int IntKind.u8 (0))], kn := Kn.int IntKind.u8, eq := false } := by kernel_rfl
theorem ti7 : E0.ti 7 = some { size := 4, agg := true, bytes := 24, zero := some [C.p (Pd.int IntKind.i64 (0)), C.p (Pd.int IntKind.i64 (0)), C.p (Pd.bool false), C.p (Pd.int IntKind.u8 (0))], kn := Kn.struct [(0, 1, false), (1, 1, false), (2, 1, false), (3, 1, false)], eq := false } := by kernel_rfl
theorem ti8 : E0.ti 8 = some { size := 4, agg := true, bytes := 24, zero := some [C.p (Pd.int IntKind.i64 (0)), C.p (Pd.int IntKind.i64 (0)), C.p (Pd.bool false), C.p (Pd.int IntKind.u8 (0))], kn := Kn.struct [(0, 1, false), (1, 1, false), (2, 1, false), (3, 1, false)], eq := false } := by kernel_rfl
theorem ti9 : E0.ti 9 = some { size := 1, agg := false, bytes := 16, zero := some [C.p (Pd.str [])], kn := Kn.str, eq := false } := by kernel_rfl
theorem ti10 : E0.ti 10 = some { size := 1, agg := false, bytes := 16, zero := some [C.p (Pd.str [])], kn := Kn.str, eq := false } := by kernel_rfl
theorem ti11 : E0.ti 11 = some { size := 1, agg := false, bytes := 16, zero := some [C.p (Pd.str [])], kn := Kn.str, eq := false } := by kernel_rfl
theorem ti12 : E0.ti 12 = some { size := 1, agg := false, bytes := 8, zero := some [C.p (Pd.int IntKind.u64 (0))], kn := Kn.int IntKind.u64, eq := false } := by kernel_rfl
theorem ti13 : E0.ti 13 = some { size := 2, agg := true, bytes := 24, zero := some [C.p (Pd.str []), C.p (Pd.int IntKind.u64 (0))], kn := Kn.struct [(0, 1, false), (1, 1, false)], eq := false } := by kernel_rfl
theorem ti14 : E0.ti 14 = some { size := 2, agg := true, bytes := 24, zero := some [C.p (Pd.str []), C.p (Pd.int IntKind.u64 (0))], kn := Kn.struct [(0, 1, false), (1, 1, false)], eq := false } := by kernel_rfl
theorem ti15 : E0.ti 15 = some { size := 1, agg := false, bytes := 8, zero := some [C.p Pd.nilp], kn := Kn.ptr, eq := false } := by kernel_rfl
theorem ti16 : E0.ti 16 = some { size := 1, agg := false, bytes := 8, zero := some [C.p Pd.nilp], kn := Kn.ptr, eq := false } := by kernel_rfl
theorem ti17 : E0.ti 17 = some { size := 1, agg := false, bytes := 8, zero := some [C.p Pd.nilp], kn := Kn.ptr, eq := false } := by kernel_rfl
theorem ti18 : E0.ti 18 = some { size := 1, agg := true, bytes := 8, zero := some [C.p Pd.nilp], kn := Kn.struct [(0, 1, false)], eq := false } := by kernel_rfl
theorem ti19 : E0.ti 19 = some { size := 1, agg := true, bytes := 8, zero := some [C.p Pd.nilp], kn := Kn.struct [(0, 1, false)], eq := false } := by kernel_rfl
theorem ti20 : E0.ti 20 = some { size := 1, agg := false, bytes := 16, zero := some [C.p Pd.nili], kn := Kn.other, eq := false } := by kernel_rfl
theorem ti21 : E0.ti 21 = some { size := 1, agg := false, bytes := 4, zero := some [C.p (Pd.int IntKind.i32 (0))], kn := Kn.int IntKind.i32, eq := false } := by kernel_rfl
theorem ti22 : E0.ti 22 = some { size := 1, agg := false, bytes := 24, zero := some [C.nils], kn := Kn.slice 64, eq := false } := by kernel_rfl
theorem ti23 : E0.ti 23 = some { size := 1, agg := false, bytes := 24, zero := some [C.nils], kn := Kn.slice 45, eq := false } := by kernel_rfl
theorem ti24 : E0.ti 24 = some { size := 1, agg := false, bytes := 24, zero := some [C.nils], kn := Kn.slice 57, eq := false } := by kernel_rfl
theorem ti25 : E0.ti 25 = some { size := 4, agg := true, bytes := 80, zero := some [C.nils, C.p (Pd.int IntKind.i64 (0)), C.nils, C.nils], kn := Kn.struct [(0, 1, false), (1, 1, false), (2, 1, false), (3, 1, false)], eq := false } := by kernel_rfl
theorem ti26 : E0.ti 26 = some { size := 4, agg := true, bytes := 80, zero := some [C.nils, C.p (Pd.int IntKind.i64 (0)), C.nils, C.nils], kn := Kn.struct [(0, 1, false), (1, 1, false), (2, 1, false), (3, 1, false)], eq := false } := by kernel_rfl
theorem ti27 : E0.ti 27 = some { size := 1, agg := false, bytes := 8, zero := some [C.p Pd.nilf], kn := Kn.other, eq := false } := by kernel_rfl
theorem ti28 : E0.ti 28 = some { size := 1, agg := false, bytes := 8, zero := some [C.p Pd.nilf], kn := Kn.other, eq := false } := by kernel_rfl
theorem ti29 : E0.ti 29 = some { size := 1, agg := false, bytes := 4, zero := some [C.p (Pd.int IntKind.u32 (0))], kn := Kn.int IntKind.u32, eq := false } := by kernel_rfl
theorem ti30 : E0.ti 30 = some { size := 8, agg := true, bytes := 32, zero := some [C.p (Pd.int IntKind.u32 (0)), C.p (Pd.int IntKind.u32 (0)), C.p (Pd.int IntKind.u32 (0)), C.p (Pd.int IntKind.u32 (0)), C.p (Pd.int IntKind.u32 (0)), C.p (Pd.int IntKind.u32 (0)), C.p (Pd.int IntKind.u32 (0)), C.p (Pd.int IntKind.u32 (0))], kn := Kn.array 8 29, eq := false } := by kernel_rfl
theorem ti31 : E0.ti 31 = some { size := 13, agg := true, bytes := 72, zero := some [C.p (Pd.int IntKind.i64 (0)), C.p (Pd.int IntKind.i64 (0)), C.p (Pd.int IntKind.i64 (0)), C.p (Pd.int IntKind.i64 (0)), C.p (Pd.int IntKind.i64 (0)), C.p (Pd.int IntKind.u32 (0)), C.p (Pd.int IntKind.u32 (0)), C.p (Pd.int IntKind.u32 (0)), C.p (Pd.int IntKind.u32 (0)), C.p (Pd.int IntKind.u32 (0)), C.p (Pd.int IntKind.u32 (0)), C.p (Pd.int IntKind.u32 (0)), C.p (Pd.int IntKind.u32 (0))], kn := Kn.struct [(0, 1, false), (1, 1, false), (2, 1, false), (3, 1, false), (4, 1, false), (5, 8, true)], eq := false } := by kernel_rfl
theorem ti32 : E0.ti 32 = some { size := 13, agg := true, bytes := 72, zero := some [C.p (Pd.int IntKind.i64 (0)), C.p (Pd.int IntKind.i64 (0)), C.p (Pd.int IntKind.i64 (0)), C.p (Pd.int IntKind.i64 (0)), C.p (Pd.int IntKind.i64 (0)), C.p (Pd.int IntKind.u32 (0)), C.p (Pd.int IntKind.u32 (0)), C.p (Pd.int IntKind.u32 (0)), C.p (Pd.int IntKind.u32 (0)), C.p (Pd.int IntKind.u32 (0)), C.p (Pd.int IntKind.u32 (0)), C.p (Pd.int IntKind.u32 (0)), C.p (Pd.int IntKind.u32 (0))], kn := Kn.struct [(0, 1, false), (1, 1, false), (2, 1, false), (3, 1, false), (4, 1, false), (5, 8, true)], eq := true } := by kernel_rfl
theorem ti33 : E0.ti 33 = some { size := 16, agg := true, bytes := 120, zero := some [C.p (Pd.int IntKind.i64 (0)), C.nils, C.p (Pd.int IntKind.i64 (0)), C.p (Pd.int IntKind.i64 (0)), C.p (Pd.int IntKind.i64 (0)), C.p (Pd.int IntKind.i64 (0)), C.p (Pd.int IntKind.i64 (0)), C.p (Pd.int IntKind.u32 (0)), C.p (Pd.int IntKind.u32 (0)), C.p (Pd.int IntKind.u32 (0)), C.p (Pd.int IntKind.u32 (0)), C.p (Pd.int IntKind.u32 (0)), C.p (Pd.int IntKind.u32 (0)), C.p (Pd.int IntKind.u32 (0)), C.p (Pd.int IntKind.u32 (0)), C.p (Pd.str [])], kn := Kn.struct [(0, 1, false), (1, 1, false), (2, 13, true), (15, 1, false)], eq := false } := by kernel_rfl
theorem ti34 : E0.ti 34 = some { size := 16, agg := true, bytes := 120, zero := some [C.p (Pd.int IntKind.i64 (0)), C.nils, C.p (Pd.int IntKind.i64 (0)), C.p (Pd.int IntKind.i64 (0)), C.p (Pd.int IntKind.i64 (0)), C.p (Pd.int IntKind.i64 (0)), C.p (Pd.int IntKind.i64 (0)), C.p (Pd.int IntKind.u32 (0)), C.p (Pd.int IntKind.u32 (0)), C.p (Pd.int IntKind.u32 (0)), C.p (Pd.int IntKind.u32 (0)), C.p (Pd.int IntKind.u32 (0)), C.p (Pd.int IntKind.u32 (0)), C.p (Pd.int IntKind.u32 (0)), C.p (Pd.int IntKind.u32 (0)), C.p (Pd.str [])], kn := Kn.struct [(0, 1, false), (1, 1, false), (2, 13, true), (15, 1, false)], eq := false } := by kernel_rfl
theorem ti35 : E0.ti 35 = some { size := 1, agg := false, bytes := 8, zero := some [C.p (Pd.int IntKind.i64 (0))], kn := Kn.int IntKind.i64, eq := false } := by kernel_rfl
theorem ti36 : E0.ti 36 = some { size := 1, agg := false, bytes := 0, zero := none, kn := Kn.other, eq := false } := by kernel_rfl
theorem ti37 : E0.ti 37 = some { size := 1, agg := false, bytes := 8, zero := some [C.p Pd.nilf], kn := Kn.other, eq := false } := by kernel_rfl
theorem ti38 : E0.ti 38 = some { size := 1, agg := false, bytes := 8, zero := some [C.p Pd.nilf], kn := Kn.other, eq := false } := by kernel_rfl
theorem ti39 : E0.ti 39 = some { size := 1, agg := false, bytes := 2, zero := some [C.p (Pd.int IntKind.u16 (0))], kn := Kn.int IntKind.u16, eq := false } := by kernel_rfl
theorem ti40 : E0.ti 40 = some { size := 1, agg := false, bytes := 0, zero := none, kn := Kn.other, eq := false } := by kernel_rfl
theorem ti41 : E0.ti 41 = some { size := 1, agg := false, bytes := 8, zero := some [C.p Pd.nilf], kn := Kn.other, eq := false } := by kernel_rfl
theorem ti42 : E0.ti 42 = some { size := 1, agg := false, bytes := 8, zero := some [C.p Pd.nilf], kn := Kn.other, eq := false } := by kernel_rfl
theorem ti43 : E0.ti 43 = some { size := 1, agg := false, bytes := 8, zero := some [C.p Pd.nilf], kn := Kn.other, eq := false } := by kernel_rfl
theorem ti44 : E0.ti 44 = some { size := 2, agg := true, bytes := 16, zero := some [C.p (Pd.int IntKind.i64 (0)), C.p (Pd.int IntKind.i64 (0))], kn := Kn.struct [(0, 1, false), (1, 1, false)], eq := false } := by kernel_rfl
theorem ti45 : E0.ti 45 = some { size := 2, agg := true, bytes := 16, zero := some [C.p (Pd.int IntKind.i64 (0)), C.p (Pd.int IntKind.i64 (0))], kn := Kn.struct [(0, 1, false), (1, 1, false)], eq := true } := by kernel_rfl
theorem ti46 : E0.ti 46 = some { size := 1, agg := false, bytes := 8, zero := some [C.p Pd.nilf], kn := Kn.other, eq := false } := by kernel_rfl
theorem ti47 : E0.ti 47 = some { size := 1, agg := false, bytes := 8, zero := some [C.p Pd.nilf], kn := Kn.other, eq := false } := by kernel_rfl
theorem ti48 : E0.ti 48 = some { size := 1, agg := false, bytes := 24, zero := some [C.nils], kn := Kn.slice 9, eq := false } := by kernel_rfl
theorem ti49 : E0.ti 49 = some { size := 6, agg := true, bytes := 64, zero := some [C.p (Pd.int IntKind.i64 (0)), C.p (Pd.int IntKind.i64 (0)), C.p (Pd.bool false), C.p (Pd.int IntKind.i64 (0)), C.p (Pd.int IntKind.i64 (0)), C.nils], kn := Kn.struct [(0, 1, false), (1, 1, false), (2, 1, false), (3, 1, false), (4, 1, false), (5, 1, false)], eq := false } := by kernel_rfl
theorem ti50 : E0.ti 50 = some { size := 6, agg := true, bytes := 64, zero := some [C.p (Pd.int IntKind.i64 (0)), C.p (Pd.int IntKind.i64 (0)), C.p (Pd.bool false), C.p (Pd.int IntKind.i64 (0)), C.p (Pd.int IntKind.i64 (0)), C.nils], kn := Kn.struct [(0, 1, false), (1, 1, false), (2, 1, false), (3, 1, false), (4, 1, false), (5, 1, false)], eq := false } := by kernel_rfl
theorem ti51 : E0.ti 51 = some { size := 1, agg := false, bytes := 8, zero := some [C.p Pd.nilf], kn := Kn.other, eq := false } := by kernel_rfl
theorem ti52 : E0.ti 52 = some { size := 1, agg := false, bytes := 8, zero := some [C.p Pd.nilf], kn := Kn.other, eq := false } := by kernel_rfl
theorem ti53 : E0.ti 53 = some { size := 1, agg := false, bytes := 24, zero := some [C.nils], kn := Kn.slice 83, eq := false } := by kernel_rfl
theorem ti54 : E0.ti 54 = some { size := 6, agg := true, bytes := 64, zero := some [C.p (Pd.int IntKind.i64 (0)), C.p (Pd.int IntKind.i64 (0)), C.p (Pd.int IntKind.i64 (0)), C.p (Pd.int IntKind.i64 (0)), C.p (Pd.int IntKind.i64 (0)), C.nils], kn := Kn.struct [(0, 1, false), (1, 1, false), (2, 1, false), (3, 1, false), (4, 1, false), (5, 1, false)], eq := false } := by kernel_rfl
theorem ti55 : E0.ti 55 = some { size := 6, agg := true, bytes := 64, zero := some [C.p (Pd.int IntKind.i64 (0)), C.p (Pd.int IntKind.i64 (0)), C.p (Pd.int IntKind.i64 (0)), C.p (Pd.int IntKind.i64 (0)), C.p (Pd.int IntKind.i64 (0)), C.nils], kn := Kn.struct [(0, 1, false), (1, 1, false), (2, 1, false), (3, 1, false), (4, 1, false), (5, 1, false)], eq := false } := by kernel_rfl
theorem ti56 : E0.ti 56 = some { size := 7, agg := true, bytes := 72, zero := some [C.p (Pd.int IntKind.i64 (0)), C.p (Pd.int IntKind.i64 (0)), C.p (Pd.int IntKind.i64 (0)), C.p (Pd.int IntKind.i64 (0)), C.p (Pd.int IntKind.i64 (0)), C.p (Pd.int IntKind.i64 (0)), C.nils], kn := Kn.struct [(0, 1, false), (1, 6, true)], eq := false } := by kernel_rfl
theorem ti57 : E0.ti 57 = some { size := 7, agg := true, bytes := 72, zero := some [C.p (Pd.int IntKind.i64 (0)), C.p (Pd.int IntKind.i64 (0)), C.p (Pd.int IntKind.i64 (0)), C.p (Pd.int IntKind.i64 (0)), C.p (Pd.int IntKind.i64 (0)), C.p (Pd.int IntKind.i64 (0)), C.nils], kn := Kn.struct [(0, 1, false), (1, 6, true)], eq := false } := by kernel_rfl
theorem ti58 : E0.ti 58 = some { size := 1, agg := false, bytes := 8, zero := some [C.p Pd.nilf], kn := Kn.other, eq := false } := by kernel_rfl
theorem ti59 : E0.ti 59 = some { size := 1, agg := false, bytes := 8, zero := some [C.p Pd.nilf], kn := Kn.other, eq := false } := by kernel_rfl
theorem ti60 : E0.ti 60 = some { size := 1, agg := false, bytes := 8, zero := some [C.p Pd.nilf], kn := Kn.other, eq := false } := by kernel_rfl
theorem ti61 : E0.ti 61 = some { size := 1, agg := false, bytes := 8, zero := some [C.p Pd.nilf], kn := Kn.other, eq := false } := by kernel_rfl
theorem ti62 : E0.ti 62 = some { size := 1, agg := false, bytes := 8, zero := some [C.p Pd.nilf], kn := Kn.other, eq := false } := by kernel_rfl
theorem ti63 : E0.ti 63 = some { size := 2, agg := true, bytes := 32, zero := some [C.p (Pd.str []), C.p (Pd.str [])], kn := Kn.struct [(0, 1, false), (1, 1, false)], eq := false } := by kernel_rfl
theorem ti64 : E0.ti 64 = some { size := 2, agg := true, bytes := 32, zero := some [C.p (Pd.str []), C.p (Pd.str [])], kn := Kn.struct [(0, 1, false), (1, 1, false)], eq := true } := by kernel_rfl
theorem ti65 : E0.ti 65 = some { size := 1, agg := false, bytes := 0, zero := none, kn := Kn.other, eq := false } := by kernel_rfl
theorem ti66 : E0.ti 66 = some { size := 1, agg := false, bytes := 8, zero := some [C.p Pd.nilf], kn := Kn.other, eq := false } := by kernel_rfl
theorem ti67 : E0.ti 67 = some { size := 1, agg := false, bytes := 8, zero := some [C.p Pd.nilf], kn := Kn.other, eq := false } := by kernel_rfl
theorem ti68 : E0.ti 68 = some { size := 1, agg := false, bytes := 8, zero := some [C.p Pd.nilf], kn := Kn.other, eq := false } := by kernel_rfl
theorem ti69 : E0.ti 69 = some { size := 1, agg := false, bytes := 24, zero := some [C.nils], kn := Kn.slice 109, eq := false } := by kernel_rfl
theorem ti70 : E0.ti 70 = some { size := 1, agg := false, bytes := 8, zero := some [C.p Pd.nilf], kn := Kn.other, eq := false } := by kernel_rfl
theorem ti71 : E0.ti 71 = some { size := 1, agg := false, bytes := 0, zero := none, kn := Kn.other, eq := false } := by kernel_rfl
theorem ti72 : E0.ti 72 = some { size := 1, agg := false, bytes := 8, zero := some [C.p Pd.nilf], kn := Kn.other, eq := false } := by kernel_rfl
theorem ti73 : E0.ti 73 = some { size := 1, agg := false, bytes := 8, zero := some [C.p Pd.nilf], kn := Kn.other, eq := false } := by kernel_rfl
theorem ti74 : E0.ti 74 = some { size := 2, agg := true, bytes := 24, zero := some [C.p (Pd.str []), C.p (Pd.int IntKind.i64 (0))], kn := Kn.struct [(0, 1, false), (1, 1, false)], eq := false } := by kernel_rfl
theorem ti75 : E0.ti 75 = some { size := 2, agg := true, bytes := 24, zero := some [C.p (Pd.str []), C.p (Pd.int IntKind.i64 (0))], kn := Kn.struct [(0, 1, false), (1, 1, false)], eq := false } := by kernel_rfl
theorem ti76 : E0.ti 76 = some { size := 1, agg := false, bytes := 8, zero := some [C.p Pd.nilf], kn := Kn.other, eq := false } := by kernel_rfl
theorem ti77 : E0.ti 77 = some { size := 1, agg := false, bytes := 24, zero := some [C.nils], kn := Kn.slice 3, eq := false } := by kernel_rfl
theorem ti78 : E0.ti 78 = some { size := 1, agg := false, bytes := 8, zero := some [C.p Pd.nilf], kn := Kn.other, eq := false } := by kernel_rfl
theorem ti79 : E0.ti 79 = some { size := 1, agg := false, bytes := 8, zero := some [C.p Pd.nilf], kn := Kn.other, eq := false } := by kernel_rfl
theorem ti80 : E0.ti 80 = some { size := 1, agg := false, bytes := 8, zero := some [C.p Pd.nilf], kn := Kn.other, eq := false } := by kernel_rfl
theorem ti81 : E0.ti 81 = some { size := 1, agg := false, bytes := 8, zero := some [C.p Pd.nilf], kn := Kn.other, eq := false } := by kernel_rfl
theorem ti82 : E0.ti 82 = some { size := 2, agg := true, bytes := 16, zero := some [C.p (Pd.int IntKind.i64 (0)), C.p (Pd.int IntKind.i64 (0))], kn := Kn.struct [(0, 1, false), (1, 1, false)], eq := false } := by kernel_rfl
theorem ti83 : E0.ti 83 = some { size := 2, agg := true, bytes := 16, zero := some [C.p (Pd.int IntKind.i64 (0)), C.p (Pd.int IntKind.i64 (0))], kn := Kn.struct [(0, 1, false), (1, 1, false)], eq := true } := by kernel_rfl
theorem ti84 : E0.ti 84 = some { size := 1, agg := false, bytes := 8, zero := some [C.p Pd.nilf], kn := Kn.other, eq := false } := by kernel_rfl
theorem ti85 : E0.ti 85 = some { size := 1, agg := false, bytes := 0, zero := none, kn := Kn.other, eq := false } := by kernel_rfl
theorem ti86 : E0.ti 86 = some { size := 1, agg := false, bytes := 8, zero := some [C.p Pd.nilf], kn := Kn.other, eq := false } := by kernel_rfl
theorem ti87 : E0.ti 87 = some { size := 1, agg := false, bytes := 8, zero := some [C.p Pd.nilf], kn := Kn.other, eq := false } := by kernel_rfl
theorem ti88 : E0.ti 88 = some { size := 1, agg := false, bytes := 8, zero := some [C.p Pd.nilf], kn := Kn.other, eq := false } := by kernel_rfl
theorem ti89 : E0.ti 89 = some { size := 1, agg := false, bytes := 8, zero := some [C.p Pd.nilf], kn := Kn.other, eq := false } := by kernel_rfl
theorem ti90 : E0.ti 90 = some { size := 1, agg := false, bytes := 8, zero := some [C.p Pd.nilf], kn := Kn.other, eq := false } := by kernel_rfl
theorem ti91 : E0.ti 91 = some { size := 1, agg := false, bytes := 8, zero := some [C.p Pd.nilf], kn := Kn.other, eq := false } := by kernel_rfl
theorem ti92 : E0.ti 92 = some { size := 1, agg := false, bytes := 8, zero := some [C.p Pd.nilf], kn := Kn.other, eq := false } := by kernel_rfl
theorem ti93 : E0.ti 93 = some { size := 1, agg := false, bytes := 8, zero := some [C.p Pd.nilf], kn := Kn.other, eq := false } := by kernel_rfl
theorem ti94 : E0.ti 94 = some { size := 1, agg := false, bytes := 8, zero := some [C.p Pd.nilf], kn := Kn.other, eq := false } := by kernel_rfl
theorem ti95 : E0.ti 95 = some { size := 1, agg := false, bytes := 8, zero := some [C.p Pd.nilf], kn := Kn.other, eq := false } := by kernel_rfl
theorem ti96 : E0.ti 96 = some { size := 1, agg := false, bytes := 24, zero := some [C.nils], kn := Kn.slice 136, eq := false } := by kernel_rfl
theorem ti97 : E0.ti 97 = some { size := 1, agg := false, bytes := 8, zero := some [C.p Pd.nilf], kn := Kn.other, eq := false } := by kernel_rfl
theorem ti98 : E0.ti 98 = some { size := 1, agg := false, bytes := 8, zero := some [C.p Pd.nilf], kn := Kn.other, eq := false } := by kernel_rfl
theorem ti99 : E0.ti 99 = some { size := 1, agg := false, bytes := 24, zero := some [C.nils], kn := Kn.slice 142, eq := false } := by kernel_rfl
theorem ti100 : E0.ti 100 = some { size := 1, agg := false, bytes := 8, zero := some [C.p Pd.nilf], kn := Kn.other, eq := false } := by kernel_rfl
theorem ti101 : E0.ti 101 = some { size := 1, agg := false, bytes := 8, zero := some [C.p Pd.nilf], kn := Kn.other, eq := false } := by kernel_rfl
theorem ti102 : E0.ti 102 = some { size := 1, agg := false, bytes := 8, zero := some [C.p Pd.nilf], kn := Kn.other, eq := false } := by kernel_rfl
theorem ti103 : E0.ti 103 = some { size := 1, agg := false, bytes := 8, zero := some [C.p Pd.nilf], kn := Kn.other, eq := false } := by kernel_rfl
theorem ti104 : E0.ti 104 = some { size := 1, agg := false, bytes := 8, zero := some [C.p Pd.nilf], kn := Kn.other, eq := false } := by kernel_rfl
theorem ti105 : E0.ti 105 = some { size := 1, agg := false, bytes := 8, zero := some [C.p (Pd.int IntKind.i64 (0))], kn := Kn.int IntKind.i64, eq := false } := by kernel_rfl
theorem ti106 : E0.ti 106 = some { size := 1, agg := false, bytes := 8, zero := some [C.p Pd.nilf], kn := Kn.other, eq := false } := by kernel_rfl
theorem ti107 : E0.ti 107 = some { size := 1, agg := false, bytes := 8, zero := some [C.p Pd.nilf], kn := Kn.other, eq := false } := by kernel_rfl
theorem ti108 : E0.ti 108 = some { size := 3, agg := true, bytes := 24, zero := some [C.p (Pd.int IntKind.i64 (0)), C.p Pd.nilf, C.p Pd.nilf], kn := Kn.struct [(0, 1, false), (1, 1, false), (2, 1, false)], eq := false } := by kernel_rfl
theorem ti109 : E0.ti 109 = some { size := 3, agg := true, bytes := 24, zero := some [C.p (Pd.int IntKind.i64 (0)), C.p Pd.nilf, C.p Pd.nilf], kn := Kn.struct [(0, 1, false), (1, 1, false), (2, 1, false)], eq := false } := by kernel_rfl
theorem ti110 : E0.ti 110 = some { size := 1, agg := false, bytes := 8, zero := some [C.p Pd.nilp], kn := Kn.ptr, eq := false } := by kernel_rfl
theorem ti111 : E0.ti 111 = some { size := 1, agg := false, bytes := 24, zero := some [C.nils], kn := Kn.slice 5, eq := false } := by kernel_rfl
theorem ti112 : E0.ti 112 = some { size := 1, agg := false, bytes := 8, zero := some [C.p Pd.nilf], kn := Kn.other, eq := false } := by kernel_rfl
theorem ti113 : E0.ti 113 = some { size := 1, agg := false, bytes := 8, zero := some [C.p (Pd.int IntKind.u64 (0))], kn := Kn.int IntKind.u64, eq := false } := by kernel_rfl
theorem ti114 : E0.ti 114 = some { size := 1, agg := false, bytes := 0, zero := none, kn := Kn.other, eq := false } := by kernel_rfl
theorem ti115 : E0.ti 115 = some { size := 1, agg := false, bytes := 8, zero := some [C.p Pd.nilf], kn := Kn.other, eq := false } := by kernel_rfl
theorem ti116 : E0.ti 116 = some { size := 1, agg := false, bytes := 8, zero := some [C.p Pd.nilf], kn := Kn.other, eq := false } := by kernel_rfl
theorem ti117 : E0.ti 117 = some { size := 1, agg := false, bytes := 8, zero := some [C.p Pd.nilf], kn := Kn.other, eq := false } := by kernel_rfl
theorem ti118 : E0.ti 118 = some { size := 1, agg := false, bytes := 8, zero := some [C.p Pd.nilf], kn := Kn.other, eq := false } := by kernel_rfl
theorem ti119 : E0.ti 119 = some { size := 1, agg := false, bytes := 8, zero := some [C.p Pd.nilf], kn := Kn.other, eq := false } := by kernel_rfl
theorem ti120 : E0.ti 120 = some { size := 1, agg := false, bytes := 8, zero := some [C.p Pd.nilf], kn := Kn.other, eq := false } := by kernel_rfl
theorem ti121 : E0.ti 121 = some { size := 1, agg := false, bytes := 8, zero := some [C.p Pd.nilf], kn := Kn.other, eq := false } := by kernel_rfl
theorem ti122 : E0.ti 122 = some { size := 1, agg := false, bytes := 8, zero := some [C.p Pd.nilf], kn := Kn.other, eq := false } := by kernel_rfl
theorem ti123 : E0.ti 123 = some { size := 1, agg := false, bytes := 8, zero := some [C.p Pd.nilf], kn := Kn.other, eq := false } := by kernel_rfl
theorem ti124 : E0.ti 124 = some { size := 1, agg := false, bytes := 0, zero := none, kn := Kn.other, eq := false } := by kernel_rfl
theorem ti125 : E0.ti 125 = some { size := 1, agg := false, bytes := 8, zero := some [C.p Pd.nilf], kn := Kn.other, eq := false } := by kernel_rfl
theorem ti126 : E0.ti 126 = some { size := 1, agg := false, bytes := 8, zero := some [C.p Pd.nilf], kn := Kn.other, eq := false } := by kernel_rfl
theorem ti127 : E0.ti 127 = some { size := 1, agg := false, bytes := 0, zero := none, kn := Kn.other, eq := false } := by kernel_rfl
theorem ti128 : E0.ti 128 = some { size := 1, agg := false, bytes := 8, zero := some [C.p Pd.nilf], kn := Kn.other, eq := false } := by kernel_rfl
theorem ti129 : E0.ti 129 = some { size := 1, agg := false, bytes := 0, zero := none, kn := Kn.other, eq := false } := by kernel_rfl
theorem ti130 : E0.ti 130 = some { size := 1, agg := false, bytes := 8, zero := some [C.p Pd.nilf], kn := Kn.other, eq := false } := by kernel_rfl
theorem ti131 : E0.ti 131 = some { size := 1, agg := false, bytes := 8, zero := some [C.p Pd.nilf], kn := Kn.other, eq := false } := by kernel_rfl
theorem ti132 : E0.ti 132 = some { size := 1, agg := false, bytes := 8, zero := some [C.p Pd.nilf], kn := Kn.other, eq := false } := by kernel_rfl
theorem ti133 : E0.ti 133 = some { size := 1, agg := false, bytes := 8, zero := some [C.p Pd.nilf], kn := Kn.other, eq := false } := by kernel_rfl
theorem ti134 : E0.ti 134 = some { size := 1, agg := false, bytes := 8, zero := some [C.p Pd.nilf], kn := Kn.other, eq := false } := by kernel_rfl
theorem ti135 : E0.ti 135 = some { size := 3, agg := true, bytes := 24, zero := some [C.p (Pd.int IntKind.i64 (0)), C.p Pd.nilf, C.p Pd.nilf], kn := Kn.struct [(0, 1, false), (1, 1, false), (2, 1, false)], eq := false } := by kernel_rfl
theorem ti136 : E0.ti 136 = some { size := 3, agg := true, bytes := 24, zero := some [C.p (Pd.int IntKind.i64 (0)), C.p Pd.nilf, C.p Pd.nilf], kn := Kn.struct [(0, 1, false), (1, 1, false), (2, 1, false)], eq := false } := by kernel_rfl
theorem ti137 : E0.ti 137 = some { size := 1, agg := false, bytes := 8, zero := some [C.p Pd.nilp], kn := Kn.ptr, eq := false } := by kernel_rfl
theorem ti138 : E0.ti 138 = some { size := 1, agg := false, bytes := 8, zero := some [C.p Pd.nilf], kn := Kn.other, eq := false } := by kernel_rfl
theorem ti139 : E0.ti 139 = some { size := 1, agg := false, bytes := 8, zero := some [C.p Pd.nilf], kn := Kn.other, eq := false } := by kernel_rfl
theorem ti140 : E0.ti 140 = some { size := 1, agg := false, bytes := 8, zero := some [C.p Pd.nilf], kn := Kn.other, eq := false } := by kernel_rfl
theorem ti141 : E0.ti 141 = some { size := 3, agg := true, bytes := 24, zero := some [C.p (Pd.int IntKind.i64 (0)), C.p Pd.nilf, C.p Pd.nilf], kn := Kn.struct [(0, 1, false), (1, 1, false), (2, 1, false)], eq := false } := by kernel_rfl
theorem ti142 : E0.ti 142 = some { size := 3, agg := true, bytes := 24, zero := some [C.p (Pd.int IntKind.i64 (0)), C.p Pd.nilf, C.p Pd.nilf], kn := Kn.struct [(0, 1, false), (1, 1, false), (2, 1, false)], eq := false } := by kernel_rfl
theorem ti143 : E0.ti 143 = some { size := 1, agg := false, bytes := 8, zero := some [C.p Pd.nilp], kn := Kn.ptr, eq := false } := by kernel_rfl
theorem ti144 : E0.ti 144 = some { size := 1, agg := false, bytes := 8, zero := some [C.p Pd.nilf], kn := Kn.other, eq := false } := by kernel_rfl
theorem ti145 : E0.ti 145 = some { size := 3, agg := true, bytes := 48, zero := some [C.p (Pd.str []), C.p (Pd.str []), C.p (Pd.str [])], kn := Kn.array 3 9, eq := false } := by kernel_rfl
theorem ti146 : E0.ti 146 = some { size := 1, agg := false, bytes := 8, zero := some [C.p Pd.nilf], kn := Kn.other, eq := false } := by kernel_rfl
theorem ti147 : E0.ti 147 = some { size := 1, agg := false, bytes := 8, zero := some [C.p (Pd.int IntKind.u64 (0))], kn := Kn.int IntKind.u64, eq := false } := by kernel_rfl
theorem ti148 : E0.ti 148 = some { size := 1, agg := false, bytes := 8, zero := some [C.p Pd.nilp], kn := Kn.ptr, eq := false } := by kernel_rfl
theorem ti149 : E0.ti 149 = some { size := 2, agg := true, bytes := 32, zero := some [C.p Pd.nilp, C.nils], kn := Kn.struct [(0, 1, false), (1, 1, false)], eq := false } := by kernel_rfl
theorem ti150 : E0.ti 150 = some { size := 2, agg := true, bytes := 32, zero := some [C.p Pd.nilp, C.nils], kn := Kn.struct [(0, 1, false), (1, 1, false)], eq := false } := by kernel_rfl
theorem ti151 : E0.ti 151 = some { size := 1, agg := false, bytes := 16, zero := some [C.p Pd.nili], kn := Kn.other, eq := false } := by kernel_rfl
theorem ti152 : E0.ti 152 = some { size := 1, agg := false, bytes := 16, zero := some [C.p Pd.nili], kn := Kn.other, eq := false } := by kernel_rfl
theorem ti153 : E0.ti 153 = some { size := 1, agg := false, bytes := 0, zero := none, kn := Kn.other, eq := false } := by kernel_rfl
theorem ti154 : E0.ti 154 = some { size := 1, agg := false, bytes := 8, zero := some [C.p Pd.nilf], kn := Kn.other, eq := false } := by kernel_rfl
theorem ti155 : E0.ti 155 = some { size := 1, agg := false, bytes := 8, zero := some [C.p Pd.nilf], kn := Kn.other, eq := false } := by kernel_rfl
theorem ti156 : E0.ti 156 = some { size := 1, agg := false, bytes := 8, zero := some [C.p Pd.nilf], kn := Kn.other, eq := false } := by kernel_rfl
theorem ti157 : E0.ti 157 = some { size := 1, agg := false, bytes := 8, zero := some [C.p Pd.nilf], kn := Kn.other, eq := false } := by kernel_rfl
theorem ti158 : E0.ti 158 = some { size := 1, agg := false, bytes := 8, zero := some [C.p Pd.nilf], kn := Kn.other, eq := false } := by kernel_rfl
theorem ti159 : E0.ti 159 = some { size := 1, agg := false, bytes := 8, zero := some [C.p Pd.nilf], kn := Kn.other, eq := false } := by kernel_rfl
theorem ti160 : E0.ti 160 = some { size := 1, agg := false, bytes := 0, zero := none, kn := Kn.other, eq := false } := by kernel_rfl
theorem ti161 : E0.ti 161 = some { size := 1, agg := false, bytes := 8, zero := some [C.p Pd.nilf], kn := Kn.other, eq := false } := by kernel_rfl
theorem ti162 : E0.ti 162 = some { size := 1, agg := false, bytes := 8, zero := some [C.p Pd.nilf], kn := Kn.other, eq := false } := by kernel_rfl
theorem ti163 : E0.ti 163 = some { size := 1, agg := false, bytes := 8, zero := some [C.p Pd.nilf], kn := Kn.other, eq := false } := by kernel_rfl
theorem ti164 : E0.ti 164 = some { size := 1, agg := false, bytes := 8, zero := some [C.p Pd.nilf], kn := Kn.other, eq := false } := by kernel_rfl
theorem ti165 : E0.ti 165 = some { size := 1, agg := false, bytes := 8, zero := some [C.p Pd.nilf], kn := Kn.other, eq := false } := by kernel_rfl
theorem ti166 : E0.ti 166 = some { size := 1, agg := false, bytes := 0, zero := none, kn := Kn.other, eq := false } := by kernel_rfl
theorem ti167 : E0.ti 167 = some { size := 1, agg := false, bytes := 8, zero := some [C.p Pd.nilf], kn := Kn.other, eq := false } := by kernel_rfl
theorem ti168 : E0.ti 168 = some { size := 1, agg := false, bytes := 0, zero := none, kn := Kn.other, eq := false } := by kernel_rfl
theorem ti169 : E0.ti 169 = some { size := 1, agg := false, bytes := 8, zero := some [C.p Pd.nilf], kn := Kn.other, eq := false } := by kernel_rfl
theorem ti170 : E0.ti 170 = some { size := 1, agg := false, bytes := 8, zero := some [C.p Pd.nilf], kn := Kn.other, eq := false } := by kernel_rfl
theorem ti171 : E0.ti 171 = some { size := 1, agg := false, bytes := 8, zero := some [C.p Pd.nilf], kn := Kn.other, eq := false } := by kernel_rfl
theorem ti172 : E0.ti 172 = some { size := 1, agg := false, bytes := 8, zero := some [C.p Pd.nilf], kn := Kn.other, eq := false } := by kernel_rfl
theorem ti173 : E0.ti 173 = some { size := 1, agg := false, bytes := 8, zero := some [C.p Pd.nilf], kn := Kn.other, eq := false } := by kernel_rfl
theorem ti174 : E0.ti 174 = some { size := 1, agg := false, bytes := 8, zero := some [C.p Pd.nilf], kn := Kn.other, eq := false } := by kernel_rfl
theorem ti175 : E0.ti 175 = some { size := 1, agg := false, bytes := 8, zero := some [C.p Pd.nilp], kn := Kn.ptr, eq := false } := by kernel_rfl
theorem ti176 : E0.ti 176 = some { size := 1, agg := false, bytes := 8, zero := some [C.p Pd.nilf], kn := Kn.other, eq := false } := by kernel_rfl
theorem ti177 : E0.ti 177 = some { size := 1, agg := false, bytes := 8, zero := some [C.p Pd.nilf], kn := Kn.other, eq := false } := by kernel_rfl
theorem ti178 : E0.ti 178 = some { size := 1, agg := false, bytes := 8, zero := some [C.p Pd.nilf], kn := Kn.other, eq := false } := by kernel_rfl
theorem ti179 : E0.ti 179 = some { size := 1, agg := false, bytes := 8, zero := some [C.p Pd.nilf], kn := Kn.other, eq := false } := by kernel_rfl
theorem ti180 : E0.ti 180 = some { size := 1, agg := false, bytes := 8, zero := some [C.p Pd.nilf], kn := Kn.other, eq := false } := by kernel_rfl
theorem ti181 : E0.ti 181 = some { size := 1, agg := false, bytes := 8, zero := some [C.p Pd.nilp], kn := Kn.ptr, eq := false } := by kernel_rfl
theorem ti182 : E0.ti 182 = some { size := 3, agg := true, bytes := 32, zero := some [C.p (Pd.str []), C.p (Pd.int IntKind.i64 (0)), C.p (Pd.int IntKind.i64 (0))], kn := Kn.struct [(0, 1, false), (1, 1, false), (2, 1, false)], eq := false } := by kernel_rfl
theorem ti183 : E0.ti 183 = some { size := 3, agg := true, bytes := 32, zero := some [C.p (Pd.str []), C.p (Pd.int IntKind.i64 (0)), C.p (Pd.int IntKind.i64 (0))], kn := Kn.struct [(0, 1, false), (1, 1, false), (2, 1, false)], eq := false } := by kernel_rfl
theorem ti184 : E0.ti 184 = some { size := 1, agg := false, bytes := 8, zero := some [C.p Pd.nilf], kn := Kn.other, eq := false } := by kernel_rfl
theorem ti185 : E0.ti 185 = some { size := 1, agg := false, bytes := 8, zero := some [C.p Pd.nilf], kn := Kn.other, eq := false } := by kernel_rfl
theorem ti186 : E0.ti 186 = some { size := 1, agg := false, bytes := 8, zero := some [C.p Pd.nilf], kn := Kn.other, eq := false } := by kernel_rfl
theorem ti187 : E0.ti 187 = some { size := 1, agg := false, bytes := 8, zero := some [C.p Pd.nilf], kn := Kn.other, eq := false } := by kernel_rfl
theorem ti188 : E0.ti 188 = some { size := 1, agg := false, bytes := 8, zero := some [C.p Pd.nilf], kn := Kn.other, eq := false } := by kernel_rfl
theorem ti189 : E0.ti 189 = some { size := 1, agg := false, bytes := 0, zero := none, kn := Kn.other, eq := false } := by kernel_rfl
theorem ti190 : E0.ti 190 = some { size := 1, agg := false, bytes := 8, zero := some [C.p Pd.nilf], kn := Kn.other, eq := false } := by kernel_rfl
theorem ti191 : E0.ti 191 = some { size := 1, agg := false, bytes := 8, zero := some [C.p Pd.nilf], kn := Kn.other, eq := false } := by kernel_rfl
theorem ti192 : E0.ti 192 = some { size := 1, agg := false, bytes := 8, zero := some [C.p Pd.nilp], kn := Kn.other, eq := false } := by kernel_rfl
theorem ti193 : E0.ti 193 = some { size := 1, agg := false, bytes := 8, zero := some [C.p Pd.nilf], kn := Kn.other, eq := false } := by kernel_rfl
theorem ti194 : E0.ti 194 = some { size := 1, agg := false, bytes := 8, zero := some [C.p Pd.nilf], kn := Kn.other, eq := false } := by kernel_rfl
theorem ti195 : E0.ti 195 = some { size := 1, agg := false, bytes := 8, zero := some [C.p Pd.nilf], kn := Kn.other, eq := false } := by kernel_rfl
theorem ti196 : E0.ti 196 = some { size := 1, agg := false, bytes := 8, zero := some [C.p Pd.nilf], kn := Kn.other, eq := false } := by kernel_rfl
theorem ti197 : E0.ti 197 = some { size := 1, agg := false, bytes := 8, zero := some [C.p Pd.nilf], kn := Kn.other, eq := false } := by kernel_rfl
theorem ti198 : E0.ti 198 = some { size := 1, agg := false, bytes := 8, zero := some [C.p Pd.nilf], kn := Kn.other, eq := false } := by kernel_rfl
theorem ti199 : E0.ti 199 = some { size := 1, agg := false, bytes := 8, zero := some [C.p Pd.nilf], kn := Kn.other, eq := false } := by kernel_rfl
theorem ti200 : E0.ti 200 = some { size := 1, agg := false, bytes := 8, zero := some [C.p Pd.nilf], kn := Kn.other, eq := false } := by kernel_rfl
theorem ti201 : E0.ti 201 = some { size := 1, agg := false, bytes := 8, zero := some [C.p Pd.nilf], kn := Kn.other, eq := false } := by kernel_rfl
def vb (n : Nat) : List UInt8 := if h : n < 128 then [UInt8.ofNat n] else UInt8.ofNat (n % 128 + 128) :: vb (n / 128)
theorem vb_lt {n : Nat} (h : n < 128) : vb n = [UInt8.ofNat n] := by rw [vb, dif_pos h]
theorem vb_ge {n : Nat} (h : 128 ≤ n) : vb n = UInt8.ofNat (n % 128 + 128) :: vb (n / 128) := by rw [vb, dif_neg (by omega)]
theorem vb_len : ∀ (k : Nat) {n : Nat}, n < 128 ^ (k + 1) → (vb n).length ≤ k + 1
  | 0, n, h => by rw [vb_lt (by simpa using h)]; simp
  | k + 1, n, h => by
    rcases Nat.lt_or_ge n 128 with h1 | h1
    · rw [vb_lt h1]; simp
    · rw [vb_ge h1]
      have := vb_len k (n := n / 128) (by rw [Nat.pow_succ] at h; omega)
      simp; omega
theorem vb_len10 {n : Nat} (h : n < 2 ^ 64) : (vb n).length ≤ 10 := vb_len 9 (Nat.lt_of_lt_of_le h (by decide))
theorem wi64 (n : Int) : IntKind.i64.wrap n = (n + 9223372036854775808) % 18446744073709551616 - 9223372036854775808 := IntKind.wrap_i64 n
theorem wu8 (n : Int) : IntKind.u8.wrap n = n % 256 := by simp [IntKind.wrap, IntKind.signed, IntKind.bits]
theorem wu64 (n : Int) : IntKind.u64.wrap n = n % 18446744073709551616 := by simp [IntKind.wrap, IntKind.signed, IntKind.bits]
theorem s00_oa : OA 0 { ob := [], nx := 0 } [] [] := ⟨fun _ _ => rfl, fun _ h => (by cases h), List.Pairwise.nil, fun _ h => (by cases h), fun _ h => (by cases h), List.Pairwise.nil⟩
theorem pdb (n : Int) (h : 0 ≤ n) (h2 : n < 256) : Pd.int .u8 n = pdOfByte (UInt8.ofNat n.toNat) := by
  simp [pdOfByte]; omega
end Go.Proofs.YtafaoldmemcigaaGreat.Ab
namespace Go.Proofs.YtafaoldmemcigaaGreat.Ab
set_option maxHeartbeats 4000000
set_option linter.unusedSimpArgs false
set_option linter.unusedVariables false
set_option maxRecDepth 10000
theorem pf76 (n : Int) (h : 0 ≤ n) (h2 : n < 2^63) : Pf E0 76 [.c (.p (.int .i64 n))] (P' (.str (vb n.toNat))) := by
  refine Pf.body (fn := Tryz.f76) (by kernel_rfl) rfl ?_
  simp only [List.map_cons, List.map_nil, List.cons_append, List.nil_append, List.length_cons, List.length_nil, Tryz.ntmps76, List.replicate]
  refine Wc.seq ?_
  refine Wc.reg fun K hK => ?_; simp only [go_sem, ti3, ti113, ti9, ti5, ti111, ti77, ti4, ti35]; refine hK _ _ ?_; clear hK K
  refine Wc.seq ?_
  refine Wc.reg fun K hK => ?_; simp only [go_sem, ti3, ti113, ti9, ti5, ti111, ti77, ti4, ti35]; refine hK _ _ ?_; clear hK K
  refine Wc.seq (Wc.block ?_)
  refine Wc.loop (fun k x => ∃ (m : Int) (b : D) (i : Nat) (cs : List UInt8), k = m.toNat ∧ 0 ≤ m ∧ m < 2^63 ∧ x.ds = [] ∧ x.e.length = 22 ∧ x.e.getD 0 .junk = P' (.int .i64 m) ∧ x.e.getD 3 .junk = b ∧
    OA x.s.nx x.s [(1, b, i, cs.map pdOfByte)] [] ∧ cs ++ vb m.toNat = vb n.toNat ∧ i = cs.length) ?_ (k := n.toNat) ?_
  · rintro k ⟨e, ds, s⟩ ⟨m, b, i, cs, rfl, hm0, hm1, rfl, hlen, h0, h3, hb, hcs, hi⟩
    simp only at hlen h0 h3 hb
    have hl10 : i + (vb m.toNat).length ≤ 10 := by rw [hi, ← List.length_append, hcs]; exact vb_len10 (by omega)
    refine Wc.seq (Wc.seq ?_)
    refine Wc.reg fun K hK => ?_; simp only [go_sem, ti3, ti113, ti9, ti5, ti111, ti77, ti4, ti35, hlen, h0, h3]; refine hK _ _ ?_; clear hK K
    refine Wc.cond (t := decide (128 ≤ m)) (by simp only [go_sem, ti3, ti113, ti9, ti5, ti111, ti77, ti4, ti35, hlen, h0, h3]) (fun hc => ?_) (fun hc => ?_)
    · have hc' : 128 ≤ m := by simpa using hc
      have e1 : m.tmod 128 = m % 128 := Int.tmod_eq_emod_of_nonneg hm0
      have e2 : m.tdiv 128 = m / 128 := Int.tdiv_eq_ediv_of_nonneg hm0
      have e3 : IntKind.i64.wrap (m / 128) = m / 128 := by rw [wi64]; omega
      have e4 : IntKind.u8.wrap (IntKind.i64.wrap (m % 128 + 128)) = m % 128 + 128 := by rw [wi64, wu8]; omega
      refine Wc.skip (Wc.block (Wc.seq ?_))
      refine Wc.reg fun K hK => ?_; simp only [go_sem, ti3, ti113, ti9, ti5, ti111, ti77, ti4, ti35, hlen, h0, h3, e1, e2, e3, e4]
      refine OA.app (L1 := []) (L2 := []) (by_ := 1) (n := i) (m := 1) (ys := [.int .u8 (m % 128 + 128)]) (OA.put (hb.adv.adv) (by omega)) (by omega) ⟨_, ti111, rfl⟩ ti5 rfl rfl rfl (by decide) (by decide) (by simp only [go_sem, ti3, ti113, ti9, ti5, ti111, ti77, ti4, ti35]) rfl (by omega) fun b' s' hb' hnx => ?_
      simp only [go_sem, ti3, ti113, ti9, ti5, ti111, ti77, ti4, ti35, hlen, h0, h3, e1, e2, e3, e4]; refine hK _ _ ?_; clear hK K
      refine Wc.reg fun K hK => ?_; simp only [go_sem, ti3, ti113, ti9, ti5, ti111, ti77, ti4, ti35, hlen, h0, h3, e1, e2, e3, e4]; refine hK _ _ ?_; clear hK K
      refine ⟨(m / 128).toNat, by omega, m / 128, b', i + 1, cs ++ [UInt8.ofNat (m.toNat % 128 + 128)], rfl, by omega, by omega, rfl, by simp only [go_sem, ti3, ti113, ti9, ti5, ti111, ti77, ti4, ti35, hlen], by simp only [go_sem, ti3, ti113, ti9, ti5, ti111, ti77, ti4, ti35, hlen, h0, h3], by simp only [go_sem, ti3, ti113, ti9, ti5, ti111, ti77, ti4, ti35, hlen, h0, h3], ?_, ?_, by simp [hi]⟩
      · have := (hb'.mono (b' := s'.nx) (by rw [hnx]; simp only [St.nx_put, St.nx_adv]; omega)).adv (n := 3)
        rw [pdb _ (by omega) (by omega)] at this
        have e5 : (m % 128 + 128).toNat = m.toNat % 128 + 128 := by omega
        rw [e5] at this
        simpa [St.nx_adv] using this.mono (Nat.le_add_right _ 3)
      · rw [List.append_assoc, ← hcs, vb_ge (n := m.toNat) (by omega)]
        have : (m / 128).toNat = m.toNat / 128 := by omega
        rw [this]; rfl
    · have hc' : m < 128 := by simpa using hc
      refine Wc.exit ?_
      have e4 : IntKind.u8.wrap m = m := by rw [wu8]; omega
      refine Wc.seq ?_
      refine Wc.reg fun K hK => ?_; simp only [go_sem, ti3, ti113, ti9, ti5, ti111, ti77, ti4, ti35, hlen, h0, h3, e4]
      refine OA.app (L1 := []) (L2 := []) (by_ := 1) (n := i) (m := 1) (ys := [.int .u8 m]) (OA.put (hb.adv.adv) (by omega)) (by omega) ⟨_, ti111, rfl⟩ ti5 rfl rfl rfl (by decide) (by decide) (by simp only [go_sem, ti3, ti113, ti9, ti5, ti111, ti77, ti4, ti35]) rfl (by omega) fun b' s' hb' hnx => ?_
      have hl := (hb'.own _ (List.mem_append_right _ (List.mem_singleton.2 rfl))).listOf
      have hcs2 : List.map pdOfByte cs ++ [.int .u8 m] = (vb n.toNat).map pdOfByte := by
        rw [← hcs, vb_lt (n := m.toNat) (by omega), pdb _ hm0 (by omega)]; simp
      simp only [hcs2] at hl
      have hlen2 : (vb n.toNat).length = i + 1 := by rw [← hcs, hi, vb_lt (n := m.toNat) (by omega)]; simp
      simp only [go_sem, ti3, ti113, ti9, ti5, ti111, ti77, ti4, ti35, hlen, h0, h3, e4, hl, allM_bytes, hlen2]; refine hK _ _ ?_; clear hK K
      exact Wc.ret (Pf.ret [.tmp 2] [.c (.p (.str (vb n.toNat)))] rfl rfl (by simp only [resultsD, go_sem, ti3, ti113, ti9, ti5, ti111, ti77, ti4, ti35, hlen]) rfl)
  · exact ⟨n, _, 0, [], rfl, h, h2, rfl, rfl, rfl, rfl, ((s00_oa.adv.adv).front (es := 1) (n := 0) (cs := []) (by omega) rfl).mono (b' := 3) (by omega), rfl, rfl⟩
end Go.Proofs.YtafaoldmemcigaaGreat.Ab
namespace Go.Proofs.YtafaoldmemcigaaGreat.Ab
set_option maxHeartbeats 4000000
set_option maxRecDepth 10000
set_option linter.unusedSimpArgs false
set_option linter.unusedVariables false
def inR (n : Int) : Bool := decide (-1152921504606846976 ≤ n) && decide (n ≤ 1152921504606846976)
/-- 102: inRange -/
theorem pf102 (n : Int) : Pf E0 102 [.c (.p (.int .i64 n))] (P' (.bool (inR n))) := by
  refine Pf.body (fn := Tryz.f102) (by kernel_rfl) rfl ?_; simp only [List.map_cons, List.map_nil, List.cons_append, List.nil_append, List.length_cons, List.length_nil, Tryz.ntmps102, List.replicate, Nat.reduceSub, Nat.reduceAdd]
  refine Wc.seq ?_
  refine Wc.reg fun K hK => ?_; simp only [go_sem, ti3, ti113, ti9, ti5, ti111, ti77, ti4, ti35]; refine hK _ _ ?_; clear hK K
  refine Wc.seq ?_
  by_cases h : -1152921504606846976 ≤ n
  · refine Wc.reg fun K hK => ?_; simp only [go_sem, ti3, ti113, ti9, ti5, ti111, ti77, ti4, ti35, h]; refine hK _ _ ?_; clear hK K
    exact Wc.ret (Pf.ret [.tmp 2] [.c (.p (.bool (inR n)))] rfl rfl (by simp only [resultsD, go_sem, ti3, ti113, ti9, ti5, ti111, ti77, ti4, ti35, inR, h, Bool.true_and]) rfl)
  · refine Wc.reg fun K hK => ?_; simp only [go_sem, ti3, ti113, ti9, ti5, ti111, ti77, ti4, ti35, h]; refine hK _ _ ?_; clear hK K
    exact Wc.ret (Pf.ret [.tmp 2] [.c (.p (.bool (inR n)))] rfl rfl (by simp only [resultsD, go_sem, ti3, ti113, ti9, ti5, ti111, ti77, ti4, ti35, inR, h, Bool.false_and]) rfl)
/-- The number that a signed one is folded to. -/
def zz (n : Int) : Nat := if 0 ≤ n then (2 * n).toNat else (-2 * n - 1).toNat
/-- 103: folded -/
theorem pf103 (n : Int) (h : inR n = true) : Pf E0 103 [.c (.p (.int .i64 n))] (P' (.int .u64 (zz n))) := by
  simp only [inR, Bool.and_eq_true, decide_eq_true_eq] at h
  refine Pf.body (fn := Tryz.f103) (by kernel_rfl) rfl ?_; simp only [List.map_cons, List.map_nil, List.cons_append, List.nil_append, List.length_cons, List.length_nil, Tryz.ntmps103, List.replicate, Nat.reduceSub, Nat.reduceAdd]
  refine Wc.seq ?_
  refine Wc.reg fun K hK => ?_; simp only [go_sem, ti3, ti113, ti9, ti5, ti111, ti77, ti4, ti35]; refine hK _ _ ?_; clear hK K
  refine Wc.seq (Wc.seq ?_)
  refine Wc.reg fun K hK => ?_; simp only [go_sem, ti3, ti113, ti9, ti5, ti111, ti77, ti4, ti35]; refine hK _ _ ?_; clear hK K
  refine Wc.cond (t := decide (0 ≤ n)) rfl (fun hc => ?_) (fun hc => ?_)
  · have hc' : 0 ≤ n := by simpa using hc
    refine Wc.seq ?_
    have e1 : IntKind.u64.wrap (2 * IntKind.u64.wrap n) = (zz n : Int) := by rw [wu64, wu64, zz, if_pos hc']; omega
    refine Wc.reg fun K hK => ?_; simp only [go_sem, ti3, ti113, ti9, ti5, ti111, ti77, ti4, ti35, e1]; refine hK _ _ ?_; clear hK K
    exact Wc.ret (Pf.ret [.tmp 2] [.c (.p (.int .u64 (zz n)))] rfl rfl (by simp only [resultsD, go_sem, ti3, ti113, ti9, ti5, ti111, ti77, ti4, ti35]) rfl)
  · have hc' : ¬ 0 ≤ n := by simpa using hc
    refine Wc.skip (Wc.seq ?_)
    have e1 : IntKind.u64.wrap (IntKind.u64.wrap (2 * IntKind.u64.wrap (IntKind.i64.wrap (0 - n))) - 1) = (zz n : Int) := by rw [wu64, wu64, wu64, wi64, zz, if_neg hc']; omega
    refine Wc.reg fun K hK => ?_; simp only [go_sem, ti3, ti113, ti9, ti5, ti111, ti77, ti4, ti35, e1]; refine hK _ _ ?_; clear hK K
    exact Wc.ret (Pf.ret [.tmp 2] [.c (.p (.int .u64 (zz n)))] rfl rfl (by simp only [resultsD, go_sem, ti3, ti113, ti9, ti5, ti111, ti77, ti4, ti35]) rfl)
theorem and127 (k : Nat) (h : k < 2^64) : andI .u64 (k : Int) 127 = ((k % 128 : Nat) : Int) := by
  have : (BitVec.ofInt 64 (k : Int) &&& BitVec.ofInt 64 127).toNat = k % 128 := by
    rw [BitVec.ofInt_natCast, BitVec.toNat_and, BitVec.toNat_ofNat, Nat.mod_eq_of_lt h]
    exact Nat.and_two_pow_sub_one_eq_mod k 7
  show IntKind.u64.wrap ((BitVec.ofInt 64 (k : Int) &&& BitVec.ofInt 64 127).toNat : Int) = _
  rw [this, wu64]; omega
theorem or128' : ∀ v : Nat, v < 128 → (BitVec.ofInt 8 (v : Int) ||| BitVec.ofInt 8 128).toNat = v + 128 := by decide
theorem or128 (v : Nat) (h : v < 128) : orI .u8 (v : Int) 128 = ((v + 128 : Nat) : Int) := by
  show IntKind.u8.wrap ((BitVec.ofInt 8 (v : Int) ||| BitVec.ofInt 8 128).toNat : Int) = _
  rw [or128' v h, wu8]; omega
theorem fdiv128 (k : Nat) : shrI .u64 (k : Int) 7 = ((k / 128 : Nat) : Int) := by
  show (k : Int).fdiv (2 ^ (min (Int.toNat 7) 64)) = _
  rw [Int.fdiv_eq_ediv_of_nonneg _ (by decide)]; rfl
theorem pdbn (n : Nat) (h : n < 256) : Pd.int .u8 (n : Int) = pdOfByte (UInt8.ofNat n) := pdb n (by omega) (by omega)
/-- 61: appendGroups, in its caller's state -/
theorem call61 {bb : Nat} {s : St} {L1 L2 : List (Nat × D × Nat × List Pd)} {M : List (Nat × Ob)} {x : D} {i0 : Nat} {cs0 : List Pd} {n : Nat} {K : D → St → Prop} (h : OA bb s (L1 ++ (1, x, i0, cs0) :: L2) M) (hbb : bb ≤ s.nx) (hn : n < 2^64) (hi0 : i0 ≤ 2^46)
    (hK : ∀ x' s', OA s'.nx s' (L1 ++ (1, x', i0 + (vb n).length, cs0 ++ (vb n).map pdOfByte) :: L2) M → s.nx ≤ s'.nx → K x' s') : wpCall E0 (.v (.c (.p (.fnc 61)))) [x, .v (.c (.p (.int .u64 n)))] s K := by
  obtain ⟨c, rfl⟩ := (h.own (1, x, i0, cs0) (by simp)).v
  refine wpCall.opn (fn := Tryz.f61) (by kernel_rfl) (by kernel_rfl) rfl (by kernel_rfl) rfl ?_; simp only [List.map_cons, List.map_nil, List.cons_append, List.nil_append, List.length_cons, List.length_nil, Tryz.ntmps61, List.replicate, Nat.reduceSub, Nat.reduceAdd]
  refine Wc.seq ?_
  refine Wc.reg fun K hK => ?_; simp only [go_sem, ti3, ti113, ti9, ti5, ti111, ti77, ti4, ti35]; refine hK _ _ ?_; clear hK K
  refine Wc.seq (Wc.block ?_)
  refine Wc.loop (fun k y => ∃ (m : Nat) (b : D) (i : Nat) (cs : List UInt8), k = m ∧ m < 2^64 ∧ y.ds = [] ∧ y.e.length = 21 ∧ y.e.getD 1 .junk = P' (.int .u64 m) ∧ y.e.getD 0 .junk = b ∧
    OA y.s.nx y.s (L1 ++ (1, b, i, cs0 ++ cs.map pdOfByte) :: L2) M ∧ cs ++ vb m = vb n ∧ i = i0 + cs.length ∧ s.nx ≤ y.s.nx) ?_ (k := n) ?_
  · rintro k ⟨e, ds, s1⟩ ⟨m, b, i, cs, rfl, hm1, rfl, hlen, h1, h0, hb, hcs, hi, hnx0⟩
    simp only at hlen h0 h1 hb hnx0
    have hl10 : cs.length + (vb k).length ≤ 10 := by rw [← List.length_append, hcs]; exact vb_len10 hn
    refine Wc.seq (Wc.seq ?_)
    refine Wc.reg fun K hK => ?_; simp only [go_sem, ti3, ti113, ti9, ti5, ti111, ti77, ti4, ti35, hlen, h0, h1]; refine hK _ _ ?_; clear hK K
    refine Wc.cond (t := decide ((128 : Int) ≤ k)) (by simp only [go_sem, ti3, ti113, ti9, ti5, ti111, ti77, ti4, ti35, hlen, h0, h1]) (fun hc => ?_) (fun hc => ?_)
    · have hc' : 128 ≤ k := by have : (128 : Int) ≤ k := by simpa using hc
                               omega
      have e4 : orI .u8 (IntKind.u8.wrap (andI .u64 (k : Int) 127)) 128 = ((k % 128 + 128 : Nat) : Int) := by
        rw [and127 k hm1, wu8]
        have : ((k % 128 : Nat) : Int) % 256 = ((k % 128 : Nat) : Int) := by omega
        rw [this, or128 _ (by omega)]
      refine Wc.skip (Wc.block (Wc.seq ?_))
      refine Wc.reg fun K hK => ?_; simp only [go_sem, ti3, ti113, ti9, ti5, ti111, ti77, ti4, ti35, hlen, h0, h1, e4]
      refine OA.app (by_ := 1) (n := i) (m := 1) (ys := [.int .u8 ((k % 128 + 128 : Nat) : Int)]) (OA.put (hb.adv.adv) (by omega)) (by omega) ⟨_, ti111, rfl⟩ ti5 rfl rfl rfl (by decide) (by decide) (by simp only [go_sem, ti3, ti113, ti9, ti5, ti111, ti77, ti4, ti35, e4]) rfl (by omega) fun b' s' hb' hnx => ?_
      simp only [go_sem, ti3, ti113, ti9, ti5, ti111, ti77, ti4, ti35, hlen, h0, h1, e4]; refine hK _ _ ?_; clear hK K
      refine Wc.reg fun K hK => ?_; simp only [go_sem, ti3, ti113, ti9, ti5, ti111, ti77, ti4, ti35, hlen, h0, h1, e4, fdiv128]; refine hK _ _ ?_; clear hK K
      refine ⟨k / 128, by omega, k / 128, b', i + 1, cs ++ [UInt8.ofNat (k % 128 + 128)], rfl, by omega, rfl, by simp only [go_sem, ti3, ti113, ti9, ti5, ti111, ti77, ti4, ti35, hlen], by simp only [go_sem, ti3, ti113, ti9, ti5, ti111, ti77, ti4, ti35, hlen, h0, h1], by simp only [go_sem, ti3, ti113, ti9, ti5, ti111, ti77, ti4, ti35, hlen, h0, h1], ?_, ?_, by simp [hi]; omega, ?_⟩
      · have := (hb'.mono (b' := s'.nx) (by rw [hnx]; simp only [St.nx_put, St.nx_adv]; omega)).adv (n := 3)
        rw [pdbn _ (by omega), List.append_assoc] at this
        have := this.mono (Nat.le_add_right s'.nx 3)
        simpa only [St.nx_adv, List.map_append, List.map_cons, List.map_nil] using this
      · rw [List.append_assoc, ← hcs, vb_ge (n := k) (by omega)]; rfl
      · simp only [St.nx_adv, hnx, St.nx_put]; omega
    · have hc' : k < 128 := by have : ¬ (128 : Int) ≤ k := by simpa using hc
                               omega
      refine Wc.exit ?_
      have e4 : IntKind.u8.wrap (k : Int) = k := by rw [wu8]; omega
      refine Wc.seq ?_
      refine Wc.reg fun K hK => ?_; simp only [go_sem, ti3, ti113, ti9, ti5, ti111, ti77, ti4, ti35, hlen, h0, h1, e4]
      refine OA.app (by_ := 1) (n := i) (m := 1) (ys := [.int .u8 k]) (OA.put (hb.adv.adv) (by omega)) (by omega) ⟨_, ti111, rfl⟩ ti5 rfl rfl rfl (by decide) (by decide) (by simp only [go_sem, ti3, ti113, ti9, ti5, ti111, ti77, ti4, ti35, e4]) rfl (by omega) fun b' s' hb' hnx => ?_
      obtain ⟨c', rfl⟩ := (hb'.own (1, b', i + 1, _) (List.mem_append_right _ (List.mem_cons_self ..))).v
      simp only [go_sem, ti3, ti113, ti9, ti5, ti111, ti77, ti4, ti35, hlen, h0, h1, e4]; refine hK _ _ ?_; clear hK K
      refine Wc.ret (Op.ret [.tmp 4] [.c c'] rfl rfl (by simp only [resultsD, go_sem, ti3, ti113, ti9, ti5, ti111, ti77, ti4, ti35, hlen]) (hK _ _ ?_ ?_))
      · have hcs2 : cs0 ++ List.map pdOfByte cs ++ [.int .u8 (k : Int)] = cs0 ++ (vb n).map pdOfByte := by
          rw [← hcs, vb_lt (n := k) (by omega), pdb _ (by omega) (by omega)]; simp
        have hl2 : i + 1 = i0 + (vb n).length := by rw [← hcs, vb_lt (n := k) (by omega), hi]; simp; omega
        rw [hcs2, hl2] at hb'
        exact hb'.mono (by rw [hnx]; simp only [St.nx_put, St.nx_adv]; omega)
      · rw [hnx]; simp only [St.nx_put, St.nx_adv]; omega
  · exact ⟨n, _, i0, [], rfl, hn, rfl, rfl, rfl, rfl, by simpa using h.adv.mono (by simp only [St.nx_adv]; omega), rfl, rfl, by simp only [St.nx_adv]; omega⟩
end Go.Proofs.YtafaoldmemcigaaGreat.Ab
