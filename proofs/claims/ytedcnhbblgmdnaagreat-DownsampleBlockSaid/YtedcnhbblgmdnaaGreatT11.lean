/- A part of the proof. -/
import Derived.Shelf.Strings.Builder1
import Derived.Test.YtedcnhbblgmdnaaGreatProg
import Derived.KernelRfl
import Derived.Test.YtedcnhbblgmdnaaGreatT10
import Derived.Test.YtedcnhbblgmdnaaGreatT1
import Derived.Laws.StructEq
import Derived.DeepKeys
/- strings.Builder's copyCheck and String at this program: what the machine comes to. -/
set_option linter.unusedVariables false
namespace Go.Proofs.YtedcnhbblgmdnaaGreat
open Go.RowKit
theorem sizeB : (Tryz.prog.info? 245).map (·.size) = some 2 := by kernel_rfl
set_option maxHeartbeats 1000000 in
set_option maxRecDepth 100000 in
theorem copyCheck_used (b : Nat) (w : World) (h0 : w.cell? ⟨b, 0, none⟩ = some (.pointer (some ⟨b, 0, none⟩))) :
  Calls Tryz.prog 258 #[.pointer (some ⟨b, 0, none⟩)] w fun e w' => e = .returned (.tuple #[]) ∧ w' = w := by
 obtain ⟨j, hj, hjs⟩ := Option.map_eq_some_iff.1 sizeB
 go_enter Tryz.func258, Tryz.ntmps258
 go_wp2
 rw [Lib.run_neq_ptr_same w _ Tryz.underlying243 hj]
 go_wp2
 go_end0
 exact ⟨rfl, rfl⟩
set_option maxHeartbeats 1000000 in
set_option maxRecDepth 100000 in
theorem copyCheck_fresh (b : Nat) (w : World) (h0 : w.cell? ⟨b, 0, none⟩ = some (.pointer none)) (hsh : w.shape? b = some (245, 2)) (hfz : w.frozen? ⟨b, 0, none⟩ = false) :
  Calls Tryz.prog 258 #[.pointer (some ⟨b, 0, none⟩)] w fun e w' => e = .returned (.tuple #[]) ∧ w' = w.setCell ⟨b, 0, none⟩ (.pointer (some ⟨b, 0, none⟩)) := by
 obtain ⟨j, hj, hjs⟩ := Option.map_eq_some_iff.1 sizeB
 go_enter Tryz.func258, Tryz.ntmps258
 go_wp2
 rw [Lib.run_to_unsafe w ⟨b, 0, none⟩ Tryz.underlying243 Tryz.underlying288 hj (by rw [hjs]; decide) hsh (Nat.zero_lt_succ 1)]
 simp only [Result.andThen]
 rw [Oper.upon_value]
 go_wp2
 rw [run_callFunc_extern Tryz.func280 (by kernel_rfl) (by kernel_rfl) (by kernel_rfl) (e := Extern.AbiNoEscape.same) (by kernel_rfl)]
 rw [Lib.run_noEscape]
 simp only [Result.andThen]
 rw [Oper.upon_value]
 go_wp2
 rw [Lib.run_from_unsafe w ⟨b, 0, none⟩ Tryz.underlying288 Tryz.underlying243 hj hsh (by kernel_rfl)]
 simp only [Result.andThen]
 rw [Oper.upon_value]
 go_wp2
 go_end0
 exact ⟨rfl, rfl⟩
set_option maxHeartbeats 2000000 in
set_option maxRecDepth 100000 in
theorem string_some (b g cap : Nat) (p : Value) (cur : Array Value) (fz : Nat × Nat) (l : List UInt8) (w : World) (h0 : l ≠ []) (hbk : w.heap[b]? = some (.cells #[p, .slice (some ⟨g, 0, none⟩) l.length cap] 245 (0, 0)))
  (hg : w.heap[g]? = some (.cells cur 5 fz)) (hnc : l.length ≤ cap) (hcs : cur.size = cap) (hcm : l.length ≤ 9223372036854775807) (hcell : ∀ (j : Nat) x, l[j]? = some x → cur[j]? = some (.int .u8 x.toNat)) :
  Calls Tryz.prog 230 #[.pointer (some ⟨b, 0, none⟩)] w fun e w' => e = .returned (.string ⟨l.toArray⟩) ∧ w' = w.drew.freeze ⟨g, 0, none⟩ l.length := by
 have hl0 : l.length ≠ 0 := by simpa using h0
 have c1 : w.drew.cell? ⟨b, 1, none⟩ = some (.slice (some ⟨g, 0, none⟩) l.length cap) := by
  have : w.drew.heap[b]? = some (.cells #[p, .slice (some ⟨g, 0, none⟩) l.length cap] 245 (0, 0)) := hbk
  rw [Lib.cell_of_heap this]; rfl
 have hSD : (Builtin.unsafeSliceData_ #[214] 275 #[.slice (some ⟨g, 0, none⟩) l.length cap]).run Tryz.prog w.drew = .ok (.pointer (some ⟨g, 0, none⟩)) w.drew :=
  Lib.run_unsafeSliceData_row _ _ _ _ _ _ (by omega)
 have hUS : (Builtin.unsafeString_ #[275, 3] 9 #[.pointer (some ⟨g, 0, none⟩), .int .i64 l.length]).run Tryz.prog w.drew = .ok (.string ⟨l.toArray⟩) (w.drew.freeze ⟨g, 0, none⟩ l.length) := by
  have hg' : w.drew.heap[g]? = some (.cells cur 5 fz) := hg
  refine Lib.run_unsafeString_row w.drew 275 3 9 5 Tryz.underlying275 (by kernel_rfl) g cur.size (by simp [World.shape?, hg']) l h0 (by omega) (by omega) ?_
  intro j x hx
  have h := hcell j x hx
  rw [show (⟨g, 0, none⟩ : Addr).add j = ⟨g, j, none⟩ by unfold Addr.add; split <;> simp_all, Lib.cell_of_heap hg']
  exact h
 have mixed : Tryz.prog.follows .mixedOrders = true := by kernel_rfl
 go_enter Tryz.func230, Tryz.ntmps230
 go_wp2
 go_region_o
 all_goals (go_wp2; go_ret; exact ⟨rfl, rfl⟩)
set_option maxHeartbeats 2000000 in
set_option maxRecDepth 100000 in
theorem string_none (b : Nat) (p : Value) (w : World) (hbk : w.heap[b]? = some (.cells #[p, .slice none 0 0] 245 (0, 0))) :
  Calls Tryz.prog 230 #[.pointer (some ⟨b, 0, none⟩)] w fun e w' => e = .returned (.string ⟨#[]⟩) ∧ w' = w.drew := by
 have hUS : ∀ (W : World) (q : Option Addr), (Builtin.unsafeString_ #[275, 3] 9 #[.pointer q, .int .i64 0]).run Tryz.prog W = .ok (.string .empty) W := fun W q => Lib.run_unsafeString_none W _ _ _ q
 have c1 : w.drew.cell? ⟨b, 1, none⟩ = some (.slice none 0 0) := by
  have : w.drew.heap[b]? = some (.cells #[p, .slice none 0 0] 245 (0, 0)) := hbk
  rw [Lib.cell_of_heap this]; rfl
 have hSD : (Builtin.unsafeSliceData_ #[214] 275 #[.slice none 0 0]).run Tryz.prog w.drew = .ok (.pointer none) w.drew := rfl
 have mixed : Tryz.prog.follows .mixedOrders = true := by kernel_rfl
 go_enter Tryz.func230, Tryz.ntmps230
 go_wp2
 go_region_o
 all_goals (go_wp2; go_ret; exact ⟨rfl, rfl⟩)
end Go.Proofs.YtedcnhbblgmdnaaGreat
/- strings.Builder's copyCheck and String: what is told of them in the evaluator is the machine's. -/
namespace Go.Proofs.YtedcnhbblgmdnaaGreat.Ab
open Go.RowKit
set_option linter.unusedVariables false
set_option maxHeartbeats 1000000
variable {X : Ctx} {G G' : Gh} {s s' : St} {W W' : World}
theorem relCL_two {x y : C} {arr : Array Value} (h : relCL G s W [x, y] arr.toList) : ∃ u v, arr = #[u, v] ∧ relC G s W x u ∧ relC G s W y v := by
 obtain ⟨u, t, h1, h2, v, t2, h3, h4, h5⟩ := h
 subst h3
 simp only [relCL] at h5
 subst h5
 exact ⟨u, v, by rw [← Array.toArray_toList (xs := arr), h1], h2, h4⟩
theorem relVL_one {x : V} {arr : Array Value} (h : relVL G s W [x] arr.toList) : ∃ u, arr = #[u] ∧ relV G s W x u := by
 obtain ⟨u, t, h1, h2, h3⟩ := h
 simp only [relVL] at h3
 subst h3
 exact ⟨u, by rw [← Array.toArray_toList (xs := arr), h1], h2⟩
theorem freeze_heap (w : World) (g n b : Nat) : (w.freeze ⟨g, 0, none⟩ n).heap[b]? = if b = g ∧ n ≠ 0 then (w.heap[b]?).map fun
   | .cells c elem (lo, hi) => .cells c elem (if lo == hi then (0, 0 + n) else (min lo 0, max hi (0 + n)))
   | o => o
  else w.heap[b]? := by
 unfold World.freeze
 by_cases h0 : n = 0
 ·simp [h0]
 ·rw [if_neg h0]
  simp only [Array.getElem?_modify]
  by_cases hb : g = b
  ·subst hb; rw [if_pos rfl, if_pos ⟨rfl, h0⟩]; cases w.heap[g]? with
   | none => rfl
   | some o => cases o <;> rfl
  ·rw [if_neg hb, if_neg (fun h => hb h.1.symm)]
theorem freeze_ok (hI : Inv X G s W) {id n t : Nat} (hid : s.get id = some (.front 1 n t)) (ht : t ≠ 0) : Inv X G s (W.freeze ⟨G.blk id, 0, none⟩ n) ∧ Ext G s W G s (W.freeze ⟨G.blk id, 0, none⟩ n) := by
 obtain ⟨hB, arr, e, fz, hg, hsz, hn, him, hfz, htg⟩ := hI.ob id _ hid
 have htg' := htg.resolve_left ht
 have hnew : ∃ fz', (W.freeze ⟨G.blk id, 0, none⟩ n).heap[G.blk id]? = some (.cells arr e fz') ∧ fz'.2 ≤ n := by
  rw [freeze_heap]
  obtain ⟨lo, hi⟩ := fz
  by_cases h0 : n = 0
  ·rw [if_neg (by simp [h0])]; exact ⟨_, hg, by have := htg'.2; simp at this ⊢; omega⟩
  ·rw [if_pos ⟨rfl, h0⟩, hg]
   refine ⟨_, rfl, ?_⟩
   have := htg'.2
   simp only [Nat.mul_one] at this
   split
   ·simp
   ·simp only [Nat.zero_add]; omega
 obtain ⟨fz', hg', hf'⟩ := hnew
 have hoth : ∀ b, b ≠ G.blk id → (W.freeze ⟨G.blk id, 0, none⟩ n).heap[b]? = W.heap[b]? := fun b hb => by
  rw [freeze_heap, if_neg (fun h => hb h.1)]
 have hcell : ∀ b o, (W.freeze ⟨G.blk id, 0, none⟩ n).cell? ⟨b, o, none⟩ = W.cell? ⟨b, o, none⟩ := fun b o => by
  by_cases hb : b = G.blk id
  ·subst hb
   rw [Lib.cell_of_heap hg', Lib.cell_of_heap hg]
  ·exact World.cell?_of_block (w := W) (hoth b hb)
 have hbel : Below X.B W (W.freeze ⟨G.blk id, 0, none⟩ n) := Lib.below_freeze (Below.refl X.B W) (p := ⟨G.blk id, 0, none⟩) hB n
 have hext : Ext G s W G s (W.freeze ⟨G.blk id, 0, none⟩ n) := ⟨fun b o hi => ⟨hi, hcell b o⟩, Nat.le_refl _, fun _ h => h, fun k es m' tg' _ h => ⟨m', tg', h, Nat.le_refl _, fun _ => ⟨rfl, rfl⟩⟩, fun _ h => ⟨h, rfl⟩, fun k es m' cs' fz' _ h => ⟨m', cs', fz', h, Nat.le_refl _, fun _ => ⟨rfl, rfl⟩⟩⟩
 refine ⟨⟨hI.below.trans hbel, Nat.le_trans hI.bsz hbel.size, fun b o h => Nat.lt_of_lt_of_le (hI.immlt b o h) hbel.size, hI.immnew, hI.lt, fun k o h => ?_, hI.inj⟩, hext⟩
 by_cases hk : k = id
 ·subst hk
  rw [hid] at h
  cases h
  exact ⟨hB, arr, e, fz', hg', hsz, hn, him, .inl (by omega), .inr ⟨htg'.1, by omega⟩⟩
 ·by_cases hl : o.live
  ·exact relOb_keep hext rfl rfl (hoth _ fun e => hk (hI.inj k id o _ h hid hl trivial e)) (fun _ h => h) (hI.ob k o h)
  ·exact relOb_dead hl
theorem bldK_ok : XtOK Tryz.prog 258 bldK where
 free args s d s' h := by
  unfold bldK at h
  split at h
  ·split at h
   ·rename_i hg
    split at h
    ·cases h
     refine ⟨Nat.le_refl _, fun k hk hn => ?_⟩
     rw [St.get_put, if_neg]; exact hn
     rintro rfl
     rw [hg] at hn; cases hn
    ·cases h
   ·split at h
    ·cases h; exact ⟨Nat.le_refl _, fun k _ hn => hn⟩
    ·cases h
   ·cases h
  ·cases h
 calls args s d s' X G W vargs hI ha h := by
  refine ⟨fun W => enters_of Tryz.func258 (by kernel_rfl) rfl _ _, ?_⟩
  rw [FW_none]
  refine callsIn_wide.2 ?_
  unfold bldK at h
  split at h
  ·rename_i r off
   obtain ⟨va, rfl, hva⟩ := relVL_one ha
   obtain ⟨_, rfl⟩ := hva
   split at h
   ·rename_i t b hg
    split at h
    ·rename_i hc
     obtain ⟨rfl, rfl⟩ := hc
     cases h
     obtain ⟨hB, arr, hh, hrel, him⟩ := hI.ob r _ hg
     obtain ⟨u, v, rfl, hu, hv⟩ := relCL_two hrel
     have hu' : u = .pointer none := hu
     subst hu'
     have hcell : W.cell? ⟨G.blk r, 0, none⟩ = some (.pointer none) := by rw [Lib.cell_of_heap hh]; rfl
     have hfro : W.frozen? ⟨G.blk r, 0, none⟩ = false := by simp [World.frozen?, hh]
     refine (copyCheck_fresh (G.blk r) W hcell (by simp [World.shape?, hh]) hfro).mono ?_
     rintro e w' ⟨rfl, rfl⟩
     obtain ⟨W', h1, h2, h3⟩ := store_tc (P := Tryz.prog) hI hg (off := 0) (xs := [.ref r 0]) (ws := [.pointer (some ⟨G.blk r, 0, none⟩)]) ⟨_, _, rfl, ⟨⟨_, hg, rfl⟩, rfl⟩, rfl⟩ (by simp)
     have hadd : (⟨G.blk r, 0, none⟩ : Addr).add 0 = ⟨G.blk r, 0, none⟩ := by unfold Addr.add; split <;> simp_all
     have hst : (store ((⟨G.blk r, 0, none⟩ : Addr).add 0) (.pointer (some ⟨G.blk r, 0, none⟩))).run Tryz.prog W = .ok () (W.setCell ⟨G.blk r, 0, none⟩ (.pointer (some ⟨G.blk r, 0, none⟩))) := by
      rw [hadd, run_store Tryz.prog W _ _ _ rfl, hcell]
      simp [hfro]
     simp only [storeCells, Sem.run_bind, hst, Result.andThen_ok, Sem.run_pure, Result.ok.injEq, true_and] at h1
     subst h1
     exact ⟨_, G, rfl, h2, h3, ⟨#[], rfl, rfl⟩⟩
    ·cases h
   ·rename_i t r' o' b hg
    split at h
    ·rename_i hc
     obtain ⟨rfl, rfl, rfl, rfl⟩ := hc
     cases h
     obtain ⟨hB, arr, hh, hrel, him⟩ := hI.ob _ _ hg
     obtain ⟨u, v, rfl, hu, hv⟩ := relCL_two hrel
     obtain ⟨_, rfl⟩ := hu
     have hcell : W.cell? ⟨G.blk r', 0, none⟩ = some (.pointer (some ⟨G.blk r', 0, none⟩)) := by rw [Lib.cell_of_heap hh]; rfl
     refine (copyCheck_used (G.blk r') W hcell).mono ?_
     rintro e w' ⟨rfl, rfl⟩
     exact ⟨_, G, rfl, hI, Ext.refl _ _ _, ⟨#[], rfl, rfl⟩⟩
    ·cases h
   ·cases h
  ·cases h
theorem bldS_ok : XtOK Tryz.prog 230 bldS where
 free args s d s' h := by
  unfold bldS at h
  repeat' split at h
  all_goals first
   | (cases h; done)
   | (cases h; exact ⟨Nat.le_refl _, fun k _ hn => hn⟩)
 calls args s d s' X G W vargs hI ha h := by
  refine ⟨fun W => enters_of Tryz.func230 (by kernel_rfl) rfl _ _, ?_⟩
  rw [FW_none]
  refine callsIn_wide.2 ?_
  unfold bldS at h
  split at h
  ·rename_i r off
   obtain ⟨va, rfl, hva⟩ := relVL_one ha
   obtain ⟨_, rfl⟩ := hva
   split at h
   ·rename_i t p hg
    split at h
    ·rename_i hc
     obtain ⟨rfl, rfl⟩ := hc
     cases h
     obtain ⟨hB, arr, hh, hrel, him⟩ := hI.ob r _ hg
     obtain ⟨u, v, rfl, hu, hv⟩ := relCL_two hrel
     obtain rfl : v = .slice none 0 0 := hv
     refine (string_none (G.blk r) u W hh).mono ?_
     rintro e w' ⟨rfl, rfl⟩
     exact ⟨_, G, rfl, hI.drew, Ext.drew _ _ _, ⟨⟨#[]⟩, rfl, rfl⟩⟩
    ·cases h
   ·rename_i t p n b id hg
    split at h
    ·rename_i es m u l hid hb
     split at h
     ·rename_i hc
      obtain ⟨rfl, rfl, rfl, rfl, rfl, hl, hn, hn2⟩ := hc
      cases h
      obtain rfl := allM_byteS hb
      obtain ⟨hB, arr, hh, hrel, him⟩ := hI.ob r _ hg
      obtain ⟨u, v, rfl, hu, hp, hhas, hown⟩ := relCL_two hrel
      obtain ⟨_, hv⟩ := hown _ _ _ hid
      obtain rfl := hv rfl
      subst hl
      have hl0 : l ≠ [] := fun e => by rw [e] at hn; simp at hn
      obtain ⟨a, c, hac, hnc, hcs⟩ := slice_elems (G := G) (s := s) hp
      cases hac
      obtain ⟨b, o, hbo, hr⟩ := hcs (by simpa using hl0)
      cases hbo
      obtain ⟨hB2, cur, e5, fz, hcur, hsz, hcap, him2, hfz, htg⟩ := hI.ob _ _ hid
      obtain ⟨rfl, _⟩ := htg.resolve_left (by decide)
      refine (string_some (G.blk r) (G.blk id) (G.cap id) u cur fz l W hl0 hh hcur hcap (by omega) (by omega) fun j x hx => ?_).mono ?_
      ·obtain ⟨w, h1, _, h2⟩ := relCs_get hr j (pdOfByte x) (by simp [hx])
       rw [Nat.zero_add, Lib.cell_of_heap hcur] at h1
       rw [h1]
       exact congrArg some h2
      ·rintro e w' ⟨rfl, rfl⟩
       obtain ⟨i1, e1⟩ := freeze_ok hI.drew hid (by decide)
       exact ⟨_, G, rfl, i1, (Ext.drew _ _ _).trans e1, ⟨_, rfl, by simp⟩⟩
     ·cases h
    ·cases h
   ·cases h
  ·cases h
end Go.Proofs.YtedcnhbblgmdnaaGreat.Ab
/- '==' at the structs of this program that are compared. -/
set_option linter.unusedVariables false
set_option linter.unusedSimpArgs false
namespace Go.Proofs.YtedcnhbblgmdnaaGreat.Ab
open Go.RowKit
set_option maxHeartbeats 4000000
theorem eqVs_nil {l : List Value} {b : Bool} (h : eqVs [] l = some b) : l = [] ∧ b = true := by
 cases l with
 | nil => simp only [eqVs, Option.some.injEq] at h; exact ⟨rfl, h.symm⟩
 | cons => simp [eqVs] at h
theorem eqVs_int {k : IntKind} {a : Int} {r l : List Value} {b : Bool} (h : eqVs (.int k a :: r) l = some b) : ∃ n t c, l = .int k n :: t ∧ eqVs r t = some c ∧ b = ((a == n) && c) := by
 cases l with
 | nil => simp [eqVs] at h
 | cons y t =>
  simp only [eqVs] at h
  cases y <;> simp only [eqV1, reduceCtorEq] at h
  rename_i k' n
  by_cases hk : k = k'
  ·subst hk
   rw [if_pos rfl] at h
   simp only at h
   split at h
   ·cases h
   ·rename_i c hc
    cases h
    exact ⟨n, t, c, rfl, hc, rfl⟩
  ·rw [if_neg hk] at h; cases h
theorem eqVs_str {a : ByteArray} {r l : List Value} {b : Bool} (h : eqVs (.string a :: r) l = some b) : ∃ n t c, l = .string n :: t ∧ eqVs r t = some c ∧ b = ((a.data.toList == n.data.toList) && c) := by
 cases l with
 | nil => simp [eqVs] at h
 | cons y t =>
  simp only [eqVs] at h
  cases y <;> simp only [eqV1, reduceCtorEq] at h
  split at h
  ·cases h
  ·rename_i c hc
   cases h
   exact ⟨_, t, c, rfl, hc, rfl⟩
theorem ifeq {a b : Int} {r : Result Bool} {c : Bool} {W : World} (h : r = .ok c W) : (if a = b then r else .ok false W) = .ok (a == b && c) W := by
 subst h
 by_cases e : a = b <;> simp [e]
theorem eq39 : EqOK Tryz.prog 39 := by
 intro W zv xs ys b b0 hz h0 h
 rw [Tryz.zeroValue39] at hz
 cases hz
 obtain ⟨xl⟩ := xs
 obtain ⟨yl⟩ := ys
 obtain ⟨x0, t0, c0, e0, g0, _⟩ := eqVs_int h0
 obtain ⟨x1, t1, c1, e1, g1, _⟩ := eqVs_int g0
 obtain ⟨e2, _⟩ := eqVs_nil g1
 subst e2; subst e1; simp only at e0; subst e0
 clear g0 g1 h0
 obtain ⟨y0, t0, c0, e0, g0, b1⟩ := eqVs_int h
 obtain ⟨y1, t1, c1, e1, g1, b2⟩ := eqVs_int g0
 obtain ⟨e2, b3⟩ := eqVs_nil g1
 subst e2; subst e1; simp only at e0; subst e0
 subst b3; subst b2; subst b1
 clear g0 g1 h
 refine ⟨fun op x y => run_eqGuard_agg W op 39 x y _ _ (by kernel_rfl), ?_⟩
 show (Op.equalIn 10000 39 _ _).run Tryz.prog W = _
 rw [run_equalIn_agg W 9999 39 _ _ (by kernel_rfl) (by kernel_rfl)]
 simp only [Program.fieldsOf, Tryz.underlying39]
 simp [go_sem]
 by_cases h1 : x0 = y0 <;> by_cases h2 : x1 = y1 <;> simp [h1, h2]
theorem eq205 : EqOK Tryz.prog 205 := by
 intro W zv xs ys b b0 hz h0 h
 rw [Tryz.zeroValue205] at hz
 cases hz
 obtain ⟨xl⟩ := xs
 obtain ⟨yl⟩ := ys
 obtain ⟨x0, t0, c0, e0, g0, _⟩ := eqVs_int h0
 obtain ⟨x1, t1, c1, e1, g1, _⟩ := eqVs_int g0
 obtain ⟨e2, _⟩ := eqVs_nil g1
 subst e2; subst e1; simp only at e0; subst e0
 clear g0 g1 h0
 obtain ⟨y0, t0, c0, e0, g0, b1⟩ := eqVs_int h
 obtain ⟨y1, t1, c1, e1, g1, b2⟩ := eqVs_int g0
 obtain ⟨e2, b3⟩ := eqVs_nil g1
 subst e2; subst e1; simp only at e0; subst e0
 subst b3; subst b2; subst b1
 clear g0 g1 h
 refine ⟨fun op x y => run_eqGuard_agg W op 205 x y _ _ (by kernel_rfl), ?_⟩
 show (Op.equalIn 10000 205 _ _).run Tryz.prog W = _
 rw [run_equalIn_agg W 9999 205 _ _ (by kernel_rfl) (by kernel_rfl)]
 simp only [Program.fieldsOf, Tryz.underlying205]
 simp [go_sem]
 by_cases h1 : x0 = y0 <;> by_cases h2 : x1 = y1 <;> simp [h1, h2]
theorem eq117 : EqOK Tryz.prog 117 := by
 intro W zv xs ys b b0 hz h0 h
 rw [Tryz.zeroValue117] at hz
 cases hz
 obtain ⟨xl⟩ := xs
 obtain ⟨yl⟩ := ys
 obtain ⟨x0, t0, c0, e0, g0, _⟩ := eqVs_str h0
 obtain ⟨x1, t1, c1, e1, g1, _⟩ := eqVs_str g0
 obtain ⟨e2, _⟩ := eqVs_nil g1
 subst e2; subst e1; simp only at e0; subst e0
 clear g0 g1 h0
 obtain ⟨y0, t0, c0, e0, g0, b1⟩ := eqVs_str h
 obtain ⟨y1, t1, c1, e1, g1, b2⟩ := eqVs_str g0
 obtain ⟨e2, b3⟩ := eqVs_nil g1
 subst e2; subst e1; simp only at e0; subst e0
 subst b3; subst b2; subst b1
 clear g0 g1 h
 refine ⟨fun op x y => run_eqGuard_agg W op 117 x y _ _ (by kernel_rfl), ?_⟩
 show (Op.equalIn 10000 117 _ _).run Tryz.prog W = _
 rw [run_equalIn_agg W 9999 117 _ _ (by kernel_rfl) (by kernel_rfl)]
 simp only [Program.fieldsOf, Tryz.underlying117]
 simp [go_sem]
 simp only [bytes_toList, Array.toList_inj]
 by_cases h1 : x0.data = y0.data <;> by_cases h2 : x1.data = y1.data <;> simp [h1, h2]
theorem eq94 : EqOK Tryz.prog 94 := by
 intro W zv xs ys b b0 hz h0 h
 rw [Tryz.zeroValue94] at hz
 cases hz
 obtain ⟨xl⟩ := xs
 obtain ⟨yl⟩ := ys
 obtain ⟨x0, t0, c0, e0, g0, _⟩ := eqVs_int h0
 obtain ⟨x1, t1, c1, e1, g1, _⟩ := eqVs_int g0
 obtain ⟨x2, t2, c2, e2, g2, _⟩ := eqVs_int g1
 obtain ⟨x3, t3, c3, e3, g3, _⟩ := eqVs_int g2
 obtain ⟨x4, t4, c4, e4, g4, _⟩ := eqVs_int g3
 obtain ⟨x5, t5, c5, e5, g5, _⟩ := eqVs_int g4
 obtain ⟨x6, t6, c6, e6, g6, _⟩ := eqVs_int g5
 obtain ⟨x7, t7, c7, e7, g7, _⟩ := eqVs_int g6
 obtain ⟨x8, t8, c8, e8, g8, _⟩ := eqVs_int g7
 obtain ⟨x9, t9, c9, e9, g9, _⟩ := eqVs_int g8
 obtain ⟨x10, t10, c10, e10, g10, _⟩ := eqVs_int g9
 obtain ⟨x11, t11, c11, e11, g11, _⟩ := eqVs_int g10
 obtain ⟨x12, t12, c12, e12, g12, _⟩ := eqVs_int g11
 obtain ⟨e13, _⟩ := eqVs_nil g12
 subst e13; subst e12; subst e11; subst e10; subst e9; subst e8; subst e7; subst e6; subst e5; subst e4; subst e3; subst e2; subst e1; simp only at e0; subst e0
 clear g0 g1 g2 g3 g4 g5 g6 g7 g8 g9 g10 g11 g12 h0
 obtain ⟨y0, t0, c0, e0, g0, b1⟩ := eqVs_int h
 obtain ⟨y1, t1, c1, e1, g1, b2⟩ := eqVs_int g0
 obtain ⟨y2, t2, c2, e2, g2, b3⟩ := eqVs_int g1
 obtain ⟨y3, t3, c3, e3, g3, b4⟩ := eqVs_int g2
 obtain ⟨y4, t4, c4, e4, g4, b5⟩ := eqVs_int g3
 obtain ⟨y5, t5, c5, e5, g5, b6⟩ := eqVs_int g4
 obtain ⟨y6, t6, c6, e6, g6, b7⟩ := eqVs_int g5
 obtain ⟨y7, t7, c7, e7, g7, b8⟩ := eqVs_int g6
 obtain ⟨y8, t8, c8, e8, g8, b9⟩ := eqVs_int g7
 obtain ⟨y9, t9, c9, e9, g9, b10⟩ := eqVs_int g8
 obtain ⟨y10, t10, c10, e10, g10, b11⟩ := eqVs_int g9
 obtain ⟨y11, t11, c11, e11, g11, b12⟩ := eqVs_int g10
 obtain ⟨y12, t12, c12, e12, g12, b13⟩ := eqVs_int g11
 obtain ⟨e13, b14⟩ := eqVs_nil g12
 subst e13; subst e12; subst e11; subst e10; subst e9; subst e8; subst e7; subst e6; subst e5; subst e4; subst e3; subst e2; subst e1; simp only at e0; subst e0
 subst b14; subst b13; subst b12; subst b11; subst b10; subst b9; subst b8; subst b7; subst b6; subst b5; subst b4; subst b3; subst b2; subst b1
 clear g0 g1 g2 g3 g4 g5 g6 g7 g8 g9 g10 g11 g12 h
 refine ⟨fun op x y => run_eqGuard_agg W op 94 x y _ _ (by kernel_rfl), ?_⟩
 show (Op.equalIn 10000 94 _ _).run Tryz.prog W = _
 rw [run_equalIn_agg W 9999 94 _ _ (by kernel_rfl) (by kernel_rfl)]
 simp only [Program.fieldsOf, Tryz.underlying94]
 obtain ⟨j, hj⟩ : ∃ j, Tryz.prog.info? 91 = some j := Option.isSome_iff_exists.1 (by kernel_rfl)
 have hc : Tryz.prog.cellsOf 91 = 1 := by kernel_rfl
 simp [go_sem]
 rw [run_equalIn_array W 9998 _ _ Tryz.underlying92 hj]
 simp [Op.eqItems, hc, List.range, List.range.loop, go_sem]
 iterate 12 refine ifeq ?_
 by_cases h : x12 = y12 <;> simp [h]
theorem eq41 : EqOK Tryz.prog 41 := by
 intro W zv xs ys b b0 hz h0 h
 rw [Tryz.zeroValue41] at hz
 cases hz
 obtain ⟨xl⟩ := xs
 obtain ⟨yl⟩ := ys
 obtain ⟨x0, t0, c0, e0, g0, _⟩ := eqVs_int h0
 obtain ⟨x1, t1, c1, e1, g1, _⟩ := eqVs_int g0
 obtain ⟨x2, t2, c2, e2, g2, _⟩ := eqVs_int g1
 obtain ⟨x3, t3, c3, e3, g3, _⟩ := eqVs_int g2
 obtain ⟨x4, t4, c4, e4, g4, _⟩ := eqVs_int g3
 obtain ⟨x5, t5, c5, e5, g5, _⟩ := eqVs_int g4
 obtain ⟨x6, t6, c6, e6, g6, _⟩ := eqVs_int g5
 obtain ⟨x7, t7, c7, e7, g7, _⟩ := eqVs_int g6
 obtain ⟨x8, t8, c8, e8, g8, _⟩ := eqVs_int g7
 obtain ⟨x9, t9, c9, e9, g9, _⟩ := eqVs_int g8
 obtain ⟨e10, _⟩ := eqVs_nil g9
 subst e10; subst e9; subst e8; subst e7; subst e6; subst e5; subst e4; subst e3; subst e2; subst e1; simp only at e0; subst e0
 clear g0 g1 g2 g3 g4 g5 g6 g7 g8 g9 h0
 obtain ⟨y0, t0, c0, e0, g0, b1⟩ := eqVs_int h
 obtain ⟨y1, t1, c1, e1, g1, b2⟩ := eqVs_int g0
 obtain ⟨y2, t2, c2, e2, g2, b3⟩ := eqVs_int g1
 obtain ⟨y3, t3, c3, e3, g3, b4⟩ := eqVs_int g2
 obtain ⟨y4, t4, c4, e4, g4, b5⟩ := eqVs_int g3
 obtain ⟨y5, t5, c5, e5, g5, b6⟩ := eqVs_int g4
 obtain ⟨y6, t6, c6, e6, g6, b7⟩ := eqVs_int g5
 obtain ⟨y7, t7, c7, e7, g7, b8⟩ := eqVs_int g6
 obtain ⟨y8, t8, c8, e8, g8, b9⟩ := eqVs_int g7
 obtain ⟨y9, t9, c9, e9, g9, b10⟩ := eqVs_int g8
 obtain ⟨e10, b11⟩ := eqVs_nil g9
 subst e10; subst e9; subst e8; subst e7; subst e6; subst e5; subst e4; subst e3; subst e2; subst e1; simp only at e0; subst e0
 subst b11; subst b10; subst b9; subst b8; subst b7; subst b6; subst b5; subst b4; subst b3; subst b2; subst b1
 clear g0 g1 g2 g3 g4 g5 g6 g7 g8 g9 h
 refine ⟨fun op x y => run_eqGuard_agg W op 41 x y _ _ (by kernel_rfl), ?_⟩
 show (Op.equalIn 10000 41 _ _).run Tryz.prog W = _
 rw [run_equalIn_agg W 9999 41 _ _ (by kernel_rfl) (by kernel_rfl)]
 simp only [Program.fieldsOf, Tryz.underlying41]
 simp [go_sem]
 iterate 9 refine ifeq ?_
 by_cases h : x9 = y9 <;> simp [h]
end Go.Proofs.YtedcnhbblgmdnaaGreat.Ab
