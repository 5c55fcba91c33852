/- strings.Builder's copyCheck and String: what is told of them in the evaluator is the machine's. -/
import Derived.Test.YtafaoldmemcigaaGreatT12
import Derived.Test.YtafaoldmemcigaaGreatT10
import Derived.Test.YtafaoldmemcigaaGreatT9
import Derived.Test.YtafaoldmemcigaaGreatT8
import Derived.Test.YtafaoldmemcigaaGreatT25
import Derived.Test.YtafaoldmemcigaaGreatRows
import Derived.Test.YtafaoldmemcigaaGreatT29
import Derived.WalkKit
import Derived.ProofKit
import Derived.OpenShut
import Derived.ShutString
import Derived.ChangeOld
import Derived.Below
import Derived.Carry
import Derived.SizedLaws
namespace Go.Proofs.YtafaoldmemcigaaGreat.Ab
open Go.RowKit
set_option linter.unusedVariables false
set_option maxHeartbeats 1000000
variable {X : Ctx} {G G' : Gh} {s s' : St} {W W' : World}
theorem relCL_two {x y : C} {arr : Array Value} (h : relCL G s W [x, y] arr.toList) : ∃ u v, arr = #[u, v] ∧ relC G s W x u ∧ relC G s W y v := by
  obtain ⟨u, t, h1, h2, v, t2, h3, h4, h5⟩ := h
  subst h3
  simp only [relCL] at h5
  subst h5
  exact ⟨u, v, by rw [← Array.toArray_toList (xs := arr), h1], h2, h4⟩
theorem relVL_one {x : V} {arr : Array Value} (h : relVL G s W [x] arr.toList) : ∃ u, arr = #[u] ∧ relV G s W x u := by
  obtain ⟨u, t, h1, h2, h3⟩ := h
  simp only [relVL] at h3
  subst h3
  exact ⟨u, by rw [← Array.toArray_toList (xs := arr), h1], h2⟩
theorem freeze_heap (w : World) (g n b : Nat) : (w.freeze ⟨g, 0, none⟩ n).heap[b]? = if b = g ∧ n ≠ 0 then (w.heap[b]?).map fun
      | .cells c elem (lo, hi) => .cells c elem (if lo == hi then (0, 0 + n) else (min lo 0, max hi (0 + n)))
      | o => o
    else w.heap[b]? := by
  unfold World.freeze
  by_cases h0 : n = 0
  · simp [h0]
  · rw [if_neg h0]
    simp only [Array.getElem?_modify]
    by_cases hb : g = b
    · subst hb; rw [if_pos rfl, if_pos ⟨rfl, h0⟩]; cases w.heap[g]? with
      | none => rfl
      | some o => cases o <;> rfl
    · rw [if_neg hb, if_neg (fun h => hb h.1.symm)]
theorem freeze_ok (hI : Inv X G s W) {id n t : Nat} (hid : s.get id = some (.front 1 n t)) (ht : t ≠ 0) : Inv X G s (W.freeze ⟨G.blk id, 0, none⟩ n) ∧ Ext G s W G s (W.freeze ⟨G.blk id, 0, none⟩ n) := by
  obtain ⟨hB, arr, e, fz, hg, hsz, hn, him, hfz, htg⟩ := hI.ob id _ hid
  have htg' := htg.resolve_left ht
  have hnew : ∃ fz', (W.freeze ⟨G.blk id, 0, none⟩ n).heap[G.blk id]? = some (.cells arr e fz') ∧ fz'.2 ≤ n := by
    rw [freeze_heap]
    obtain ⟨lo, hi⟩ := fz
    by_cases h0 : n = 0
    · rw [if_neg (by simp [h0])]; exact ⟨_, hg, by have := htg'.2; simp at this ⊢; omega⟩
    · rw [if_pos ⟨rfl, h0⟩, hg]
      refine ⟨_, rfl, ?_⟩
      have := htg'.2
      simp only [Nat.mul_one] at this
      split
      · simp
      · simp only [Nat.zero_add]; omega
  obtain ⟨fz', hg', hf'⟩ := hnew
  have hoth : ∀ b, b ≠ G.blk id → (W.freeze ⟨G.blk id, 0, none⟩ n).heap[b]? = W.heap[b]? := fun b hb => by
    rw [freeze_heap, if_neg (fun h => hb h.1)]
  have hcell : ∀ b o, (W.freeze ⟨G.blk id, 0, none⟩ n).cell? ⟨b, o, none⟩ = W.cell? ⟨b, o, none⟩ := fun b o => by
    by_cases hb : b = G.blk id
    · subst hb
      rw [Lib.cell_of_heap hg', Lib.cell_of_heap hg]
    · exact World.cell?_of_block (w := W) (hoth b hb)
  have hbel : Below X.B W (W.freeze ⟨G.blk id, 0, none⟩ n) := Lib.below_freeze (Below.refl X.B W) (p := ⟨G.blk id, 0, none⟩) hB n
  have hext : Ext G s W G s (W.freeze ⟨G.blk id, 0, none⟩ n) := ⟨fun b o hi => ⟨hi, hcell b o⟩, Nat.le_refl _, fun _ h => h, fun k es m' tg' _ h => ⟨m', tg', h, Nat.le_refl _, fun _ => ⟨rfl, rfl⟩⟩, fun _ h => ⟨h, rfl⟩⟩
  refine ⟨⟨hI.below.trans hbel, Nat.le_trans hI.bsz hbel.size, fun b o h => Nat.lt_of_lt_of_le (hI.immlt b o h) hbel.size, hI.immnew, hI.lt, fun k o h => ?_, hI.inj⟩, hext⟩
  by_cases hk : k = id
  · subst hk
    rw [hid] at h
    cases h
    exact ⟨hB, arr, e, fz', hg', hsz, hn, him, .inl (by omega), .inr ⟨htg'.1, by omega⟩⟩
  · by_cases hl : o.live
    · exact relOb_keep hext rfl rfl (hoth _ fun e => hk (hI.inj k id o _ h hid hl trivial e)) (fun _ h => h) (hI.ob k o h)
    · exact relOb_dead hl
theorem bldK_ok : XtOK Tryz.prog 130 bldK where
  free args s d s' h := by
    unfold bldK at h
    split at h
    · split at h
      · rename_i hg
        split at h
        · cases h
          refine ⟨Nat.le_refl _, fun k hk hn => ?_⟩
          rw [St.get_put, if_neg]; exact hn
          rintro rfl
          rw [hg] at hn; cases hn
        · cases h
      · split at h
        · cases h; exact ⟨Nat.le_refl _, fun k _ hn => hn⟩
        · cases h
      · cases h
    · cases h
  calls args s d s' X G W vargs hI ha h := by
    refine ⟨fun W => enters_of Tryz.func130 (by kernel_rfl) rfl _ _, ?_⟩
    rw [FW_none]
    refine callsIn_wide.2 ?_
    unfold bldK at h
    split at h
    · rename_i r off
      obtain ⟨va, rfl, hva⟩ := relVL_one ha
      obtain ⟨_, rfl⟩ := hva
      split at h
      · rename_i t b hg
        split at h
        · rename_i hc
          obtain ⟨rfl, rfl⟩ := hc
          cases h
          obtain ⟨hB, arr, hh, hrel, him⟩ := hI.ob r _ hg
          obtain ⟨u, v, rfl, hu, hv⟩ := relCL_two hrel
          have hu' : u = .pointer none := hu
          subst hu'
          have hcell : W.cell? ⟨G.blk r, 0, none⟩ = some (.pointer none) := by rw [Lib.cell_of_heap hh]; rfl
          have hfro : W.frozen? ⟨G.blk r, 0, none⟩ = false := by simp [World.frozen?, hh]
          refine (copyCheck_fresh (G.blk r) W hcell (by simp [World.shape?, hh]) hfro).mono ?_
          rintro e w' ⟨rfl, rfl⟩
          obtain ⟨W', h1, h2, h3⟩ := store_tc (P := Tryz.prog) hI hg (off := 0) (xs := [.ref r 0]) (ws := [.pointer (some ⟨G.blk r, 0, none⟩)]) ⟨_, _, rfl, ⟨⟨_, hg, rfl⟩, rfl⟩, rfl⟩ (by simp)
          have hadd : (⟨G.blk r, 0, none⟩ : Addr).add 0 = ⟨G.blk r, 0, none⟩ := by unfold Addr.add; split <;> simp_all
          have hst : (store ((⟨G.blk r, 0, none⟩ : Addr).add 0) (.pointer (some ⟨G.blk r, 0, none⟩))).run Tryz.prog W = .ok () (W.setCell ⟨G.blk r, 0, none⟩ (.pointer (some ⟨G.blk r, 0, none⟩))) := by
            rw [hadd, run_store Tryz.prog W _ _ _ rfl, hcell]
            simp [hfro]
          simp only [storeCells, Sem.run_bind, hst, Result.andThen_ok, Sem.run_pure, Result.ok.injEq, true_and] at h1
          subst h1
          exact ⟨_, G, rfl, h2, h3, ⟨#[], rfl, rfl⟩⟩
        · cases h
      · rename_i t r' o' b hg
        split at h
        · rename_i hc
          obtain ⟨rfl, rfl, rfl, rfl⟩ := hc
          cases h
          obtain ⟨hB, arr, hh, hrel, him⟩ := hI.ob _ _ hg
          obtain ⟨u, v, rfl, hu, hv⟩ := relCL_two hrel
          obtain ⟨_, rfl⟩ := hu
          have hcell : W.cell? ⟨G.blk r', 0, none⟩ = some (.pointer (some ⟨G.blk r', 0, none⟩)) := by rw [Lib.cell_of_heap hh]; rfl
          refine (copyCheck_used (G.blk r') W hcell).mono ?_
          rintro e w' ⟨rfl, rfl⟩
          exact ⟨_, G, rfl, hI, Ext.refl _ _ _, ⟨#[], rfl, rfl⟩⟩
        · cases h
      · cases h
    · cases h
theorem bldS_ok : XtOK Tryz.prog 109 bldS where
  free args s d s' h := by
    unfold bldS at h
    repeat' split at h
    all_goals first
      | (cases h; done)
      | (cases h; exact ⟨Nat.le_refl _, fun k _ hn => hn⟩)
  calls args s d s' X G W vargs hI ha h := by
    refine ⟨fun W => enters_of Tryz.func109 (by kernel_rfl) rfl _ _, ?_⟩
    rw [FW_none]
    refine callsIn_wide.2 ?_
    unfold bldS at h
    split at h
    · rename_i r off
      obtain ⟨va, rfl, hva⟩ := relVL_one ha
      obtain ⟨_, rfl⟩ := hva
      split at h
      · rename_i t p hg
        split at h
        · rename_i hc
          obtain ⟨rfl, rfl⟩ := hc
          cases h
          obtain ⟨hB, arr, hh, hrel, him⟩ := hI.ob r _ hg
          obtain ⟨u, v, rfl, hu, hv⟩ := relCL_two hrel
          obtain rfl : v = .slice none 0 0 := hv
          refine (string_none (G.blk r) u W hh).mono ?_
          rintro e w' ⟨rfl, rfl⟩
          exact ⟨_, G, rfl, hI.drew, Ext.drew _ _ _, ⟨⟨#[]⟩, rfl, rfl⟩⟩
        · cases h
      · rename_i t p n b id hg
        split at h
        · rename_i es m u l hid hb
          split at h
          · rename_i hc
            obtain ⟨rfl, rfl, rfl, rfl, rfl, hl, hn, hn2⟩ := hc
            cases h
            obtain rfl := allM_byteS hb
            obtain ⟨hB, arr, hh, hrel, him⟩ := hI.ob r _ hg
            obtain ⟨u, v, rfl, hu, hp, hhas, hown⟩ := relCL_two hrel
            obtain ⟨_, hv⟩ := hown _ _ _ hid
            obtain rfl := hv rfl
            subst hl
            have hl0 : l ≠ [] := fun e => by rw [e] at hn; simp at hn
            obtain ⟨a, c, hac, hnc, hcs⟩ := slice_elems (G := G) (s := s) hp
            cases hac
            obtain ⟨b, o, hbo, hr⟩ := hcs (by simpa using hl0)
            cases hbo
            obtain ⟨hB2, cur, e5, fz, hcur, hsz, hcap, him2, hfz, htg⟩ := hI.ob _ _ hid
            obtain ⟨rfl, _⟩ := htg.resolve_left (by decide)
            refine (string_some (G.blk r) (G.blk id) (G.cap id) u cur fz l W hl0 hh hcur hcap (by omega) (by omega) fun j x hx => ?_).mono ?_
            · obtain ⟨w, h1, _, h2⟩ := relCs_get hr j (pdOfByte x) (by simp [hx])
              rw [Nat.zero_add, Lib.cell_of_heap hcur] at h1
              rw [h1]
              exact congrArg some h2
            · rintro e w' ⟨rfl, rfl⟩
              obtain ⟨i1, e1⟩ := freeze_ok hI.drew hid (by decide)
              exact ⟨_, G, rfl, i1, (Ext.drew _ _ _).trans e1, ⟨_, rfl, by simp⟩⟩
          · cases h
        · cases h
      · cases h
    · cases h
end Go.Proofs.YtafaoldmemcigaaGreat.Ab
/- The environment of the seat is sound. -/
namespace Go.Proofs.YtafaoldmemcigaaGreat.Ab
theorem E0_ok : EnvOK Tryz.prog E0 := by
  refine mkEnv_ok (by kernel_rfl) (fun t ht => ?_) (fun g h hx => ?_)
  · simp only [List.mem_cons, List.mem_nil_iff, or_false] at ht
    rcases ht with rfl | rfl | rfl | rfl
    · exact eq32
    · exact eq45
    · exact eq64
    · exact eq83
  · unfold bld at hx
    split at hx
    · rename_i e; subst e; cases hx; exact bldK_ok
    · split at hx
      · rename_i e; subst e; cases hx; exact bldS_ok
      · cases hx
end Go.Proofs.YtafaoldmemcigaaGreat.Ab
/- The argument of SerieschunkSeries: a series. -/
namespace Go.Proofs.YtafaoldmemcigaaGreat.Ab
open Go.RowKit
set_option linter.unusedVariables false
section
variable {W : World} {H : Type} {enc : TypeId × Value → H}
theorem rdLb : Rd enc Tryz.prog W 64 2 lbP (fun x => x.1.length ≤ reachBytes ∧ x.2.length ≤ reachBytes) :=
  (Rd.struct (n := 2) Tryz.underlying64 (by kernel_rfl) (RdS.cons (n1 := 1) (n2 := 1) (Rd.str Tryz.underlying9) rfl (by kernel_rfl) (RdS.cons (n1 := 1) (n2 := 0) (Rd.str Tryz.underlying9) rfl (by kernel_rfl) RdS.nil))).map (fun p => (p.1, p.2.1)) (fun _ => rfl) (fun _ => rfl) (fun _ h => ⟨h.1, h.2.1⟩)
theorem rdSm : Rd enc Tryz.prog W 45 2 p2 (fun x => (Lit.int .i64 x.1).wf = true ∧ (Lit.int .i64 x.2).wf = true) :=
  (Rd.struct (n := 2) Tryz.underlying45 (by kernel_rfl) (RdS.cons (n1 := 1) (n2 := 1) (Rd.int Tryz.underlying3) rfl (by kernel_rfl) (RdS.cons (n1 := 1) (n2 := 0) (Rd.int Tryz.underlying3) rfl (by kernel_rfl) RdS.nil))).map (fun p => (p.1, p.2.1)) (fun _ => rfl) (fun _ => rfl) (fun _ h => ⟨h.1, h.2.1⟩)
theorem rdBk : Rd enc Tryz.prog W 83 2 p2 (fun x => (Lit.int .i64 x.1).wf = true ∧ (Lit.int .i64 x.2).wf = true) :=
  (Rd.struct (n := 2) Tryz.underlying83 (by kernel_rfl) (RdS.cons (n1 := 1) (n2 := 1) (Rd.int Tryz.underlying3) rfl (by kernel_rfl) (RdS.cons (n1 := 1) (n2 := 0) (Rd.int Tryz.underlying3) rfl (by kernel_rfl) RdS.nil))).map (fun p => (p.1, p.2.1)) (fun _ => rfl) (fun _ => rfl) (fun _ h => ⟨h.1, h.2.1⟩)
theorem le_reach {n b : Nat} (h : n * b ≤ reachBytes) (hb : 0 < b) : n ≤ reachBytes := Nat.le_trans (Nat.le_mul_of_pos_right n hb) h
theorem rdHst : Rd enc Tryz.prog W 55 6 Hst.pd (fun x => x.bs.length ≤ reachBytes) :=
  (Rd.struct (n := 6) Tryz.underlying55 (by kernel_rfl) (RdS.cons (n1 := 1) (n2 := 5) (Rd.int Tryz.underlying3) rfl (by kernel_rfl) (RdS.cons (n1 := 1) (n2 := 4) (Rd.int Tryz.underlying3) rfl (by kernel_rfl) (RdS.cons (n1 := 1) (n2 := 3) (Rd.int Tryz.underlying3) rfl (by kernel_rfl)
    (RdS.cons (n1 := 1) (n2 := 2) (Rd.int Tryz.underlying3) rfl (by kernel_rfl) (RdS.cons (n1 := 1) (n2 := 1) (Rd.int Tryz.underlying3) rfl (by kernel_rfl) (RdS.cons (n1 := 1) (n2 := 0) (Rd.slice rdBk Tryz.underlying53 (by kernel_rfl) (by decide) (of_decide_eq_true (by kernel_rfl))) rfl (by kernel_rfl) RdS.nil))))))).map
    (fun p => ⟨p.1, p.2.1, p.2.2.1, p.2.2.2.1, p.2.2.2.2.1, p.2.2.2.2.2.1⟩) (fun _ => rfl) (fun _ => rfl) (fun _ h => le_reach h.2.2.2.2.2.1.1 (of_decide_eq_true (by kernel_rfl)))
theorem rdHSm : Rd enc Tryz.prog W 57 7 HSm.pd (fun x => x.h.bs.length ≤ reachBytes) :=
  (Rd.struct (n := 7) Tryz.underlying57 (by kernel_rfl) (RdS.cons (n1 := 1) (n2 := 6) (Rd.int Tryz.underlying3) rfl (by kernel_rfl) (RdS.cons (n1 := 6) (n2 := 0) rdHst rfl (by kernel_rfl) RdS.nil))).map
    (fun p => ⟨p.1, p.2.1⟩) (fun _ => rfl) (fun _ => rfl) (fun _ h => h.2.1)
theorem rdSer : Rd enc Tryz.prog W 26 4 Ser.pd (fun x => x.lb.length ≤ reachBytes ∧ x.hs.length ≤ reachBytes) :=
  (Rd.struct (n := 4) Tryz.underlying26 (by kernel_rfl) (RdS.cons (n1 := 1) (n2 := 3) (Rd.slice rdLb Tryz.underlying22 (by kernel_rfl) (by decide) (of_decide_eq_true (by kernel_rfl))) rfl (by kernel_rfl)
    (RdS.cons (n1 := 1) (n2 := 2) (Rd.int Tryz.underlying3) rfl (by kernel_rfl) (RdS.cons (n1 := 1) (n2 := 1) (Rd.slice rdSm Tryz.underlying23 (by kernel_rfl) (by decide) (of_decide_eq_true (by kernel_rfl))) rfl (by kernel_rfl)
    (RdS.cons (n1 := 1) (n2 := 0) (Rd.slice rdHSm Tryz.underlying24 (by kernel_rfl) (by decide) (of_decide_eq_true (by kernel_rfl))) rfl (by kernel_rfl) RdS.nil))))).map
    (fun p => ⟨p.1, p.2.1, p.2.2.1, p.2.2.2.1⟩) (fun _ => rfl) (fun _ => rfl) (fun _ h => ⟨le_reach h.1.1 (of_decide_eq_true (by kernel_rfl)), le_reach h.2.2.2.1.1 (of_decide_eq_true (by kernel_rfl))⟩)
end
end Go.Proofs.YtafaoldmemcigaaGreat.Ab
/- SerieschunkSeries returns true whatever the series, and leaves its argument as it was. -/
namespace Go.Proofs.YtafaoldmemcigaaGreat.serieschunkSeries
open Go.ChangeShapes Go.WideShapes Go.ChangeAt Go.RowKit
open Go.Proofs.YtafaoldmemcigaaGreat.Ab
set_option linter.unusedVariables false
theorem own : ownKnob Tryz.prog.godebug = none := by kernel_rfl
theorem laidOut : laidOutB Tryz.prog = true := by kernel_rfl
theorem readSer {W : World} {H : Type} {enc : TypeId × Value → H} {v : Value} {d : DataW H} {p : List MemPlace} (hv : ∃ cs, v = .agg cs) (h : DataW.Trod enc Tryz.prog W 0 (fun _ => true) true 26 v d p) (hs : small Tryz.prog 26 d) :
    ∃ x : Ser, (x.lb.length ≤ reachBytes ∧ x.hs.length ≤ reachBytes) ∧ relVL (topG W) s00 W [.agg (x.pd.map .p)] (#[v] : Array Value).toList := by
  obtain ⟨cs, rfl⟩ := hv
  obtain ⟨fuel, h⟩ := h
  obtain ⟨x, hx, hr⟩ := rdSer.rd _ _ _ h hs
  exact ⟨x, hx, _, _, rfl, ⟨cs, rfl, relCL_p hr.1 hr.2⟩, rfl⟩
set_option maxRecDepth 100000 in
theorem lifted (os : Os) (started : os.Started) (H : Type) (enc : TypeId × Value → H) :
    ReturnsInHanded {} Tryz.checked os 3 .any (Rows.serieschunkSeriesSpec.pre6 enc Tryz.prog Tryz.f3 Rows.serieschunkSeriesRow.domain false) (Rows.serieschunkSeriesSpec.post enc Tryz.prog Tryz.f3 false true false false) := by
  refine returnsInHanded_of_change_sized (C := Tryz.checked) own started (by kernel_rfl) Tryz.func3
    (ChangeSpec.witness6 (enc := enc) (C := Tryz.checked) false ⟨#[], #[.agg #[.slice none 0 0, .int .i64 0, .slice none 0 0, .slice none 0 0]], []⟩ 8 (by kernel_rfl) (by kernel_rfl) (by kernel_rfl) (by kernel_rfl)) ?_
  intro W base args ds gs before hval0 hW hcnd hsz0 _
  have hsz : (DataW.weightsEach Tryz.prog (Tryz.f3.params.toList ++ Rows.serieschunkSeriesSpec.plain.varTypes Tryz.prog) (ds ++ gs)).all (· ≤ reachBytes) = true := hsz0
  have hval : ∀ (j : Nat) t v, Tryz.f3.params[j]? = some t → args[j]? = some v → Value.okWide Tryz.prog W .any base t v := hval0
  have hW' := hW
  obtain ⟨p, q, hA0, hV, rfl, hfz, hnd⟩ := hW
  have hA : DataW.TrodAll enc Tryz.prog W 0 (fun _ => true) true Tryz.f3.params.toList args.toList ds p := hA0
  rw [Tryz.params3] at hA hval hsz
  obtain ⟨v0, vs0, d0, ds0, p0, q0, hargs, rfl, rfl, h0, r0⟩ := trodAll_cons hA
  obtain ⟨rfl, rfl, rfl⟩ := trodAll_nil r0
  obtain rfl : args = #[v0] := by cases args; simp_all
  obtain ⟨rfl, rfl⟩ := trodVars_none hV
  obtain ⟨cs0, hcs0, _⟩ := okWide_struct Tryz.underlying26 (hval 0 26 v0 rfl rfl)
  have lt0 : ∀ x ∈ p0, x.block < W.heap.size := by obtain ⟨m, hm⟩ := h0; exact DataW.trod_lt m _ _ _ hm
  have k0 := h0
  have hs0 : small Tryz.prog 26 d0 := fun w hw => by
    have := List.all_eq_true.1 hsz w (by
      show w ∈ DataW.weightsEach Tryz.prog (26 :: _) (d0 :: _)
      simp only [DataW.weightsEach, List.mem_append]; exact .inl hw)
    simpa using this
  obtain ⟨x, ⟨hx1, hx2⟩, hr⟩ := readSer ⟨cs0, hcs0⟩ h0 hs0
  have hb : reachBytes < 2^60 := by decide
  obtain ⟨s', hev⟩ := law3 x (by omega) (by omega)
  have hc := law_calls E0_ok hr hev
  rw [FW_none] at hc
  clear hA0 hval0 hsz0 hsz
  refine (callsIn_wide.1 hc).mono fun e W' ⟨he, bel⟩ => ?_
  subst he
  exact ⟨_, rfl, _, _, _, [], _, [], hW', trodAll_mk1 (shut_bool Tryz.underlying4 _), (trodAll_cons_mk (Below.trod laidOut (by kernel_rfl) (of_decide_eq_true (by kernel_rfl)) k0 bel lt0) trodAll_mk0), rfl, bel.frame _, fun h => by cases h⟩
theorem over : Rows.serieschunkSeriesRow.holds Tryz.pinned (OpenSpec.ofChange Rows.serieschunkSeriesSpec) :=
  OpenClaim.holds_of_wide 3 Tryz.f3 rfl rfl rfl rfl rfl rfl rfl ⟨rfl, rfl, rfl, rfl, rfl⟩ rfl rfl rfl rfl rfl (by kernel_rfl) Tryz.func3 (by kernel_rfl)
    (of_decide_eq_true (by kernel_rfl)) (by unfold Func.isWrapper; first | (rw [if_pos (by decide +kernel)]; kernel_rfl) | (rw [if_neg (by decide +kernel)]; exact ⟨rfl, rfl⟩))
    (fun os started H enc _ => lifted os started H enc)
theorem proved : Rows.SerieschunkSeriesSaid := over
end Go.Proofs.YtafaoldmemcigaaGreat.serieschunkSeries
