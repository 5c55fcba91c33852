/- A part of the proof: an evaluator of the code, its contracts, the law. No condition. -/
import Derived.Test.YtafaoldmemcigaaGreatT3
import Derived.OrdersIn
import Derived.RangeFuncCalls
import Derived.TacticsIn
/- An evaluator of the model's code with slices as pure lists: each operation, and regions without an open order, are the machine's. -/
namespace Go.Proofs.YtafaoldmemcigaaGreat.Ab
open Go.RowKit
set_option linter.unusedVariables false
set_option linter.unusedSimpArgs false

def FW (r : Option Nat) : Fence := { Fence.wide with round := r }
theorem FW_none : FW none = Fence.wide := rfl
theorem FW_in (r : Option Nat) (l : Nat) : (FW r).inRound l = FW (some l) := rfl
theorem callsIn_FW {r r' : Option Nat} {n n' : Nat} {P : Program} {f : FuncId} {args : Array Value} {w : World} {R : Ending → World → Prop} (h : CallsIn (FW r) n P f args w R) : CallsIn (FW r') n' P f args w R :=
  ⟨trivial, fun cs _ => h.2 cs (room_wide _)⟩
theorem roundIn_FW {r r' : Option Nat} {n n' l : Nat} {P : Program} {f : FuncId} {tmps : Array Value} {a b : Code} {w : World} {R : Ending → World → Prop} (h : RoundIn (FW r) n P l f tmps a b w R) : RoundIn (FW r') n' P l f tmps a b w R :=
  ⟨trivial, fun c cs _ => h.2 c cs (room_wide _)⟩

/-- What a call comes to. -/
def PostT (X : Ctx) (G : Gh) (s : St) (W : World) (d : D) (s' : St) (e : Ending) (W' : World) : Prop :=
  ∃ v G', e = .returned v ∧ Inv X G' s' W' ∧ Ext G s W G' s' W' ∧ relD G' s' W' d v
def Fresh (s s' : St) : Prop := ∀ k, k < s.nx → s.get k = none → s'.get k = none

/-- The evaluator's calls are the machine's. -/
structure CallsOK (P : Program) (E : Env) (T : CallT) : Prop where
  fresh : ∀ t args s d s', T t args s = some (d, s') → Fresh s s'
  calls : ∀ g args s d s' X G W vargs (_ : Inv X G s W) (_ : relVL G s W args vargs.toList), (T (.f g) args s = some (d, s') ∨ T (.o g) args s = some (d, s')) →
    (∀ W, (callFunc g vargs).run P W = .ok (.enter g vargs) W) ∧ CallsIn (FW none) 0 P g vargs W (PostT X G s W d s')
  yields : ∀ l args s d s' X G W vargs (_ : Inv X G s W) (_ : relVL G s W args vargs.toList), T (.y l) args s = some (d, s') →
    ∃ f tmps assign body, (Instr.yield (G.blk l) vargs).run P W = .ok (.round (G.blk l) f tmps assign body) W ∧ RoundIn (FW none) 0 P (G.blk l) f tmps assign body W (PostT X G s W d s')

section
variable {X : Ctx} {G G' : Gh} {s s' : St} {W W' : World} {P : Program} {E : Env} {T : CallT}

theorem fresh_put {k0 : Nat} {o : Ob} (h : (s.get k0).isSome = true) : Fresh s (s.put k0 o) := fun k hk hn => by
  rw [St.get_put]
  split
  · rename_i e; subst e; rw [hn] at h; cases h
  · exact hn
theorem Fresh.refl (s : St) : Fresh s s := fun _ _ h => h
def FreshBut (key : Nat) (s s' : St) : Prop := s'.nx = s.nx ∧ ∀ k, k < s.nx → k ≠ key → s.get k = none → s'.get k = none
theorem freshBut_put {key k0 : Nat} {o : Ob} (h : k0 = key ∨ (s.get k0).isSome = true) : FreshBut key s (s.put k0 o) := ⟨rfl, fun k hk hne hn => by
  rw [St.get_put]
  split
  · rename_i e
    subst e
    rcases h with h | h
    · exact absurd h hne
    · rw [hn] at h; cases h
  · exact hn⟩
theorem keep_eq {d : Option D} {d' : D} (h : keep s d = some (d', s')) : d = some d' ∧ s' = s := by
  cases d with
  | none => cases h
  | some x => cases h; exact ⟨rfl, rfl⟩

/-- The result of an operation, as the walk takes it. -/
theorem upon_value {F : Fence} {o : Oper} {a : Act} {next : Act → World → Prop} {Q : Exit → Act → World → Prop} (hF : ∀ f, F.fn f) (hd : ∀ c, o.op ≠ .defer c) {v : Value}
    (h : (execOp a.eval o).run P W = .ok (.value v) W') (hk : next (a.put o.dst v) W') : o.wpIn F 0 P a W next Q := by
  refine ⟨fun f _ => hF f, ?_⟩
  rw [Oper.semAt_eq _ _ _ hd, h]
  exact hk
theorem upon_skip {F : Fence} {o : Oper} {a : Act} {next : Act → World → Prop} {Q : Exit → Act → World → Prop} (hF : ∀ f, F.fn f) (hd : ∀ c, o.op ≠ .defer c)
    (h : (execOp a.eval o).run P W = .ok .skip W') (hk : next (a.put o.dst undef) W') : o.wpIn F 0 P a W next Q := by
  refine ⟨fun f _ => hF f, ?_⟩
  rw [Oper.semAt_eq _ _ _ hd, h]
  exact hk
theorem upon_enter {r : Option Nat} {o : Oper} {a : Act} {next : Act → World → Prop} {Q : Exit → Act → World → Prop} (hd : ∀ c, o.op ≠ .defer c) {f : FuncId} {args : Array Value}
    (h : (execOp a.eval o).run P W = .ok (.enter f args) W) {R : Ending → World → Prop} (hc : CallsIn (FW none) 0 P f args W R) (hR : ∀ e W', R e W' → ∃ v, e = .returned v ∧ next (a.put o.dst v) W') : o.wpIn (FW r) 0 P a W next Q := by
  refine ⟨fun f _ => trivial, ?_⟩
  rw [Oper.semAt_eq _ _ _ hd, h]
  refine ⟨fun hh => by simp [FW, Fence.wide] at hh, (callsIn_FW hc).mono fun e W' hr => ?_⟩
  obtain ⟨v, rfl, hn⟩ := hR e W' hr
  exact hn
theorem upon_round {r : Option Nat} {o : Oper} {a : Act} {next : Act → World → Prop} {Q : Exit → Act → World → Prop} (hd : ∀ c, o.op ≠ .defer c) {l f : Nat} {tmps : Array Value} {as bo : Code}
    (h : (execOp a.eval o).run P W = .ok (.round l f tmps as bo) W) {R : Ending → World → Prop} (hc : RoundIn (FW none) 0 P l f tmps as bo W R) (hR : ∀ e W', R e W' → ∃ v, e = .returned v ∧ next (a.put o.dst v) W') : o.wpIn (FW r) 0 P a W next Q := by
  refine ⟨fun f _ => trivial, ?_⟩
  rw [Oper.semAt_eq _ _ _ hd, h]
  refine ⟨fun hh => by simp [FW, Fence.wide] at hh, (roundIn_FW hc).mono fun e W' hr => ?_⟩
  obtain ⟨v, rfl, hn⟩ := hR e W' hr
  exact hn

theorem vs_rel : ∀ {ds : List D} {vs : List V} {us : List Value}, vs? ds = some vs → relDL G s W ds us → relVL G s W vs us
  | [], vs, us, h, hr => by simp only [vs?] at h; cases h; exact hr
  | d :: r, vs, us, h, hr => by
    simp only [vs?] at h
    split at h
    · rename_i c cs hc hcs
      cases h
      obtain ⟨v, t, rfl, h1, h2⟩ := hr
      exact ⟨v, t, rfl, vq hc h1, vs_rel hcs h2⟩
    · cases h
theorem cs_rel : ∀ {ds : List D} {cs : List C} {us : List Value}, cs? ds = some cs → relDL G s W ds us → relCL G s W cs us
  | [], vs, us, h, hr => by simp only [cs?] at h; cases h; exact hr
  | d :: r, vs, us, h, hr => by
    simp only [cs?] at h
    split at h
    · rename_i c cs hc hcs
      cases h
      obtain ⟨v, t, rfl, h1, h2⟩ := hr
      exact ⟨v, t, rfl, cq hc h1, cs_rel hcs h2⟩
    · cases h
theorem opds_rel {e : List D} {a : Act} (h : relDL G s W e a.tmps.toList) : ∀ l : List Operand, relDL G s W (l.map (opd e)) (l.map a.eval)
  | [] => rfl
  | x :: r => ⟨_, _, rfl, opd_rel h x, opds_rel h r⟩
theorem pairs_rel {e : List D} {a : Act} (h : relDL G s W e a.tmps.toList) (l : List (Nat × Operand)) :
    (l.map fun (i, x) => (i, opd e x)).map (·.1) = (l.map fun (i, x) => (i, a.eval x)).map (·.1) ∧
      relDL G s W ((l.map fun (i, x) => (i, opd e x)).map (·.2)) ((l.map fun (i, x) => (i, a.eval x)).map (·.2)) := by
  induction l with
  | nil => exact ⟨rfl, rfl⟩
  | cons p r ih =>
    obtain ⟨i, x⟩ := p
    refine ⟨by simp, ?_⟩
    exact ⟨_, _, rfl, opd_rel h x, ih.2⟩
theorem map1 {f : Operand → D} {args : Array Operand} {x : D} (hx : args.toList.map f = [x]) : ∃ y, args = #[y] ∧ f y = x := by
  have : args.toList.length = 1 := by have := congrArg List.length hx; simpa using this
  obtain ⟨y, hy⟩ := List.length_eq_one_iff.1 this
  rw [hy] at hx
  refine ⟨y, by apply Array.ext'; simpa using hy, by simpa using hx⟩
theorem map2 {f : Operand → D} {args : Array Operand} {x y : D} (hx : args.toList.map f = [x, y]) : ∃ u v, args = #[u, v] ∧ f u = x ∧ f v = y := by
  have hl : args.toList.length = 2 := by have := congrArg List.length hx; simpa using this
  obtain ⟨u, v, hy⟩ : ∃ u v, args.toList = [u, v] := by
    cases hq : args.toList with
    | nil => rw [hq] at hl; simp at hl
    | cons u t => cases t with
      | nil => rw [hq] at hl; simp at hl
      | cons v t => cases t with
        | nil => exact ⟨u, v, rfl⟩
        | cons _ _ => rw [hq] at hl; simp at hl
  rw [hy] at hx
  simp at hx
  exact ⟨u, v, by apply Array.ext'; simpa using hy, hx.1, hx.2⟩
theorem mapC {f : Operand → D} {args : Array Operand} {x : D} {r : List D} (hx : args.toList.map f = x :: r) : ∃ u us, args.toList = u :: us ∧ f u = x ∧ us.map f = r := by
  cases hq : args.toList with
  | nil => rw [hq] at hx; cases hx
  | cons u us => rw [hq] at hx; simp at hx; exact ⟨u, us, rfl, hx.1, hx.2⟩

theorem op_ok {r : Option Nat} (hE : EnvTy P E) (hT : CallsOK P E T) (hI : Inv X G s W) {e : List D} {a : Act} (he : relDL G s W e a.tmps.toList) {key : Nat} (hk : key < s.nx) (hn : s.get key = none)
    {o : Oper} {d : D} (h : evalOp E T key o.op (opd e) s = some (d, s')) {next : Act → World → Prop} {Q : Exit → Act → World → Prop}
    (hnext : ∀ v W' G', Inv X G' s' W' → Ext G s W G' s' W' → relD G' s' W' d v → next (a.put o.dst v) W') : o.wpIn (FW r) 0 P a W next Q := by
  have hF : ∀ f, (FW r).fn f := fun _ => trivial
  obtain ⟨dst, op, type, pos, after, guard⟩ := o
  simp only at h hnext
  have val : ∀ {v : Value} {W' : World} {G' : Gh}, (∀ c, op ≠ .defer c) → (execOp a.eval ⟨dst, op, type, pos, after, guard⟩).run P W = .ok (.value v) W' → Inv X G' s' W' → Ext G s W G' s' W' → relD G' s' W' d v →
      (⟨dst, op, type, pos, after, guard⟩ : Oper).wpIn (FW r) 0 P a W next Q := fun hd hrun h1 h2 h3 => upon_value hF hd hrun (hnext _ _ _ h1 h2 h3)
  have pur : ∀ {v : Value}, s' = s → (∀ c, op ≠ .defer c) → (execOp a.eval ⟨dst, op, type, pos, after, guard⟩).run P W = .ok (.value v) W → relD G s W d v →
      (⟨dst, op, type, pos, after, guard⟩ : Oper).wpIn (FW r) 0 P a W next Q := fun hs hd hrun h3 => by
    subst hs; exact val hd hrun hI (Ext.refl _ _ _) h3
  cases op <;> simp only [evalOp] at h
  case move x => cases h; exact pur rfl (by simp) (by simp [execOp]) (opd_rel he x)
  case assign x => cases h; exact pur rfl (by simp) (by simp [execOp]) (opd_rel he x)
  case pick c x y =>
    split at h
    · rename_i b hb
      cases h
      have hc := boolq hb (opd_rel he c)
      refine pur (v := if b then a.eval x else a.eval y) rfl (by simp) (by simp [execOp, hc, asBool]) ?_
      cases b
      · exact opd_rel he y
      · exact opd_rel he x
    · cases h
  case alloc t =>
    split at h
    · rename_i size agg by_ z kn eq hti
      cases h
      obtain ⟨v, W1, G1, h1, h2, h3, h4⟩ := allocD_ok hE hI hk hn hti rfl
      exact val (by simp) (by simp [execOp, h1]) h2 h3 h4
    · cases h
  case box t x =>
    split at h
    · rename_i v hv
      cases h
      obtain ⟨u, W1, G1, h1, h2, h3, h4⟩ := boxD_ok (P := P) (t := t) hI hk hn (vq hv (opd_rel he x))
      exact val (by simp) (by simp [execOp, h1]) h2 h3 h4
    · cases h
  case build t ps =>
    obtain ⟨h, hs⟩ := keep_eq h
    obtain ⟨p1, p2⟩ := pairs_rel he ps.toList
    obtain ⟨v, h1, h2⟩ := buildD_ok (P := P) (vps := ps.map fun (i, x) => (i, a.eval x)) hE h (by simp) (by simpa using p2)
    exact pur hs (by simp) (by simp only [execOp, Sem.run_bind, h1]; rfl) h2
  case buildSlice t n ps =>
    obtain ⟨p1, p2⟩ := pairs_rel he ps.toList
    obtain ⟨v, W1, G1, h1, h2, h3, h4⟩ := buildSliceD_ok (P := P) (vps := ps.map fun (i, x) => (i, a.eval x)) hE hI hk hn h (by simp) (by simpa using p2)
    exact val (by simp) (by simp only [execOp, Sem.run_bind, h1]; rfl) h2 h3 h4
  case load t x =>
    split at h
    · rename_i i cs hti hcs
      split at h
      · rename_i v hv
        cases h
        obtain ⟨u, h1, h2⟩ := loadD_ok (P := P) hE hI hti hcs hv (opd_rel he x)
        exact pur rfl (by simp) (by simp [execOp, h1]) h2
      · cases h
    · cases h
  case store t x y =>
    split at h
    · rename_i k off v i hx hv hti
      split at h
      · rename_i cs hget
        split at h
        · rename_i hc
          cases h
          have hx' := opd_rel he x
          rw [hx] at hx'
          obtain ⟨W1, h1, h2, h3⟩ := storeD_ok (P := P) hE hI hti hget hc.1 hc.2 hx' (vq hv (opd_rel he y))
          exact upon_skip hF (by simp) (by simp [execOp, h1]) (hnext _ _ _ h2 h3 ⟨#[], rfl, rfl⟩)
        · cases h
      · rename_i u cs hget
        split at h
        · rename_i hc
          cases h
          have hx' := opd_rel he x
          rw [hx] at hx'
          obtain ⟨W1, h1, h2, h3⟩ := storeT_ok (P := P) hE hI hti hget hc.1 hc.2 hx' (vq hv (opd_rel he y))
          exact upon_skip hF (by simp) (by simp [execOp, h1]) (hnext _ _ _ h2 h3 ⟨#[], rfl, rfl⟩)
        · cases h
      · cases h
    · cases h
  case nilCheck x =>
    split at h
    · rename_i k off hx
      cases h
      have hx' := opd_rel he x
      have hx2 := hx'
      rw [hx] at hx2
      obtain ⟨_, hv⟩ := hx2
      exact pur rfl (by simp) (by simp [execOp, hv]; rfl) (by rw [hv] at hx'; exact hx')
    · rename_i cs off hx
      cases h
      have hx' := opd_rel he x
      have hx2 := hx'
      rw [hx] at hx2
      obtain ⟨b, o, hv, _⟩ := hx2
      exact pur rfl (by simp) (by simp [execOp, hv]; rfl) (by rw [hv] at hx'; exact hx')
    · cases h
  case binOp op t x y yt =>
    obtain ⟨h, hs⟩ := keep_eq h
    obtain ⟨v, h1, h2⟩ := binD_ok (P := P) hE h (opd_rel he x) (opd_rel he y) x y
    exact pur hs (by simp) (by simp only [execOp, Sem.run_bind] at h1 ⊢; simp only [h1]; rfl) h2
  case unOp op t x =>
    obtain ⟨h, hs⟩ := keep_eq h
    obtain ⟨v, h1, h2⟩ := unD_ok (P := P) (W := W) h (opd_rel he x)
    exact pur hs (by simp) (by simp [execOp, h1]) h2
  case convert t u x =>
    obtain ⟨v, W1, G1, h1, h2, h3, h4⟩ := convD_ok (P := P) hE hI hk hn h (opd_rel he x)
    exact val (by simp) (by simp [execOp, h1]) h2 h3 h4
  case makeFunc f fs cap =>
    split at h
    · rename_i cfs ccap h1 h2
      have r1 := cs_rel h1 (opds_rel he fs.toList)
      have r2 := cs_rel h2 (opds_rel he cap.toList)
      split at h
      · cases h
        simp only [relCL] at r1 r2
        have e1 : fs.map a.eval = #[] := by apply Array.ext'; simpa using r1
        have e2 : cap.map a.eval = #[] := by apply Array.ext'; simpa using r2
        exact pur rfl (by simp) (by simp [execOp, Instr.makeFunc, e1, e2]) (P'_mk rfl)
      · cases h
        refine pur rfl (by simp) (by simp [execOp, Instr.makeFunc]; rfl) ?_
        exact ⟨_, _, _, rfl, rfl, by simpa using r1, by simpa using r2⟩
      · cases h
    · cases h
  case makeSlice t l c =>
    obtain ⟨v, W1, G1, h1, h2, h3, h4⟩ := makeSliceD_ok (P := P) hE hI hk hn h (opd_rel he l) (opd_rel he c)
    exact val (by simp) (by simp [execOp, h1]) h2 h3 h4
  case slice t x lo hi mx =>
    obtain ⟨h, hs⟩ := keep_eq h
    obtain ⟨v, h1, h2⟩ := sliceD_ok (P := P) hE h (opd_rel he x) (relO_map he lo) (relO_map he hi) (relO_map he mx)
    exact pur hs (by simp) (by simp [execOp, h1]) h2
  case fieldAddr t x f =>
    obtain ⟨h, hs⟩ := keep_eq h
    obtain ⟨v, h1, h2⟩ := fieldAddrD_ok (P := P) hE h (opd_rel he x)
    exact pur hs (by simp) (by simp [execOp, h1]) h2
  case field t x f =>
    obtain ⟨h, hs⟩ := keep_eq h
    obtain ⟨v, h1, h2⟩ := fieldD_ok (P := P) hE h (opd_rel he x)
    exact pur hs (by simp) (by simp [execOp, h1]) h2
  case indexAddr t x i =>
    obtain ⟨h, hs⟩ := keep_eq h
    obtain ⟨v, h1, h2⟩ := indexAddrD_ok (P := P) hE h (opd_rel he x) (opd_rel he i)
    exact pur hs (by simp) (by simp [execOp, h1]) h2
  case index t x i =>
    obtain ⟨h, hs⟩ := keep_eq h
    obtain ⟨v, h1, h2⟩ := indexD_ok (P := P) hE h (opd_rel he x) (opd_rel he i)
    exact pur hs (by simp) (by simp [execOp, h1]) h2
  case extract x i =>
    split at h
    · rename_i vs hx
      split at h
      · rename_i v hv
        cases h
        have hx' := opd_rel he x
        rw [hx] at hx'
        obtain ⟨arr, harr, hr⟩ := hx'
        obtain ⟨u, hu, hru⟩ := relVL_get hr _ _ hv
        have hu' : arr[i]? = some u := by simpa using hu
        exact pur rfl (by simp) (by simp [execOp, harr, Instr.extract, hu']) hru
      · cases h
    · cases h
  case call c =>
    obtain ⟨callee, args, argTypes⟩ := c
    cases callee with
    | invoke recv m => simp at h
    | builtin b =>
      simp only at h
      have hargs := opds_rel he args.toList
      unfold builtinD at h
      have hres : ∀ m : Sem Value, (∀ consts, builtin b argTypes type consts (args.map a.eval) = (do pure (.value (← m)) : Sem Next)) → ∀ {v : Value} {W' : World}, m.run P W = .ok v W' →
          (execOp a.eval ⟨dst, .call ⟨.builtin b, args, argTypes⟩, type, pos, after, guard⟩).run P W = .ok (.value v) W' := by
        intro m hm v W' hv
        have : ∃ consts, (execOp a.eval ⟨dst, .call ⟨.builtin b, args, argTypes⟩, type, pos, after, guard⟩).run P W = (builtin b argTypes type consts (args.map a.eval)).run P W :=
          ⟨_, by simp only [execOp, resolve, Sem.run_bind, Sem.run_pure, Result.andThen_ok, invoke]; rfl⟩
        obtain ⟨consts, this⟩ := this
        rw [this, hm, Sem.run_bind, hv]
        rfl
      split at h
      · rename_i x hx
        obtain ⟨y, rfl, rfl⟩ := map1 hx
        split at h
        · rename_i t r0 hts
          split at h
          · rename_i dd hd
            cases h
            obtain ⟨v, h1, h2⟩ := lenD_ok (P := P) hE hd (opd_rel he y) argTypes (by rw [← Array.getElem?_toList, hts]; rfl) type
            exact pur rfl (by simp) (hres (Builtin.len_ argTypes type #[a.eval y]) (fun c => by simp [builtin]) h1) h2
          · cases h
        · cases h
      · rename_i x y hx
        obtain ⟨u, v, rfl, rfl, rfl⟩ := map2 hx
        obtain ⟨v', W1, G1, h1, h2, h3, h4⟩ := appendD_ok (P := P) hE hI hk hn h (opd_rel he u) (opd_rel he v) type
        exact val (by simp) (hres (Builtin.append_ argTypes type #[a.eval u, a.eval v]) (fun c => by simp [builtin]) h1) h2 h3 h4
      · rename_i k n r0 hx
        obtain ⟨u, us, hus, hu, hr⟩ := mapC hx
        split at h
        · rename_i dd hd
          cases h
          have hargs' := opds_rel he us
          rw [hr] at hargs'
          have hu' := opd_rel he u
          rw [hu] at hu'
          have hu2 := P'_int hu'
          obtain ⟨v, h1, h2⟩ := foldMin_ok (P := P) hargs' hd
          refine pur rfl (by simp) (hres (Builtin.min_ argTypes type (args.map a.eval)) (fun c => rfl) ?_) h2
          unfold Builtin.min_
          rw [show (args.map a.eval).toList = a.eval u :: us.map a.eval by simp [hus], hu2]
          exact h1
        · cases h
      · rename_i k n r0 hx
        obtain ⟨u, us, hus, hu, hr⟩ := mapC hx
        split at h
        · rename_i dd hd
          cases h
          have hargs' := opds_rel he us
          rw [hr] at hargs'
          have hu' := opd_rel he u
          rw [hu] at hu'
          have hu2 := P'_int hu'
          obtain ⟨v, h1, h2⟩ := foldMax_ok (P := P) hargs' hd
          refine pur rfl (by simp) (hres (Builtin.max_ argTypes type (args.map a.eval)) (fun c => rfl) ?_) h2
          unfold Builtin.max_
          rw [show (args.map a.eval).toList = a.eval u :: us.map a.eval by simp [hus], hu2]
          exact h1
        · cases h
      · cases h
    | value f =>
      simp only at h
      have hargs := opds_rel he args.toList
      have hf := opd_rel he f
      unfold callD at h
      split at h
      · rename_i g as hfe has
        rw [hfe] at hf
        have hfv : a.eval f = .func (.func g) #[] #[] := by simpa [relD, relV, relC, relPd] using hf
        have hrel : relVL G s W as (args.map a.eval).toList := by simpa using vs_rel has hargs
        obtain ⟨h1, h2⟩ := hT.calls g as s d s' X G W (args.map a.eval) hI hrel (.inl h)
        refine upon_enter (by simp) (f := g) (args := args.map a.eval) ?_ h2 (fun e W' ⟨v, G', hv, i1, i2, i3⟩ => ⟨v, hv, hnext v W' G' i1 i2 i3⟩)
        simp [execOp, resolve, hfv, Deferred.ofValue, invoke, h1]
      · rename_i g fs cap as hfe has
        rw [hfe] at hf
        obtain ⟨f', vf, vc, hfv, hfn, hfs, hcap⟩ := hf
        simp only [relFn] at hfn
        subst hfn
        have hrel : relVL G s W (fs.map .c ++ as ++ cap.map .c) (vf ++ args.map a.eval ++ vc).toList := by
          simp only [Array.toList_append]
          exact relVL_append (relVL_append (relCL_VL hfs) (by simpa using vs_rel has hargs)) (relCL_VL hcap)
        obtain ⟨h1, h2⟩ := hT.calls g _ s d s' X G W _ hI hrel (.inr h)
        refine upon_enter (by simp) (f := g) (args := vf ++ args.map a.eval ++ vc) ?_ h2 (fun e W' ⟨v, G', hv, i1, i2, i3⟩ => ⟨v, hv, hnext v W' G' i1 i2 i3⟩)
        simp only [execOp, resolve, hfv, Deferred.ofValue, invoke, Sem.run_bind, Sem.run_pure, Result.andThen_ok, h1]
      · rename_i l fs cap as hfe has
        split at h
        · rw [hfe] at hf
          obtain ⟨f', vf, vc, hfv, hfn, hfs, hcap⟩ := hf
          simp only [relFn] at hfn
          obtain ⟨hnf, rfl⟩ := hfn
          simp only [relCL] at hfs hcap
          have e1 : vf = #[] := by apply Array.ext'; simpa using hfs
          subst e1
          have hrel : relVL G s W as (args.map a.eval).toList := by simpa using vs_rel has hargs
          obtain ⟨f2, tmps, asg, bdy, h1, h2⟩ := hT.yields l as s d s' X G W (args.map a.eval) hI hrel h
          refine upon_round (by simp) ?_ h2 (fun e W' ⟨v, G', hv, i1, i2, i3⟩ => ⟨v, hv, hnext v W' G' i1 i2 i3⟩)
          simp only [execOp, resolve, hfv, Deferred.ofValue, invoke, Sem.run_bind, Sem.run_pure, Result.andThen_ok, Array.empty_append, h1]
        · cases h
      · cases h
  all_goals cases h
end
end Go.Proofs.YtafaoldmemcigaaGreat.Ab
/- An evaluator of the model's code with slices as pure lists: regions without an open order are the machine's. -/
namespace Go.Proofs.YtafaoldmemcigaaGreat.Ab
open Go.RowKit
set_option linter.unusedVariables false
set_option linter.unusedSimpArgs false

section
variable {X : Ctx} {G G' : Gh} {s s' : St} {W W' : World} {P : Program} {E : Env} {T : CallT}

/-- What was free stays free, but for one key. -/
def FreeBut (key : Nat) (s s' : St) : Prop := s.nx ≤ s'.nx ∧ ∀ k, k < s.nx → k ≠ key → s.get k = none → s'.get k = none
theorem freeBut_put {key k0 : Nat} {o : Ob} (h : k0 = key ∨ (s.get k0).isSome = true) : FreeBut key s (s.put k0 o) := ⟨Nat.le_refl _, (freshBut_put h).2⟩
theorem freeBut_refl {key : Nat} : FreeBut key s s := ⟨Nat.le_refl _, fun _ _ _ h => h⟩

structure CallsFree (T : CallT) : Prop where
  free : ∀ t args s d s', T t args s = some (d, s') → s.nx ≤ s'.nx ∧ Fresh s s'

theorem appendD_free {key : Nat} {ts : List Nat} {x y d : D} (h : appendD E key ts x y s = some (d, s')) : FreeBut key s s' := by
  unfold appendD at h
  repeat' split at h
  all_goals first
    | (cases h; done)
    | (cases h; exact freeBut_refl)
    | (cases h; exact freeBut_put (.inl rfl))
    | (rename_i hid _; cases h; exact freeBut_put (.inr (by rw [hid]; rfl)))
    | (rename_i hid _ _; cases h; exact freeBut_put (.inr (by rw [hid]; rfl)))
theorem convD_free {key a b : Nat} {x d : D} (h : convD E key a b x s = some (d, s')) : FreeBut key s s' := by
  unfold convD at h
  repeat' split at h
  all_goals first
    | (cases h; done)
    | (cases h; exact freeBut_refl)
    | (cases h; exact freeBut_put (.inl rfl))
theorem builtinD_free {key : Nat} {b : Builtin} {ts : List Nat} {args : List D} {d : D} (h : builtinD E key b ts args s = some (d, s')) : FreeBut key s s' := by
  unfold builtinD at h
  split at h
  · split at h
    · split at h <;> cases h; exact freeBut_refl
    · cases h
  · exact appendD_free h
  · split at h <;> cases h; exact freeBut_refl
  · split at h <;> cases h; exact freeBut_refl
  · cases h
theorem callD_free (hT : CallsFree T) {key : Nat} {f : D} {args : List D} {d : D} (h : callD T f args s = some (d, s')) : FreeBut key s s' := by
  unfold callD at h
  split at h
  · obtain ⟨h1, h2⟩ := hT.free _ _ _ _ _ h; exact ⟨h1, fun k hk _ hn => h2 k hk hn⟩
  · obtain ⟨h1, h2⟩ := hT.free _ _ _ _ _ h; exact ⟨h1, fun k hk _ hn => h2 k hk hn⟩
  · split at h
    · obtain ⟨h1, h2⟩ := hT.free _ _ _ _ _ h; exact ⟨h1, fun k hk _ hn => h2 k hk hn⟩
    · cases h
  · cases h

theorem op_free (hT : CallsFree T) {key : Nat} {o : Op} {r : Operand → D} {d : D} (h : evalOp E T key o r s = some (d, s')) : FreeBut key s s' := by
  cases o <;> simp only [evalOp] at h
  case move => cases h; exact freeBut_refl
  case assign => cases h; exact freeBut_refl
  case pick => split at h <;> cases h; exact freeBut_refl
  case alloc => split at h <;> cases h; exact freeBut_put (.inl rfl)
  case box => split at h <;> cases h; exact freeBut_put (.inl rfl)
  case build => rw [(keep_eq h).2]; exact freeBut_refl
  case buildSlice =>
    unfold buildSliceD at h
    repeat' split at h
    all_goals first
      | (cases h; done)
      | (cases h; exact freeBut_put (.inl rfl))
  case load =>
    split at h
    · split at h <;> cases h; exact freeBut_refl
    · cases h
  case store =>
    split at h
    · split at h
      · rename_i hget
        split at h
        · cases h; exact freeBut_put (.inr (by rw [hget]; rfl))
        · cases h
      · rename_i hget
        split at h
        · cases h; exact freeBut_put (.inr (by rw [hget]; rfl))
        · cases h
      · cases h
    · cases h
  case nilCheck => split at h <;> cases h <;> exact freeBut_refl
  case binOp => rw [(keep_eq h).2]; exact freeBut_refl
  case unOp => rw [(keep_eq h).2]; exact freeBut_refl
  case convert => exact convD_free h
  case makeFunc =>
    split at h
    · split at h <;> cases h <;> exact freeBut_refl
    · cases h
  case makeSlice =>
    unfold makeSliceD at h
    repeat' split at h
    all_goals first
      | (cases h; done)
      | (cases h; exact freeBut_put (.inl rfl))
  case slice => rw [(keep_eq h).2]; exact freeBut_refl
  case fieldAddr => rw [(keep_eq h).2]; exact freeBut_refl
  case field => rw [(keep_eq h).2]; exact freeBut_refl
  case indexAddr => rw [(keep_eq h).2]; exact freeBut_refl
  case index => rw [(keep_eq h).2]; exact freeBut_refl
  case extract =>
    split at h
    · split at h <;> cases h; exact freeBut_refl
    · cases h
  case call c =>
    split at h
    · exact builtinD_free h
    · exact callD_free hT h
    · cases h
  all_goals cases h

/-! ### one operation of a region -/
theorem wanted_rel {ops : Array Oper} {o : Oper} {e : List D} {a : Act} {b : Bool} (he : relDL G s W e a.tmps.toList) (h : wantedD ops o e = some b) : Region.wanted o (yielded ops a.tmps) = b := by
  unfold wantedD at h
  unfold Region.wanted
  cases hg : o.guard with
  | none => rw [hg] at h; cases h; rfl
  | some jw =>
    obtain ⟨j, want⟩ := jw
    rw [hg] at h
    simp only at h ⊢
    split at h
    · rename_i oj hoj
      split at h
      · rename_i t ht
        have hr := relDL_getD he t
        split at h
        · rename_i b' hb
          cases h
          rw [hb] at hr
          have hv : a.tmps.toList.getD t undef = .bool b' := by simpa [relD, relV, relC, relPd] using hr
          have hv2 : a.tmps[t]? = some (.bool b') := by
            cases hq : a.tmps[t]? with
            | none => simp [List.getD, hq, undef] at hv
            | some u => simp [List.getD, hq] at hv; rw [hv]
          simp [yielded, hoj, ht, hv2]
        · rename_i hb
          cases h
          rw [hb] at hr
          obtain ⟨arr, harr, hnil⟩ := hr
          have hv2 : yielded ops a.tmps j = none := by
            unfold yielded
            rw [hoj]
            simp only [Option.bind_some, ht]
            cases hq : a.tmps[t]? with
            | none => simp [hq]
            | some u =>
              simp [List.getD, hq] at harr
              subst harr
              simp [hq]
          rw [hv2]; rfl
        · cases h
      · cases h
    · cases h

theorem put_rel {e : List D} {a : Act} (he : relDL G s W e a.tmps.toList) (dst : Option Nat) {d : D} {v : Value} (hd : relD G s W d v) : relDL G s W (putD e dst d) (a.put dst v).tmps.toList := by
  cases dst with
  | none => exact he
  | some t => simp only [putD, Act.put, Array.toList_setIfInBounds]; exact relDL_set he t hd
theorem put_defers (a : Act) (dst : Option Nat) (v : Value) : (a.put dst v).defers = a.defers := by cases dst <;> rfl

theorem step_ok {r : Option Nat} (hE : EnvTy P E) (hT : CallsOK P E T) {ops : Array Oper} {base i : Nat} {e e' : List D} {a : Act} (hI : Inv X G s W) (he : relDL G s W e a.tmps.toList)
    (hk : base + i < s.nx) (hn : s.get (base + i) = none) (h : stepOp E T ops base i e s = some (e', s')) {K : Act → World → Prop} {Q : Exit → Act → World → Prop}
    (hK : ∀ a' W' G', Inv X G' s' W' → Ext G s W G' s' W' → relDL G' s' W' e' a'.tmps.toList → a'.defers = a.defers → K a' W') : wpOpIn (FW r) 0 P ops Q i K a W := by
  unfold stepOp at h
  split at h
  · cases h
  · rename_i o ho
    unfold wpOpIn
    simp only [ho]
    split at h
    · cases h
    · rename_i hw
      rw [wanted_rel he hw]
      cases h
      simp only [Bool.false_eq_true, if_false]
      refine ⟨fun _ _ => trivial, hK _ _ G hI (Ext.refl _ _ _) (put_rel he _ ⟨#[], rfl, rfl⟩) (put_defers _ _ _)⟩
    · rename_i hw
      rw [wanted_rel he hw]
      simp only [if_true]
      split at h
      · cases h
      · rename_i d s1 hev
        cases h
        exact op_ok hE hT hI he hk hn hev fun v W' G' h1 h2 h3 => hK _ _ G' h1 h2 (put_rel (relDL_ext h2 he) _ h3) (put_defers _ _ _)

theorem step_free (hT : CallsFree T) {ops : Array Oper} {base i : Nat} {e e' : List D} (h : stepOp E T ops base i e s = some (e', s')) : FreeBut (base + i) s s' := by
  unfold stepOp at h
  split at h
  · cases h
  · split at h
    · cases h
    · cases h; exact freeBut_refl
    · split at h
      · cases h
      · rename_i hev; cases h; exact op_free hT hev

theorem runOps_ok {r : Option Nat} (hE : EnvTy P E) (hT : CallsOK P E T) (hTf : CallsFree T) {ops : Array Oper} {base : Nat} {Q : Exit → Act → World → Prop} : ∀ {l : List Nat} {G : Gh} {s s' : St} {W : World} {e e' : List D} {a : Act}, l.Nodup →
    (∀ i ∈ l, base + i < s.nx ∧ s.get (base + i) = none) → Inv X G s W → relDL G s W e a.tmps.toList → runOps E T ops base l e s = some (e', s') →
    (∀ a' W' G', Inv X G' s' W' → Ext G s W G' s' W' → relDL G' s' W' e' a'.tmps.toList → a'.defers = a.defers → Q .normal a' W') → wpOpsIn (FW r) 0 P ops Q l a W
  | [], G, s, s', W, e, e', a, _, _, hI, he, h, hQ => by
    simp only [runOps] at h; cases h
    exact hQ a W G hI (Ext.refl _ _ _) he rfl
  | i :: l, G, s, s', W, e, e', a, hnd, hfr, hI, he, h, hQ => by
    simp only [runOps] at h
    split at h
    · cases h
    · rename_i e1 s1 hst
      obtain ⟨hni, hnd⟩ := List.nodup_cons.1 hnd
      obtain ⟨hk, hn⟩ := hfr i (List.mem_cons_self ..)
      obtain ⟨hnx, hf⟩ := step_free hTf hst
      have hfr' : ∀ j ∈ l, base + j < s1.nx ∧ s1.get (base + j) = none := fun j hj => by
        obtain ⟨h1, h2⟩ := hfr j (List.mem_cons_of_mem _ hj)
        exact ⟨Nat.lt_of_lt_of_le h1 hnx, hf _ h1 (fun e => hni (by have : j = i := by omega
                                                                    rw [← this]; exact hj)) h2⟩
      have := step_ok (r := r) hE hT hI he hk hn hst (Q := Q) (K := wpOpsIn (FW r) 0 P ops Q l) (fun a' W' G' h1 h2 h3 h4 =>
        runOps_ok hE hT hTf hnd hfr' h1 h3 h (fun a2 W2 G2 k1 k2 k3 k4 => hQ a2 W2 G2 k1 (h2.trans k2) k3 (k4.trans h4)))
      rw [wpOpsIn_cons]
      exact this
end
end Go.Proofs.YtafaoldmemcigaaGreat.Ab
/- An evaluator of the model's code with slices as pure lists: regions whose order is open: operations that may come in either order. -/
namespace Go.Proofs.YtafaoldmemcigaaGreat.Ab
open Go.RowKit
set_option linter.unusedVariables false
set_option linter.unusedSimpArgs false

section
variable {X : Ctx} {G G' : Gh} {s s' t : St} {W W' : World} {P : Program} {E : Env} {T : CallT}

def putO (s : St) : Option (Nat × Ob) → St
  | none => s
  | some (k, o) => s.put k o
def Ment (d : D) (k : Nat) : Prop := (∃ off, d = .v (.c (.ref k off))) ∨ (∃ off n es, d = .v (.c (.mt k off n es))) ∨ ∃ n cs, d = .v (.c (.own n cs k))
structure CallsPlain (T : CallT) (E : Env) : Prop where
  plain : ∀ g args s d s', E.opn g = false → E.xt g = none → (∀ v ∈ args, plainV v = true) → T (.f g) args s = some (d, s') → s' = s ∧ ∀ t, T (.f g) args t = some (d, t)

/-- What an operation looks at, and what it turns. -/
structure Loc (E : Env) (T : CallT) (key : Nat) (o : Op) (r : Operand → D) (s : St) (d : D) (s' : St) (c : Nat) (tk : Option Nat) (RK : List Nat) (w : Option (Nat × Ob)) : Prop where
  res : s' = putO s w
  go : ∀ t : St, (∀ k ∈ RK, t.get k = s.get k) → evalOp E T key o r t = some (d, putO t w)
  ment : ∀ k ∈ RK, ∃ x ∈ o.operands.toList, Ment (r x) k
  rk : ∀ k ∈ RK, (∃ ob, s.get k = some ob ∧ ob.isFront = false ∧ tk = some k ∧ 1 ≤ c) ∨ (∃ es n tg, s.get k = some (.front es n tg) ∧ c = 3 ∧ ∃ cs, ∃ x ∈ o.operands.toList, r x = .v (.c (.own n cs k)))
  wk : ∀ k ob, w = some (k, ob) → (k = key ∧ 2 ≤ c) ∨ (c = 3 ∧ k ∈ RK ∧ ∃ es n n' tg tg', s.get k = some (.front es n tg) ∧ ob = .front es n' tg' ∧ n < n') ∨ (c = 4 ∧ tk = some k ∧ k ∈ RK ∧ (∃ o, s.get k = some o ∧ o.isFront = false) ∧ ob.isFront = false)
  fw : ∀ k ∈ RK, ∀ es n tg, s.get k = some (.front es n tg) → ∃ ob, w = some (k, ob)
  zero : c = 0 → RK = [] ∧ w = none

theorem Loc.pure {key : Nat} {o : Op} {r : Operand → D} {d : D} {c : Nat} {tk : Option Nat} (hs : s' = s) (h : ∀ t : St, evalOp E T key o r t = some (d, t)) : Loc E T key o r s d s' c tk [] none :=
  ⟨hs, fun t _ => h t, (fun k hk => by cases hk), (fun k hk => by cases hk), (fun k ob e => by cases e), (fun k hk => by cases hk), fun _ => ⟨rfl, rfl⟩⟩
theorem Loc.fresh {key : Nat} {o : Op} {r : Operand → D} {d : D} {c : Nat} {tk : Option Nat} {ob : Ob} (hs : s' = s.put key ob) (hc : 2 ≤ c) (h : ∀ t : St, evalOp E T key o r t = some (d, t.put key ob)) :
    Loc E T key o r s d s' c tk [] (some (key, ob)) :=
  ⟨hs, fun t _ => h t, (fun k hk => by cases hk), (fun k hk => by cases hk), (fun k ob e => by cases e; exact .inl ⟨rfl, hc⟩), (fun k hk => by cases hk), fun h0 => by omega⟩
theorem keep_go {d : Option D} {d' : D} (h : keep s d = some (d', s')) : s' = s ∧ ∀ t : St, keep t d = some (d', t) := by
  obtain ⟨rfl, hs⟩ := keep_eq h
  exact ⟨hs, fun t => rfl⟩

theorem listOf_loc {d : D} {m : Nat} {ys : List Pd} (h : listOf s d = some (m, ys)) :
    (∀ t : St, listOf t d = some (m, ys)) ∨ ∃ r off n es cs fz, d = .v (.c (.mt r off n es)) ∧ s.get r = some (.cells cs fz) ∧ ∀ t : St, t.get r = s.get r → listOf t d = some (m, ys) := by
  unfold listOf at h
  split at h
  · exact .inl fun t => by unfold listOf; exact h
  · exact .inl fun t => by unfold listOf; exact h
  · exact .inl fun t => by unfold listOf; exact h
  · rename_i r off n es
    split at h
    · rename_i cs fz hc
      exact .inr ⟨r, off, n, es, cs, fz, rfl, hc, fun t ht => by unfold listOf; simp only; rw [ht, hc]; exact h⟩
    · cases h
  · cases h

theorem srcD_loc {u : Nat} {d : D} {m : Nat} {ys : List Pd} (h : srcD E u s d = some (m, ys)) :
    (∀ t : St, srcD E u t d = some (m, ys)) ∨ ∃ r off n es cs fz, d = .v (.c (.mt r off n es)) ∧ s.get r = some (.cells cs fz) ∧ ∀ t : St, t.get r = s.get r → srcD E u t d = some (m, ys) := by
  unfold srcD at h
  split at h
  · rename_i iu hiu
    split at h
    · rename_i b hk
      exact .inl fun t => by unfold srcD; simp only [hiu, hk]; exact h
    · rename_i e hk
      rcases listOf_loc h with h | ⟨r, off, n, es, cs, fz, h1, h2, h3⟩
      · exact .inl fun t => by unfold srcD; simp only [hiu, hk]; exact h t
      · exact .inr ⟨r, off, n, es, cs, fz, h1, h2, fun t ht => by unfold srcD; simp only [hiu, hk]; exact h3 t ht⟩
    · cases h
  · cases h

theorem appendD_loc {key : Nat} {ts : List Nat} {x y : Operand} {r : Operand → D} {d : D} {c : Call} (hc : c.callee = .builtin .append) (hargs : c.args = #[x, y]) (h : appendD E key ts (r x) (r y) s = some (d, s')) (hts : c.argTypes.toList = ts) :
    ∃ RK w, Loc E T key (.call c) r s d s' 3 (touch (.call c) r) RK w := by
  have hev : ∀ t : St, evalOp E T key (.call c) r t = appendD E key ts (r x) (r y) t := fun t => by simp [evalOp, hc, hargs, builtinD, hts]
  have htk : touch (.call c) r = match r y with
      | .v (.c (.mt k _ _ _)) => some k
      | _ => none := by simp [touch, hargs]; rfl
  have hmy : y ∈ (Op.call c).operands.toList := by simp [Op.operands, Call.operands, hc, hargs]
  have hmx : x ∈ (Op.call c).operands.toList := by simp [Op.operands, Call.operands, hc, hargs]
  unfold appendD at h
  split at h
  · rename_i t u
    split at h
    · rename_i size agg by_ z0 e eq hti
      split at h
      · rename_i ie hie
        split at h
        · cases h
        · rename_i m ys hsrc
          split at h
          · rename_i hlen
            -- what the source looks at
            obtain ⟨R1, hR1, hm1, hrk1⟩ : ∃ R1 : List Nat, (∀ t : St, (∀ k ∈ R1, t.get k = s.get k) → srcD E u t (r y) = some (m, ys)) ∧ (∀ k ∈ R1, ∃ x ∈ (Op.call c).operands.toList, Ment (r x) k) ∧
                (∀ k ∈ R1, ∃ cs fz, s.get k = some (.cells cs fz) ∧ touch (.call c) r = some k) := by
              rcases srcD_loc hsrc with h1 | ⟨q, off, n, es, cs, fz, h1, h2, h3⟩
              · exact ⟨[], fun t _ => h1 t, fun k hk => (by cases hk), fun k hk => (by cases hk)⟩
              · refine ⟨[q], fun t ht => h3 t (ht q (by simp)), fun k hk => ?_, fun k hk => ?_⟩
                · simp at hk; subst hk; exact ⟨y, hmy, .inr (.inl ⟨off, n, es, h1⟩)⟩
                · simp at hk; subst hk; exact ⟨cs, fz, h2, by rw [htk, h1]⟩
            split at h
            · rename_i hm
              refine ⟨R1, none, ?_, fun t ht => ?_, hm1, fun k hk => ?_, (fun k ob e => by cases e), (fun k hk es n tg hf => by obtain ⟨cs, fz, h1, _⟩ := hrk1 k hk; rw [h1] at hf; cases hf), fun h0 => by cases h0⟩
              · split at h <;> cases h <;> rfl
              · rw [hev]; unfold appendD; simp only [hti, hie, hR1 t ht, hlen, if_true, hm]
                split at h <;> cases h <;> rfl
              · obtain ⟨cs, fz, h1, h2⟩ := hrk1 k hk; exact .inl ⟨_, h1, rfl, h2, by omega⟩
            · rename_i hm
              split at h
              · rename_i hx
                split at h
                · rename_i hcond
                  cases h
                  refine ⟨R1, some (key, .front ie.size m e), rfl, fun t ht => ?_, hm1, fun k hk => ?_, (fun k ob e => by cases e; exact .inl ⟨rfl, by omega⟩), (fun k hk es n tg hf => by obtain ⟨cs, fz, h1, _⟩ := hrk1 k hk; rw [h1] at hf; cases hf), fun h0 => by cases h0⟩
                  · rw [hev]; unfold appendD; simp only [hti, hie, hR1 t ht, hlen, if_true, hm, if_false, hx, hcond]; rfl
                  · obtain ⟨cs, fz, h1, h2⟩ := hrk1 k hk; exact .inl ⟨_, h1, rfl, h2, by omega⟩
                · cases h
              · rename_i n cs id hx
                split at h
                · rename_i es n' tg hid
                  split at h
                  · rename_i hcond
                    cases h
                    refine ⟨id :: R1, some (id, .front es (n + m) (if tg = e then e else 0)), rfl, fun t ht => ?_, fun k hk => ?_, fun k hk => ?_, fun k ob e => ?_, fun k hk es2 n2 tg2 hf => ?_, fun h0 => by cases h0⟩
                    · rw [hev]; unfold appendD
                      have hid' : t.get id = some (.front es n' tg) := by rw [ht id (by simp)]; exact hid
                      simp only [hti, hie, hR1 t (fun k hk => ht k (List.mem_cons_of_mem _ hk)), hlen, if_true, hm, if_false, hx, hid', hcond]
                      rfl
                    · rcases List.mem_cons.1 hk with rfl | hk
                      · exact ⟨x, hmx, .inr (.inr ⟨n, cs, hx⟩)⟩
                      · exact hm1 k hk
                    · rcases List.mem_cons.1 hk with rfl | hk
                      · exact .inr ⟨es, n, tg, by rw [hid, hcond.1], rfl, cs, x, hmx, hx⟩
                      · obtain ⟨cs, fz, h1, h2⟩ := hrk1 k hk; exact .inl ⟨_, h1, rfl, h2, by omega⟩
                    · cases e
                      exact .inr (.inl ⟨rfl, by simp, es, n, n + m, tg, _, by rw [hid, hcond.1], rfl, by omega⟩)
                    · rcases List.mem_cons.1 hk with rfl | hk
                      · exact ⟨_, rfl⟩
                      · obtain ⟨cs, fz, h1, _⟩ := hrk1 k hk; rw [h1] at hf; cases hf
                  · cases h
                · cases h
              · cases h
          · cases h
      · cases h
    · cases h
  · cases h

theorem vs_plain : ∀ {ds : List D} {vs : List V}, vs? ds = some vs → ds.all plainD = true → ∀ v ∈ vs, plainV v = true
  | [], vs, h, _, v, hv => by simp only [vs?] at h; cases h; cases hv
  | d :: r, vs, h, hp, v, hv => by
    simp only [vs?] at h
    simp only [List.all_cons, Bool.and_eq_true] at hp
    split at h
    · rename_i c cs hc hcs
      cases h
      rcases List.mem_cons.1 hv with rfl | hv
      · have h1 := hp.1
        unfold D.v? at hc
        split at hc
        · cases hc; exact h1
        · cases hc
      · exact vs_plain hcs hp.2 v hv
    · cases h

theorem op_local (hT : CallsPlain T E) {key : Nat} {o : Op} {r : Operand → D} {d : D} (h : evalOp E T key o r s = some (d, s')) (hc : clsOf E o r ≤ 4) : ∃ RK w, Loc E T key o r s d s' (clsOf E o r) (touch o r) RK w := by
  have pure : s' = s → (∀ t : St, evalOp E T key o r t = some (d, t)) → ∃ RK w, Loc E T key o r s d s' (clsOf E o r) (touch o r) RK w := fun hs hg => ⟨[], none, Loc.pure hs hg⟩
  have kp : ∀ {x : Option D}, (∀ t : St, evalOp E T key o r t = keep t x) → ∃ RK w, Loc E T key o r s d s' (clsOf E o r) (touch o r) RK w := fun {x} hx => by
    rw [hx s] at h
    obtain ⟨h1, h2⟩ := keep_go h
    exact pure h1 fun t => by rw [hx t]; exact h2 t
  cases o with
  | move x => simp only [evalOp] at h; cases h; exact pure rfl fun t => rfl
  | assign x => simp only [evalOp] at h; cases h; exact pure rfl fun t => rfl
  | pick c a b =>
    simp only [evalOp] at h
    split at h
    · rename_i b' hb; cases h; exact pure rfl fun t => by simp only [evalOp, hb]
    · cases h
  | alloc ty =>
    simp only [evalOp] at h
    split at h
    · rename_i size agg by_ z kn eq hti; cases h; exact ⟨_, _, Loc.fresh rfl (by simp [clsOf]) fun t => by simp only [evalOp, hti]⟩
    · cases h
  | box ty x =>
    simp only [evalOp] at h
    split at h
    · rename_i v hv; cases h; exact ⟨_, _, Loc.fresh rfl (by simp [clsOf]) fun t => by simp only [evalOp, hv]⟩
    · cases h
  | build ty ps => exact kp (x := buildD E ty (ps.toList.map fun (i, x) => (i, r x))) fun t => rfl
  | buildSlice ty n ps =>
    simp only [evalOp] at h
    have h' := h
    unfold buildSliceD at h
    split at h
    · rename_i size agg by_ z0 e eq hti
      split at h
      · rename_i sz ag2 by2 z kn2 eq2 hie
        split at h
        · cases h
        · rename_i hcond
          split at h
          · rename_i cs hcs
            split at h
            · rename_i qs hqs
              cases h
              refine ⟨_, _, Loc.fresh rfl (by simp [clsOf]) fun t => ?_⟩
              simp only [evalOp, buildSliceD, hti, hie, if_neg hcond, hcs, hqs]
            · cases h
          · cases h
      · cases h
    · cases h
  | load ty a =>
    simp only [evalOp] at h
    split at h
    · rename_i i cs hti hcs
      split at h
      · rename_i v hv
        cases h
        unfold cellsAt at hcs
        split at hcs
        · rename_i k off hka
          split at hcs
          · rename_i os fz ho
            refine ⟨[k], none, rfl, fun t ht => ?_, fun k' hk' => ?_, fun k' hk' => ?_, (fun k ob e => by cases e), (fun k' hk' es n tg hf => by simp at hk'; subst hk'; rw [ho] at hf; cases hf), fun h0 => by simp [clsOf] at h0⟩
            · have : t.get k = some (.cells os fz) := by rw [ht k (by simp)]; exact ho
              simp only [evalOp, hti, cellsAt, hka, this, hcs, hv]
              rfl
            · simp at hk'; subst hk'; exact ⟨a, by simp [Op.operands], .inl ⟨off, hka⟩⟩
            · simp at hk'; subst hk'; exact .inl ⟨_, ho, rfl, by simp [touch, hka], by simp [clsOf]⟩
          · rename_i u os ho
            refine ⟨[k], none, rfl, fun t ht => ?_, fun k' hk' => ?_, fun k' hk' => ?_, (fun k ob e => by cases e), (fun k' hk' es n tg hf => by simp at hk'; subst hk'; rw [ho] at hf; cases hf), fun h0 => by simp [clsOf] at h0⟩
            · have : t.get k = some (.tc u os) := by rw [ht k (by simp)]; exact ho
              simp only [evalOp, hti, cellsAt, hka, this, hcs, hv]
              rfl
            · simp at hk'; subst hk'; exact ⟨a, by simp [Op.operands], .inl ⟨off, hka⟩⟩
            · simp at hk'; subst hk'; exact .inl ⟨_, ho, rfl, by simp [touch, hka], by simp [clsOf]⟩
          · cases hcs
        · rename_i cs' off hka
          exact pure rfl fun t => by simp only [evalOp, hti, cellsAt, hka, hcs, hv]
        · cases hcs
      · cases h
    · cases h
  | store ty a x =>
    simp only [evalOp] at h
    split at h
    · rename_i k off v i hka hv hti
      split at h
      · rename_i cs hget
        split at h
        · rename_i hcond
          cases h
          refine ⟨[k], some (k, .cells (setR cs off (cellsV v)) false), rfl, fun t ht => ?_, fun k' hk' => ?_, fun k' hk' => ?_, (fun k' ob e => ?_), (fun k' hk' es n tg hf => by simp at hk'; subst hk'; rw [hget] at hf; cases hf), fun h0 => by simp [clsOf] at h0⟩
          · have : t.get k = some (.cells cs false) := by rw [ht k (by simp)]; exact hget
            simp only [evalOp, hka, hv, hti, this, if_pos hcond]
            rfl
          · simp at hk'; subst hk'; exact ⟨a, by simp [Op.operands], .inl ⟨off, hka⟩⟩
          · simp at hk'; subst hk'; exact .inl ⟨_, hget, rfl, by simp [touch, hka], by simp [clsOf]⟩
          · cases e; exact .inr (.inr ⟨rfl, by simp [touch, hka], by simp, ⟨_, hget, rfl⟩, rfl⟩)
        · cases h
      · rename_i u cs hget
        split at h
        · rename_i hcond
          cases h
          refine ⟨[k], some (k, .tc u (setR cs off (cellsV v))), rfl, fun t ht => ?_, fun k' hk' => ?_, fun k' hk' => ?_, (fun k' ob e => ?_), (fun k' hk' es n tg hf => by simp at hk'; subst hk'; rw [hget] at hf; cases hf), fun h0 => by simp [clsOf] at h0⟩
          · have : t.get k = some (.tc u cs) := by rw [ht k (by simp)]; exact hget
            simp only [evalOp, hka, hv, hti, this, if_pos hcond]
            rfl
          · simp at hk'; subst hk'; exact ⟨a, by simp [Op.operands], .inl ⟨off, hka⟩⟩
          · simp at hk'; subst hk'; exact .inl ⟨_, hget, rfl, by simp [touch, hka], by simp [clsOf]⟩
          · cases e; exact .inr (.inr ⟨rfl, by simp [touch, hka], by simp, ⟨_, hget, rfl⟩, rfl⟩)
        · cases h
      · cases h
    · cases h
  | nilCheck x =>
    simp only [evalOp] at h
    split at h
    · rename_i k off hx; cases h; exact pure rfl fun t => by simp only [evalOp, hx]
    · rename_i k off hx; cases h; exact pure rfl fun t => by simp only [evalOp, hx]
    · cases h
  | binOp op ty x y yt => exact kp (x := binD E op ty (r x) (r y)) fun t => rfl
  | unOp op ty x => exact kp (x := unD op (r x)) fun t => rfl
  | convert a b x =>
    simp only [evalOp] at h
    have h' := h
    unfold convD at h
    split at h
    · rename_i ia ib hia hib
      split at h
      · rename_i k1 n hkb hx
        cases h
        exact pure rfl fun t => by simp only [evalOp, convD, hia, hib, hkb, hx]
      · rename_i tt hka hkb hx
        cases h
        exact pure rfl fun t => by simp only [evalOp, convD, hia, hib, hka, hkb, hx]
      · rename_i e hka hkb
        split at h
        · rename_i sz ag by_ z eq hie
          split at h
          · rename_i n cs hl
            split at h
            · rename_i tt htt
              split at h
              · rename_i hlen
                cases h
                rcases listOf_loc hl with hl | ⟨q, off, n', es, cs', fz, h1, h2, h3⟩
                · exact pure rfl fun t => by simp only [evalOp, convD, hia, hib, hka, hkb, hie, hl t, htt, hlen, if_true]
                · have hcl : clsOf E (.convert a b x) r = 1 := by simp [clsOf, hib, hkb]
                  refine ⟨[q], none, rfl, fun t ht => ?_, fun k' hk' => ?_, fun k' hk' => ?_, (fun k ob e => by cases e), (fun k' hk' es n tg hf => by simp at hk'; subst hk'; rw [h2] at hf; cases hf), fun h0 => by omega⟩
                  · simp only [evalOp, convD, hia, hib, hka, hkb, hie, h3 t (ht q (by simp)), htt, hlen, if_true]; rfl
                  · simp at hk'; subst hk'; exact ⟨x, by simp [Op.operands], .inr (.inl ⟨off, n', es, h1⟩)⟩
                  · simp at hk'; subst hk'; exact .inl ⟨_, h2, rfl, by simp [touch, h1], by omega⟩
              · cases h
            · cases h
          · cases h
        · cases h
      · rename_i e tt hka hkb hx
        split at h
        · rename_i ag by_ z eq hie
          cases h
          exact ⟨_, _, Loc.fresh rfl (by simp [clsOf, hib, hkb]) fun t => by simp only [evalOp, convD, hia, hib, hka, hkb, hx, hie]⟩
        · cases h
      · cases h
    · cases h
  | makeFunc f fs cap =>
    simp only [evalOp] at h
    split at h
    · rename_i a b h1 h2
      split at h
      · cases h; exact pure rfl fun t => by simp only [evalOp, h1, h2]
      · rename_i hne; cases h
        refine pure rfl fun t => ?_
        simp only [evalOp, h1, h2]
      · cases h
    · cases h
  | makeSlice ty l c =>
    simp only [evalOp] at h
    unfold makeSliceD at h
    split at h
    · rename_i size agg by_ z0 e eq kl l' kc c' hti hl' hc'
      split at h
      · rename_i sz ag2 by2 z kn2 eq2 hie
        split at h
        · rename_i hcond
          split at h
          · rename_i h0
            cases h
            exact ⟨_, _, Loc.fresh rfl (by simp [clsOf]) fun t => by simp only [evalOp, makeSliceD, hti, hl', hc', hie, if_pos hcond, if_pos h0]⟩
          · rename_i h0
            cases h
            exact ⟨_, _, Loc.fresh rfl (by simp [clsOf]) fun t => by simp only [evalOp, makeSliceD, hti, hl', hc', hie, if_pos hcond, if_neg h0]⟩
        · cases h
      · cases h
    · cases h
  | slice ty x lo hi mx => exact kp (x := sliceD E ty (r x) (lo.map r) (hi.map r) (mx.map r)) fun t => rfl
  | fieldAddr ty x f => exact kp (x := fieldAddrD E ty (r x) f) fun t => rfl
  | field ty x f => exact kp (x := fieldD E ty (r x) f) fun t => rfl
  | indexAddr ty x i => exact kp (x := indexAddrD E ty (r x) (r i)) fun t => rfl
  | index ty x i => exact kp (x := indexD E ty (r x) (r i)) fun t => rfl
  | extract x i =>
    simp only [evalOp] at h
    split at h
    · rename_i vs hx
      split at h
      · rename_i v hv; cases h; exact pure rfl fun t => by simp only [evalOp, hx, hv]
      · cases h
    · cases h
  | call c =>
    cases hcc : c.callee with
    | invoke a b => simp [evalOp, hcc] at h
    | builtin b =>
      have hev : ∀ t : St, evalOp E T key (.call c) r t = builtinD E key b c.argTypes.toList (c.args.toList.map r) t := fun t => by simp [evalOp, hcc]
      rw [hev] at h
      unfold builtinD at h
      split at h
      · rename_i x hx
        split at h
        · rename_i t0 r0 hts
          split at h
          · rename_i dd hd; cases h; exact pure rfl fun t => by rw [hev]; simp only [builtinD, hx, hts, hd]
          · cases h
        · cases h
      · rename_i x y hx
        obtain ⟨u, v, hargs, rfl, rfl⟩ := map2 hx
        have hcl : clsOf E (.call c) r = 3 := by simp [clsOf, hcc]
        rw [hcl]
        exact appendD_loc hcc hargs h rfl
      · rename_i k n r0 hx
        split at h
        · rename_i dd hd; cases h; exact pure rfl fun t => by rw [hev]; simp only [builtinD, hx, hd]
        · cases h
      · rename_i k n r0 hx
        split at h
        · rename_i dd hd; cases h; exact pure rfl fun t => by rw [hev]; simp only [builtinD, hx, hd]
        · cases h
      · cases h
    | value f =>
      have hev : ∀ t : St, evalOp E T key (.call c) r t = callD T (r f) (c.args.toList.map r) t := fun t => by simp [evalOp, hcc]
      have hcl : ∃ g, r f = .v (.c (.p (.fnc g))) ∧ E.opn g = false ∧ E.xt g = none ∧ (c.args.toList.map r).all plainD = true := by
        simp only [clsOf, hcc] at hc
        split at hc
        · rename_i g hg
          split at hc
          · rename_i hcond
            simp only [Bool.and_eq_true, Bool.not_eq_true', Option.isNone_iff_eq_none] at hcond
            exact ⟨g, hg, hcond.1.1, hcond.1.2, hcond.2⟩
          · omega
        · omega
      obtain ⟨g, hg, h1, h2, h3⟩ := hcl
      rw [hev] at h
      unfold callD at h
      rw [hg] at h
      cases hvs : vs? (c.args.toList.map r) with
      | none => rw [hvs] at h; cases h
      | some as =>
        rw [hvs] at h
        obtain ⟨h4, h5⟩ := hT.plain g as s d s' h1 h2 (vs_plain hvs h3) h
        exact pure h4 fun t => by rw [hev]; unfold callD; rw [hg, hvs]; exact h5 t
  | _ => simp [evalOp] at h
end
end Go.Proofs.YtafaoldmemcigaaGreat.Ab
