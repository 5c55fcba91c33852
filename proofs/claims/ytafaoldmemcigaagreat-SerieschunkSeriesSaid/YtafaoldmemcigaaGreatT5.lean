/- An evaluator of the model's code with slices as pure lists: regions whose order is open: operations that may come in either order. -/
import Derived.Test.YtafaoldmemcigaaGreatT4
import Derived.RangeFuncNested
import Derived.RangeFuncLeaves
namespace Go.Proofs.YtafaoldmemcigaaGreat.Ab
open Go.RowKit
set_option linter.unusedVariables false
set_option linter.unusedSimpArgs false

section
variable {X : Ctx} {G G' : Gh} {s s' t : St} {W W' : World} {P : Program} {E : Env} {T : CallT}

def putO (s : St) : Option (Nat × Ob) → St
  | none => s
  | some (k, o) => s.put k o
def Ment (d : D) (k : Nat) : Prop := (∃ off, d = .v (.c (.ref k off))) ∨ (∃ off n es, d = .v (.c (.mt k off n es))) ∨ ∃ n cs, d = .v (.c (.own n cs k))
structure CallsPlain (T : CallT) (E : Env) : Prop where
  plain : ∀ g args s d s', E.opn g = false → E.xt g = none → (∀ v ∈ args, plainV v = true) → T (.f g) args s = some (d, s') → s' = s ∧ ∀ t, T (.f g) args t = some (d, t)

/-- What an operation looks at, and what it turns. -/
structure Loc (E : Env) (T : CallT) (key : Nat) (o : Op) (r : Operand → D) (s : St) (d : D) (s' : St) (c : Nat) (tk : Option Nat) (RK : List Nat) (w : Option (Nat × Ob)) : Prop where
  res : s' = putO s w
  go : ∀ t : St, (∀ k ∈ RK, t.get k = s.get k) → evalOp E T key o r t = some (d, putO t w)
  ment : ∀ k ∈ RK, ∃ x ∈ o.operands.toList, Ment (r x) k
  rk : ∀ k ∈ RK, (∃ ob, s.get k = some ob ∧ ob.isFront = false ∧ tk = some k ∧ 1 ≤ c) ∨ (∃ es n tg, s.get k = some (.front es n tg) ∧ c = 3 ∧ ∃ cs, ∃ x ∈ o.operands.toList, r x = .v (.c (.own n cs k)))
  wk : ∀ k ob, w = some (k, ob) → (k = key ∧ 2 ≤ c) ∨ (c = 3 ∧ k ∈ RK ∧ ∃ es n n' tg tg', s.get k = some (.front es n tg) ∧ ob = .front es n' tg' ∧ n < n') ∨ (c = 4 ∧ tk = some k ∧ k ∈ RK ∧ (∃ o, s.get k = some o ∧ o.isFront = false) ∧ ob.isFront = false)
  fw : ∀ k ∈ RK, ∀ es n tg, s.get k = some (.front es n tg) → ∃ ob, w = some (k, ob)
  zero : c = 0 → RK = [] ∧ w = none

theorem Loc.pure {key : Nat} {o : Op} {r : Operand → D} {d : D} {c : Nat} {tk : Option Nat} (hs : s' = s) (h : ∀ t : St, evalOp E T key o r t = some (d, t)) : Loc E T key o r s d s' c tk [] none :=
  ⟨hs, fun t _ => h t, (fun k hk => by cases hk), (fun k hk => by cases hk), (fun k ob e => by cases e), (fun k hk => by cases hk), fun _ => ⟨rfl, rfl⟩⟩
theorem Loc.fresh {key : Nat} {o : Op} {r : Operand → D} {d : D} {c : Nat} {tk : Option Nat} {ob : Ob} (hs : s' = s.put key ob) (hc : 2 ≤ c) (h : ∀ t : St, evalOp E T key o r t = some (d, t.put key ob)) :
    Loc E T key o r s d s' c tk [] (some (key, ob)) :=
  ⟨hs, fun t _ => h t, (fun k hk => by cases hk), (fun k hk => by cases hk), (fun k ob e => by cases e; exact .inl ⟨rfl, hc⟩), (fun k hk => by cases hk), fun h0 => by omega⟩
theorem keep_go {d : Option D} {d' : D} (h : keep s d = some (d', s')) : s' = s ∧ ∀ t : St, keep t d = some (d', t) := by
  obtain ⟨rfl, hs⟩ := keep_eq h
  exact ⟨hs, fun t => rfl⟩

theorem listOf_loc {d : D} {m : Nat} {ys : List Pd} (h : listOf s d = some (m, ys)) :
    (∀ t : St, listOf t d = some (m, ys)) ∨ ∃ r off n es cs fz, d = .v (.c (.mt r off n es)) ∧ s.get r = some (.cells cs fz) ∧ ∀ t : St, t.get r = s.get r → listOf t d = some (m, ys) := by
  unfold listOf at h
  split at h
  · exact .inl fun t => by unfold listOf; exact h
  · exact .inl fun t => by unfold listOf; exact h
  · exact .inl fun t => by unfold listOf; exact h
  · rename_i r off n es
    split at h
    · rename_i cs fz hc
      exact .inr ⟨r, off, n, es, cs, fz, rfl, hc, fun t ht => by unfold listOf; simp only; rw [ht, hc]; exact h⟩
    · cases h
  · cases h

theorem srcD_loc {u : Nat} {d : D} {m : Nat} {ys : List Pd} (h : srcD E u s d = some (m, ys)) :
    (∀ t : St, srcD E u t d = some (m, ys)) ∨ ∃ r off n es cs fz, d = .v (.c (.mt r off n es)) ∧ s.get r = some (.cells cs fz) ∧ ∀ t : St, t.get r = s.get r → srcD E u t d = some (m, ys) := by
  unfold srcD at h
  split at h
  · rename_i iu hiu
    split at h
    · rename_i b hk
      exact .inl fun t => by unfold srcD; simp only [hiu, hk]; exact h
    · rename_i e hk
      rcases listOf_loc h with h | ⟨r, off, n, es, cs, fz, h1, h2, h3⟩
      · exact .inl fun t => by unfold srcD; simp only [hiu, hk]; exact h t
      · exact .inr ⟨r, off, n, es, cs, fz, h1, h2, fun t ht => by unfold srcD; simp only [hiu, hk]; exact h3 t ht⟩
    · cases h
  · cases h

theorem appendD_loc {key : Nat} {ts : List Nat} {x y : Operand} {r : Operand → D} {d : D} {c : Call} (hc : c.callee = .builtin .append) (hargs : c.args = #[x, y]) (h : appendD E key ts (r x) (r y) s = some (d, s')) (hts : c.argTypes.toList = ts) :
    ∃ RK w, Loc E T key (.call c) r s d s' 3 (touch (.call c) r) RK w := by
  have hev : ∀ t : St, evalOp E T key (.call c) r t = appendD E key ts (r x) (r y) t := fun t => by simp [evalOp, hc, hargs, builtinD, hts]
  have htk : touch (.call c) r = match r y with
      | .v (.c (.mt k _ _ _)) => some k
      | _ => none := by simp [touch, hargs]; rfl
  have hmy : y ∈ (Op.call c).operands.toList := by simp [Op.operands, Call.operands, hc, hargs]
  have hmx : x ∈ (Op.call c).operands.toList := by simp [Op.operands, Call.operands, hc, hargs]
  unfold appendD at h
  split at h
  · rename_i t u
    split at h
    · rename_i size agg by_ z0 e eq hti
      split at h
      · rename_i ie hie
        split at h
        · cases h
        · rename_i m ys hsrc
          split at h
          · rename_i hlen
            -- what the source looks at
            obtain ⟨R1, hR1, hm1, hrk1⟩ : ∃ R1 : List Nat, (∀ t : St, (∀ k ∈ R1, t.get k = s.get k) → srcD E u t (r y) = some (m, ys)) ∧ (∀ k ∈ R1, ∃ x ∈ (Op.call c).operands.toList, Ment (r x) k) ∧
                (∀ k ∈ R1, ∃ cs fz, s.get k = some (.cells cs fz) ∧ touch (.call c) r = some k) := by
              rcases srcD_loc hsrc with h1 | ⟨q, off, n, es, cs, fz, h1, h2, h3⟩
              · exact ⟨[], fun t _ => h1 t, fun k hk => (by cases hk), fun k hk => (by cases hk)⟩
              · refine ⟨[q], fun t ht => h3 t (ht q (by simp)), fun k hk => ?_, fun k hk => ?_⟩
                · simp at hk; subst hk; exact ⟨y, hmy, .inr (.inl ⟨off, n, es, h1⟩)⟩
                · simp at hk; subst hk; exact ⟨cs, fz, h2, by rw [htk, h1]⟩
            split at h
            · rename_i hm
              refine ⟨R1, none, ?_, fun t ht => ?_, hm1, fun k hk => ?_, (fun k ob e => by cases e), (fun k hk es n tg hf => by obtain ⟨cs, fz, h1, _⟩ := hrk1 k hk; rw [h1] at hf; cases hf), fun h0 => by cases h0⟩
              · split at h <;> cases h <;> rfl
              · rw [hev]; unfold appendD; simp only [hti, hie, hR1 t ht, hlen, if_true, hm]
                split at h <;> cases h <;> rfl
              · obtain ⟨cs, fz, h1, h2⟩ := hrk1 k hk; exact .inl ⟨_, h1, rfl, h2, by omega⟩
            · rename_i hm
              split at h
              · rename_i hx
                split at h
                · rename_i hcond
                  cases h
                  refine ⟨R1, some (key, .front ie.size m e), rfl, fun t ht => ?_, hm1, fun k hk => ?_, (fun k ob e => by cases e; exact .inl ⟨rfl, by omega⟩), (fun k hk es n tg hf => by obtain ⟨cs, fz, h1, _⟩ := hrk1 k hk; rw [h1] at hf; cases hf), fun h0 => by cases h0⟩
                  · rw [hev]; unfold appendD; simp only [hti, hie, hR1 t ht, hlen, if_true, hm, if_false, hx, hcond]; rfl
                  · obtain ⟨cs, fz, h1, h2⟩ := hrk1 k hk; exact .inl ⟨_, h1, rfl, h2, by omega⟩
                · cases h
              · rename_i n cs id hx
                split at h
                · rename_i es n' tg hid
                  split at h
                  · rename_i hcond
                    cases h
                    refine ⟨id :: R1, some (id, .front es (n + m) (if tg = e then e else 0)), rfl, fun t ht => ?_, fun k hk => ?_, fun k hk => ?_, fun k ob e => ?_, fun k hk es2 n2 tg2 hf => ?_, fun h0 => by cases h0⟩
                    · rw [hev]; unfold appendD
                      have hid' : t.get id = some (.front es n' tg) := by rw [ht id (by simp)]; exact hid
                      simp only [hti, hie, hR1 t (fun k hk => ht k (List.mem_cons_of_mem _ hk)), hlen, if_true, hm, if_false, hx, hid', hcond]
                      rfl
                    · rcases List.mem_cons.1 hk with rfl | hk
                      · exact ⟨x, hmx, .inr (.inr ⟨n, cs, hx⟩)⟩
                      · exact hm1 k hk
                    · rcases List.mem_cons.1 hk with rfl | hk
                      · exact .inr ⟨es, n, tg, by rw [hid, hcond.1], rfl, cs, x, hmx, hx⟩
                      · obtain ⟨cs, fz, h1, h2⟩ := hrk1 k hk; exact .inl ⟨_, h1, rfl, h2, by omega⟩
                    · cases e
                      exact .inr (.inl ⟨rfl, by simp, es, n, n + m, tg, _, by rw [hid, hcond.1], rfl, by omega⟩)
                    · rcases List.mem_cons.1 hk with rfl | hk
                      · exact ⟨_, rfl⟩
                      · obtain ⟨cs, fz, h1, _⟩ := hrk1 k hk; rw [h1] at hf; cases hf
                  · cases h
                · cases h
              · cases h
          · cases h
      · cases h
    · cases h
  · cases h

theorem vs_plain : ∀ {ds : List D} {vs : List V}, vs? ds = some vs → ds.all plainD = true → ∀ v ∈ vs, plainV v = true
  | [], vs, h, _, v, hv => by simp only [vs?] at h; cases h; cases hv
  | d :: r, vs, h, hp, v, hv => by
    simp only [vs?] at h
    simp only [List.all_cons, Bool.and_eq_true] at hp
    split at h
    · rename_i c cs hc hcs
      cases h
      rcases List.mem_cons.1 hv with rfl | hv
      · have h1 := hp.1
        unfold D.v? at hc
        split at hc
        · cases hc; exact h1
        · cases hc
      · exact vs_plain hcs hp.2 v hv
    · cases h

theorem op_local (hT : CallsPlain T E) {key : Nat} {o : Op} {r : Operand → D} {d : D} (h : evalOp E T key o r s = some (d, s')) (hc : clsOf E o r ≤ 4) : ∃ RK w, Loc E T key o r s d s' (clsOf E o r) (touch o r) RK w := by
  have pure : s' = s → (∀ t : St, evalOp E T key o r t = some (d, t)) → ∃ RK w, Loc E T key o r s d s' (clsOf E o r) (touch o r) RK w := fun hs hg => ⟨[], none, Loc.pure hs hg⟩
  have kp : ∀ {x : Option D}, (∀ t : St, evalOp E T key o r t = keep t x) → ∃ RK w, Loc E T key o r s d s' (clsOf E o r) (touch o r) RK w := fun {x} hx => by
    rw [hx s] at h
    obtain ⟨h1, h2⟩ := keep_go h
    exact pure h1 fun t => by rw [hx t]; exact h2 t
  cases o with
  | move x => simp only [evalOp] at h; cases h; exact pure rfl fun t => rfl
  | assign x => simp only [evalOp] at h; cases h; exact pure rfl fun t => rfl
  | pick c a b =>
    simp only [evalOp] at h
    split at h
    · rename_i b' hb; cases h; exact pure rfl fun t => by simp only [evalOp, hb]
    · cases h
  | alloc ty =>
    simp only [evalOp] at h
    split at h
    · rename_i size agg by_ z kn eq hti; cases h; exact ⟨_, _, Loc.fresh rfl (by simp [clsOf]) fun t => by simp only [evalOp, hti]⟩
    · cases h
  | box ty x =>
    simp only [evalOp] at h
    split at h
    · rename_i v hv; cases h; exact ⟨_, _, Loc.fresh rfl (by simp [clsOf]) fun t => by simp only [evalOp, hv]⟩
    · cases h
  | build ty ps => exact kp (x := buildD E ty (ps.toList.map fun (i, x) => (i, r x))) fun t => rfl
  | buildSlice ty n ps =>
    simp only [evalOp] at h
    have h' := h
    unfold buildSliceD at h
    split at h
    · rename_i size agg by_ z0 e eq hti
      split at h
      · rename_i sz ag2 by2 z kn2 eq2 hie
        split at h
        · cases h
        · rename_i hcond
          split at h
          · rename_i cs hcs
            split at h
            · rename_i qs hqs
              cases h
              refine ⟨_, _, Loc.fresh rfl (by simp [clsOf]) fun t => ?_⟩
              simp only [evalOp, buildSliceD, hti, hie, if_neg hcond, hcs, hqs]
            · cases h
          · cases h
      · cases h
    · cases h
  | load ty a =>
    simp only [evalOp] at h
    split at h
    · rename_i i cs hti hcs
      split at h
      · rename_i v hv
        cases h
        unfold cellsAt at hcs
        split at hcs
        · rename_i k off hka
          split at hcs
          · rename_i os fz ho
            refine ⟨[k], none, rfl, fun t ht => ?_, fun k' hk' => ?_, fun k' hk' => ?_, (fun k ob e => by cases e), (fun k' hk' es n tg hf => by simp at hk'; subst hk'; rw [ho] at hf; cases hf), fun h0 => by simp [clsOf] at h0⟩
            · have : t.get k = some (.cells os fz) := by rw [ht k (by simp)]; exact ho
              simp only [evalOp, hti, cellsAt, hka, this, hcs, hv]
              rfl
            · simp at hk'; subst hk'; exact ⟨a, by simp [Op.operands], .inl ⟨off, hka⟩⟩
            · simp at hk'; subst hk'; exact .inl ⟨_, ho, rfl, by simp [touch, hka], by simp [clsOf]⟩
          · rename_i u os ho
            refine ⟨[k], none, rfl, fun t ht => ?_, fun k' hk' => ?_, fun k' hk' => ?_, (fun k ob e => by cases e), (fun k' hk' es n tg hf => by simp at hk'; subst hk'; rw [ho] at hf; cases hf), fun h0 => by simp [clsOf] at h0⟩
            · have : t.get k = some (.tc u os) := by rw [ht k (by simp)]; exact ho
              simp only [evalOp, hti, cellsAt, hka, this, hcs, hv]
              rfl
            · simp at hk'; subst hk'; exact ⟨a, by simp [Op.operands], .inl ⟨off, hka⟩⟩
            · simp at hk'; subst hk'; exact .inl ⟨_, ho, rfl, by simp [touch, hka], by simp [clsOf]⟩
          · cases hcs
        · rename_i cs' off hka
          exact pure rfl fun t => by simp only [evalOp, hti, cellsAt, hka, hcs, hv]
        · cases hcs
      · cases h
    · cases h
  | store ty a x =>
    simp only [evalOp] at h
    split at h
    · rename_i k off v i hka hv hti
      split at h
      · rename_i cs hget
        split at h
        · rename_i hcond
          cases h
          refine ⟨[k], some (k, .cells (setR cs off (cellsV v)) false), rfl, fun t ht => ?_, fun k' hk' => ?_, fun k' hk' => ?_, (fun k' ob e => ?_), (fun k' hk' es n tg hf => by simp at hk'; subst hk'; rw [hget] at hf; cases hf), fun h0 => by simp [clsOf] at h0⟩
          · have : t.get k = some (.cells cs false) := by rw [ht k (by simp)]; exact hget
            simp only [evalOp, hka, hv, hti, this, if_pos hcond]
            rfl
          · simp at hk'; subst hk'; exact ⟨a, by simp [Op.operands], .inl ⟨off, hka⟩⟩
          · simp at hk'; subst hk'; exact .inl ⟨_, hget, rfl, by simp [touch, hka], by simp [clsOf]⟩
          · cases e; exact .inr (.inr ⟨rfl, by simp [touch, hka], by simp, ⟨_, hget, rfl⟩, rfl⟩)
        · cases h
      · rename_i u cs hget
        split at h
        · rename_i hcond
          cases h
          refine ⟨[k], some (k, .tc u (setR cs off (cellsV v))), rfl, fun t ht => ?_, fun k' hk' => ?_, fun k' hk' => ?_, (fun k' ob e => ?_), (fun k' hk' es n tg hf => by simp at hk'; subst hk'; rw [hget] at hf; cases hf), fun h0 => by simp [clsOf] at h0⟩
          · have : t.get k = some (.tc u cs) := by rw [ht k (by simp)]; exact hget
            simp only [evalOp, hka, hv, hti, this, if_pos hcond]
            rfl
          · simp at hk'; subst hk'; exact ⟨a, by simp [Op.operands], .inl ⟨off, hka⟩⟩
          · simp at hk'; subst hk'; exact .inl ⟨_, hget, rfl, by simp [touch, hka], by simp [clsOf]⟩
          · cases e; exact .inr (.inr ⟨rfl, by simp [touch, hka], by simp, ⟨_, hget, rfl⟩, rfl⟩)
        · cases h
      · cases h
    · cases h
  | nilCheck x =>
    simp only [evalOp] at h
    split at h
    · rename_i k off hx; cases h; exact pure rfl fun t => by simp only [evalOp, hx]
    · rename_i k off hx; cases h; exact pure rfl fun t => by simp only [evalOp, hx]
    · cases h
  | binOp op ty x y yt => exact kp (x := binD E op ty (r x) (r y)) fun t => rfl
  | unOp op ty x => exact kp (x := unD op (r x)) fun t => rfl
  | convert a b x =>
    simp only [evalOp] at h
    have h' := h
    unfold convD at h
    split at h
    · rename_i ia ib hia hib
      split at h
      · rename_i k1 n hkb hx
        cases h
        exact pure rfl fun t => by simp only [evalOp, convD, hia, hib, hkb, hx]
      · rename_i tt hka hkb hx
        cases h
        exact pure rfl fun t => by simp only [evalOp, convD, hia, hib, hka, hkb, hx]
      · rename_i e hka hkb
        split at h
        · rename_i sz ag by_ z eq hie
          split at h
          · rename_i n cs hl
            split at h
            · rename_i tt htt
              split at h
              · rename_i hlen
                cases h
                rcases listOf_loc hl with hl | ⟨q, off, n', es, cs', fz, h1, h2, h3⟩
                · exact pure rfl fun t => by simp only [evalOp, convD, hia, hib, hka, hkb, hie, hl t, htt, hlen, if_true]
                · have hcl : clsOf E (.convert a b x) r = 1 := by simp [clsOf, hib, hkb]
                  refine ⟨[q], none, rfl, fun t ht => ?_, fun k' hk' => ?_, fun k' hk' => ?_, (fun k ob e => by cases e), (fun k' hk' es n tg hf => by simp at hk'; subst hk'; rw [h2] at hf; cases hf), fun h0 => by omega⟩
                  · simp only [evalOp, convD, hia, hib, hka, hkb, hie, h3 t (ht q (by simp)), htt, hlen, if_true]; rfl
                  · simp at hk'; subst hk'; exact ⟨x, by simp [Op.operands], .inr (.inl ⟨off, n', es, h1⟩)⟩
                  · simp at hk'; subst hk'; exact .inl ⟨_, h2, rfl, by simp [touch, h1], by omega⟩
              · cases h
            · cases h
          · cases h
        · cases h
      · rename_i e tt hka hkb hx
        split at h
        · rename_i ag by_ z eq hie
          cases h
          exact ⟨_, _, Loc.fresh rfl (by simp [clsOf, hib, hkb]) fun t => by simp only [evalOp, convD, hia, hib, hka, hkb, hx, hie]⟩
        · cases h
      · cases h
    · cases h
  | makeFunc f fs cap =>
    simp only [evalOp] at h
    split at h
    · rename_i a b h1 h2
      split at h
      · cases h; exact pure rfl fun t => by simp only [evalOp, h1, h2]
      · rename_i hne; cases h
        refine pure rfl fun t => ?_
        simp only [evalOp, h1, h2]
      · cases h
    · cases h
  | makeSlice ty l c =>
    simp only [evalOp] at h
    unfold makeSliceD at h
    split at h
    · rename_i size agg by_ z0 e eq kl l' kc c' hti hl' hc'
      split at h
      · rename_i sz ag2 by2 z kn2 eq2 hie
        split at h
        · rename_i hcond
          split at h
          · rename_i h0
            cases h
            exact ⟨_, _, Loc.fresh rfl (by simp [clsOf]) fun t => by simp only [evalOp, makeSliceD, hti, hl', hc', hie, if_pos hcond, if_pos h0]⟩
          · rename_i h0
            cases h
            exact ⟨_, _, Loc.fresh rfl (by simp [clsOf]) fun t => by simp only [evalOp, makeSliceD, hti, hl', hc', hie, if_pos hcond, if_neg h0]⟩
        · cases h
      · cases h
    · cases h
  | slice ty x lo hi mx => exact kp (x := sliceD E ty (r x) (lo.map r) (hi.map r) (mx.map r)) fun t => rfl
  | fieldAddr ty x f => exact kp (x := fieldAddrD E ty (r x) f) fun t => rfl
  | field ty x f => exact kp (x := fieldD E ty (r x) f) fun t => rfl
  | indexAddr ty x i => exact kp (x := indexAddrD E ty (r x) (r i)) fun t => rfl
  | index ty x i => exact kp (x := indexD E ty (r x) (r i)) fun t => rfl
  | extract x i =>
    simp only [evalOp] at h
    split at h
    · rename_i vs hx
      split at h
      · rename_i v hv; cases h; exact pure rfl fun t => by simp only [evalOp, hx, hv]
      · cases h
    · cases h
  | call c =>
    cases hcc : c.callee with
    | invoke a b => simp [evalOp, hcc] at h
    | builtin b =>
      have hev : ∀ t : St, evalOp E T key (.call c) r t = builtinD E key b c.argTypes.toList (c.args.toList.map r) t := fun t => by simp [evalOp, hcc]
      rw [hev] at h
      unfold builtinD at h
      split at h
      · rename_i x hx
        split at h
        · rename_i t0 r0 hts
          split at h
          · rename_i dd hd; cases h; exact pure rfl fun t => by rw [hev]; simp only [builtinD, hx, hts, hd]
          · cases h
        · cases h
      · rename_i x y hx
        obtain ⟨u, v, hargs, rfl, rfl⟩ := map2 hx
        have hcl : clsOf E (.call c) r = 3 := by simp [clsOf, hcc]
        rw [hcl]
        exact appendD_loc hcc hargs h rfl
      · rename_i k n r0 hx
        split at h
        · rename_i dd hd; cases h; exact pure rfl fun t => by rw [hev]; simp only [builtinD, hx, hd]
        · cases h
      · rename_i k n r0 hx
        split at h
        · rename_i dd hd; cases h; exact pure rfl fun t => by rw [hev]; simp only [builtinD, hx, hd]
        · cases h
      · cases h
    | value f =>
      have hev : ∀ t : St, evalOp E T key (.call c) r t = callD T (r f) (c.args.toList.map r) t := fun t => by simp [evalOp, hcc]
      have hcl : ∃ g, r f = .v (.c (.p (.fnc g))) ∧ E.opn g = false ∧ E.xt g = none ∧ (c.args.toList.map r).all plainD = true := by
        simp only [clsOf, hcc] at hc
        split at hc
        · rename_i g hg
          split at hc
          · rename_i hcond
            simp only [Bool.and_eq_true, Bool.not_eq_true', Option.isNone_iff_eq_none] at hcond
            exact ⟨g, hg, hcond.1.1, hcond.1.2, hcond.2⟩
          · omega
        · omega
      obtain ⟨g, hg, h1, h2, h3⟩ := hcl
      rw [hev] at h
      unfold callD at h
      rw [hg] at h
      cases hvs : vs? (c.args.toList.map r) with
      | none => rw [hvs] at h; cases h
      | some as =>
        rw [hvs] at h
        obtain ⟨h4, h5⟩ := hT.plain g as s d s' h1 h2 (vs_plain hvs h3) h
        exact pure h4 fun t => by rw [hev]; unfold callD; rw [hg, hvs]; exact h5 t
  | _ => simp [evalOp] at h
end
end Go.Proofs.YtafaoldmemcigaaGreat.Ab
/- An evaluator of the model's code with slices as pure lists: a region whose order is open comes to the same in every order. -/
namespace Go.Proofs.YtafaoldmemcigaaGreat.Ab
open Go.RowKit
set_option linter.unusedVariables false
set_option linter.unusedSimpArgs false

section
variable {X : Ctx} {G G' : Gh} {s s' s1 s2 t : St} {W W' : World} {P : Program} {E : Env} {T : CallT} {ops : Array Oper} {base : Nat}

theorem evalOp_congr {key : Nat} {o : Op} {r r' : Operand → D} (h : ∀ x ∈ o.operands.toList, r x = r' x) :
    evalOp E T key o r s = evalOp E T key o r' s ∧ clsOf E o r = clsOf E o r' ∧ touch o r = touch o r' := by
  have pairs : ∀ ps : List (Nat × Operand), (∀ x ∈ ps.map (·.2), r x = r' x) → (ps.map fun (i, x) => (i, r x)) = (ps.map fun (i, x) => (i, r' x)) := fun ps hp =>
    List.map_congr_left fun p hm => by
      obtain ⟨i, x⟩ := p
      simp only [hp x (List.mem_map.2 ⟨(i, x), hm, rfl⟩)]
  have many : ∀ l : List Operand, (∀ x ∈ l, r x = r' x) → l.map r = l.map r' := fun l hl => List.map_congr_left hl
  cases o <;> simp only [Op.operands] at h <;> simp only [evalOp, clsOf, touch]
  case build ty ps => rw [pairs ps.toList fun x hx => h x (by simpa using hx)]; exact ⟨rfl, trivial, trivial⟩
  case buildSlice ty n ps => rw [pairs ps.toList fun x hx => h x (by simpa using hx)]; exact ⟨rfl, trivial, trivial⟩
  case makeFunc f fs cap =>
    rw [many fs.toList fun x hx => h x (by simp at hx ⊢; exact .inl hx), many cap.toList fun x hx => h x (by simp at hx ⊢; exact .inr hx)]
    exact ⟨rfl, trivial, trivial⟩
  case slice ty x lo hi mx =>
    have hx := h x (by simp)
    have e1 : lo.map r = lo.map r' := by cases lo with
      | none => rfl
      | some y => simp [h y (by simp)]
    have e2 : hi.map r = hi.map r' := by cases hi with
      | none => rfl
      | some y => simp [h y (by simp)]
    have e3 : mx.map r = mx.map r' := by cases mx with
      | none => rfl
      | some y => simp [h y (by simp)]
    rw [hx, e1, e2, e3]; exact ⟨rfl, trivial, trivial⟩
  case call c =>
    obtain ⟨callee, args, at_⟩ := c
    have ha : args.toList.map r = args.toList.map r' := many _ fun x hx => h x (by simp [Call.operands]; exact .inr (by simpa using hx))
    cases callee with
    | builtin b => exact ⟨by simp only [ha], by cases b <;> rfl, by simp only [ha]⟩
    | value f =>
      have hf := h f (by simp [Call.operands])
      exact ⟨by simp only [ha, hf], by simp only [ha, hf], by simp only [ha]⟩
    | invoke f m => exact ⟨rfl, rfl, by simp only [ha]⟩
  all_goals
    first
      | exact ⟨rfl, trivial, trivial⟩
      | (simp_all; done)

def Agree (ops : Array Oper) (o : Oper) (e e' : List D) : Prop := ∀ x ∈ looks ops o, e.getD x .junk = e'.getD x .junk
theorem Agree.opd {o : Oper} {e e' : List D} (h : Agree ops o e e') : ∀ x ∈ o.op.operands.toList, opd e x = opd e' x := fun x hx => by
  cases x with
  | tmp t => exact h t (List.mem_append_left _ (List.mem_filterMap.2 ⟨_, hx, rfl⟩))
  | _ => rfl
theorem Agree.wanted {o : Oper} {e e' : List D} (h : Agree ops o e e') : wantedD ops o e = wantedD ops o e' := by
  unfold wantedD
  cases hg : o.guard with
  | none => rfl
  | some jw =>
    obtain ⟨j, w⟩ := jw
    simp only
    cases ho : ops[j]? with
    | none => rfl
    | some oj =>
      simp only
      cases ht : oj.dst with
      | none => rfl
      | some t =>
        have : t ∈ looks ops o := List.mem_append_right _ (by simp [hg, ho, ht])
        simp only [h t this]
theorem Agree.symm {o : Oper} {e e' : List D} (h : Agree ops o e e') : Agree ops o e' e := fun x hx => (h x hx).symm
theorem Agree.put {o : Oper} {e : List D} {dst : Option Nat} (d : D) (h : ∀ t, dst = some t → t ∉ looks ops o) : Agree ops o e (putD e dst d) := fun x hx => by
  cases dst with
  | none => rfl
  | some t =>
    have hne : t ≠ x := fun e => h t rfl (e ▸ hx)
    simp [putD, List.getD, List.getElem?_set_ne hne]
theorem Agree.tr {i : Nat} {o : Oper} (ho : ops[i]? = some o) {e e' : List D} (h : Agree ops o e e') : trOf E ops i e = trOf E ops i e' := by
  unfold trOf
  rw [ho]
  simp only [h.wanted]
  obtain ⟨_, h2, h3⟩ := evalOp_congr (E := E) (T := fun _ _ _ => none) (key := 0) (s := { ob := [], nx := 0 }) h.opd
  rw [h2, h3]

/-- One operation, and what it hangs on. -/
theorem step_congr {i : Nat} {o : Oper} (ho : ops[i]? = some o) {e e1 : List D} (h : stepOp E T ops base i e s = some (e1, s1)) :
    ∃ d, e1 = putD e o.dst d ∧ ∀ e', Agree ops o e e' → stepOp E T ops base i e' s = some (putD e' o.dst d, s1) := by
  unfold stepOp at h
  simp only [ho] at h
  split at h
  · cases h
  · rename_i hw
    cases h
    refine ⟨_, rfl, fun e' he' => ?_⟩
    unfold stepOp
    simp only [ho, ← he'.wanted, hw]
  · rename_i hw
    split at h
    · cases h
    · rename_i d sx hev
      cases h
      refine ⟨d, rfl, fun e' he' => ?_⟩
      unfold stepOp
      simp only [ho, ← he'.wanted, hw]
      rw [← (evalOp_congr (E := E) (T := T) (key := base + i) (s := s) he'.opd).1, hev]

structure SLoc (E : Env) (T : CallT) (ops : Array Oper) (base i : Nat) (o : Oper) (e : List D) (s : St) (d : D) (s1 : St) (RK : List Nat) (w : Option (Nat × Ob)) : Prop where
  res : s1 = putO s w
  go : ∀ e' (t : St), Agree ops o e e' → (∀ k ∈ RK, t.get k = s.get k) → stepOp E T ops base i e' t = some (putD e' o.dst d, putO t w)
  ment : ∀ k ∈ RK, ∃ x ∈ o.op.operands.toList, Ment (opd e x) k
  rk : ∀ k ∈ RK, (∃ ob, s.get k = some ob ∧ ob.isFront = false ∧ (trOf E ops i e).key = some k ∧ 1 ≤ (trOf E ops i e).cls) ∨
    (∃ es n tg, s.get k = some (.front es n tg) ∧ (trOf E ops i e).cls = 3 ∧ ∃ cs, ∃ x ∈ o.op.operands.toList, opd e x = .v (.c (.own n cs k)))
  wk : ∀ k ob, w = some (k, ob) → (k = base + i ∧ 2 ≤ (trOf E ops i e).cls) ∨ ((trOf E ops i e).cls = 3 ∧ k ∈ RK ∧ ∃ es n n' tg tg', s.get k = some (.front es n tg) ∧ ob = .front es n' tg' ∧ n < n') ∨
    ((trOf E ops i e).cls = 4 ∧ (trOf E ops i e).key = some k ∧ k ∈ RK ∧ (∃ o, s.get k = some o ∧ o.isFront = false) ∧ ob.isFront = false)
  fw : ∀ k ∈ RK, ∀ es n tg, s.get k = some (.front es n tg) → ∃ ob, w = some (k, ob)
  zero : (trOf E ops i e).cls = 0 → RK = [] ∧ w = none

theorem step_local (hT : CallsPlain T E) {i : Nat} {o : Oper} (ho : ops[i]? = some o) {e e1 : List D} (h : stepOp E T ops base i e s = some (e1, s1)) (hc : (trOf E ops i e).cls ≤ 4) :
    ∃ d RK w, e1 = putD e o.dst d ∧ SLoc E T ops base i o e s d s1 RK w := by
  unfold stepOp at h
  simp only [ho] at h
  split at h
  · cases h
  · rename_i hw
    cases h
    refine ⟨_, [], none, rfl, rfl, fun e' t he' _ => ?_, (fun k hk => by cases hk), (fun k hk => by cases hk), (fun k ob e => by cases e), (fun k hk => by cases hk), fun _ => ⟨rfl, rfl⟩⟩
    unfold stepOp
    simp only [ho, ← he'.wanted, hw]
    rfl
  · rename_i hw
    split at h
    · cases h
    · rename_i d sx hev
      cases h
      have htr : trOf E ops i e = { i := i, cls := clsOf E o.op (opd e), key := touch o.op (opd e) } := by unfold trOf; simp only [ho, hw]
      rw [htr] at hc
      obtain ⟨RK, w, hl⟩ := op_local hT hev hc
      refine ⟨d, RK, w, rfl, hl.res, fun e' t he' ht => ?_, hl.ment, by rw [htr]; exact hl.rk, by rw [htr]; exact hl.wk, hl.fw, by rw [htr]; exact hl.zero⟩
      unfold stepOp
      simp only [ho, ← he'.wanted, hw]
      rw [← (evalOp_congr (E := E) (T := T) (key := base + i) (s := t) he'.opd).1, hl.go t ht]

theorem get_putO_ne {w : Option (Nat × Ob)} {k : Nat} (h : ∀ ob, w ≠ some (k, ob)) : (putO s w).get k = s.get k := by
  cases w with
  | none => rfl
  | some x =>
    obtain ⟨j, ob⟩ := x
    simp only [putO, St.get_put]
    rw [if_neg]
    rintro rfl
    exact h ob rfl
theorem putO_comm {w w' : Option (Nat × Ob)} (h : ∀ k ob ob', w = some (k, ob) → w' ≠ some (k, ob')) : putO (putO s w) w' = putO (putO s w') w := by
  cases w with
  | none => rfl
  | some x => cases w' with
    | none => rfl
    | some y =>
      obtain ⟨k, ob⟩ := x
      obtain ⟨j, ob'⟩ := y
      simp only [putO]
      exact St.put_comm s (fun e => h k ob ob' rfl (by rw [e])) _ _
theorem putD_comm (e : List D) {a b : Option Nat} (h : ∀ t, a = some t → b ≠ some t) (x y : D) : putD (putD e a x) b y = putD (putD e b y) a x := by
  cases a with
  | none => rfl
  | some s => cases b with
    | none => rfl
    | some t =>
      simp only [putD]
      exact List.set_comm _ _ (fun e => h s rfl (by rw [e]))

theorem apartD_spec {x y : Oper} (h : apartD ops x y = true) : (∀ d, x.dst = some d → d ∉ looks ops y) ∧ (∀ d, x.dst = some d → y.dst ≠ some d) ∧ (∀ d, y.dst = some d → d ∉ looks ops x) := by
  refine ⟨fun d hd => ?_, fun d hd => ?_, fun d hd => ?_⟩ <;> simp [apartD, hd] at h
  · exact h.1.1
  · exact h.1.2
  · exact h.2

/-- The places that an operation's operands name are there, and what a slice owns is no more than its row's. -/
def Wf (o : Oper) (e : List D) (s : St) : Prop := ∀ x ∈ o.op.operands.toList, (∀ k, Ment (opd e x) k → s.has k) ∧ ∀ n cs k, opd e x = .v (.c (.own n cs k)) → ∀ es m tg, s.get k = some (.front es m tg) → n ≤ m

theorem swap_ok (hT : CallsPlain T E) {i j : Nat} (hij : i ≠ j) {oi oj : Oper} (hoi : ops[i]? = some oi) (hoj : ops[j]? = some oj) {e e1 e2 : List D} (hA : stepOp E T ops base i e s = some (e1, s1)) (hB : stepOp E T ops base j e1 s1 = some (e2, s2))
    (hap : apartD ops oi oj = true) (hfree : freeOK (trOf E ops i e) (trOf E ops j e1) = true) (hfi : s.get (base + i) = none) (hfj : s.get (base + j) = none) (hwf : (trOf E ops j e).cls ≠ 0 → Wf oj e s) :
    ∃ e1' s1', stepOp E T ops base j e s = some (e1', s1') ∧ stepOp E T ops base i e1' s1' = some (e2, s2) ∧ trOf E ops j e = trOf E ops j e1 ∧ trOf E ops i e1' = trOf E ops i e := by
  obtain ⟨ap1, ap2, ap3⟩ := apartD_spec hap
  obtain ⟨dA, rfl, cA⟩ := step_congr hoi hA
  obtain ⟨dB, rfl, cB⟩ := step_congr hoj hB
  have agB : Agree ops oj e (putD e oi.dst dA) := Agree.put dA ap1
  have agA : ∀ d, Agree ops oi e (putD e oj.dst d) := fun d => Agree.put d ap3
  have htr : trOf E ops j e = trOf E ops j (putD e oi.dst dA) := agB.tr hoj
  have hpc : ∀ d, putD (putD e oj.dst d) oi.dst dA = putD (putD e oi.dst dA) oj.dst d := fun d => (putD_comm e ap2 dA d).symm
  rw [← htr] at hfree
  by_cases a0 : (trOf E ops i e).cls = 0
  · -- the first looks at no memory
    obtain ⟨d', RK, w, he', hl⟩ := step_local hT hoi hA (by omega)
    obtain ⟨rfl, rfl⟩ := hl.zero a0
    have hs1 : s1 = s := hl.res
    subst hs1
    have hB' := cB e agB.symm
    refine ⟨_, s2, hB', ?_, htr, ((agA dB).tr hoi).symm⟩
    have h1 := hl.go (putD e oj.dst dB) s2 (agA dB) (fun k hk => by cases hk)
    have h2 := hl.go e s1 (fun _ _ => rfl) (fun k hk => by cases hk)
    rw [hA] at h2
    have hdd : putD e oi.dst dA = putD e oi.dst d' := by
      have := Option.some.inj h2
      exact congrArg Prod.fst this
    rw [h1]
    have : putD (putD e oj.dst dB) oi.dst d' = putD (putD e oi.dst d') oj.dst dB := (putD_comm e ap2 d' dB).symm
    rw [this, ← hdd]
    rfl
  · by_cases b0 : (trOf E ops j e).cls = 0
    · obtain ⟨d', RK, w, he', hl⟩ := step_local hT hoj hB (by rw [← htr]; omega)
      obtain ⟨rfl, rfl⟩ := hl.zero (by rw [← htr]; exact b0)
      have hs2 : s2 = s1 := hl.res
      subst hs2
      have hB' := hl.go e s agB.symm (fun k hk => by cases hk)
      refine ⟨_, s, hB', ?_, htr, ((agA d').tr hoi).symm⟩
      rw [cA _ (agA d')]
      rw [he', putD_comm e ap2 dA d']
    · have h4 : (trOf E ops i e).cls ≤ 4 ∧ (trOf E ops j e).cls ≤ 4 ∧ (((trOf E ops i e).cls ≤ 3 ∧ (trOf E ops j e).cls ≤ 3) ∨ keysOK (trOf E ops i e).key (trOf E ops j e).key = true) := by
        simp only [freeOK, Bool.or_eq_true, Bool.and_eq_true, beq_iff_eq, decide_eq_true_eq, a0, b0, false_or] at hfree
        rcases hfree with h | h
        · exact ⟨by omega, by omega, .inl h⟩
        · exact ⟨h.1.1, h.1.2, .inr h.2⟩
      obtain ⟨hA4, hB4, hkk⟩ := h4
      obtain ⟨dA', RA, wA, heA, lA⟩ := step_local hT hoi hA hA4
      obtain ⟨dB', RB, wB, heB, lB⟩ := step_local hT hoj hB (by rw [← htr]; exact hB4)
      have hwf := hwf b0
      have hs1 := lA.res
      subst hs1
      -- what the second looks at was there ahead of the first
      have hasB : ∀ k ∈ RB, s.has k := fun k hk => by
        obtain ⟨x, hx, hm⟩ := lB.ment k hk
        rw [← agB.opd x hx] at hm
        exact (hwf x hx).1 k hm
      have hasA : ∀ k ∈ RA, s.has k := fun k hk => by
        rcases lA.rk k hk with ⟨ob', h, _⟩ | ⟨es, n, tg, h, _⟩ <;> exact ⟨_, h⟩
      have neK : ∀ {k x : Nat}, s.has k → s.get x = none → k ≠ x := fun hk hx e => by subst e; obtain ⟨o, ho⟩ := hk; rw [hx] at ho; cases ho
      have key2 : ∀ {k : Nat}, (trOf E ops i e).key = some k → (trOf E ops j (putD e oi.dst dA)).key = some k → (trOf E ops i e).cls = 4 ∨ (trOf E ops j e).cls = 4 → False := fun h1 h2 h3 => by
        rw [← htr] at h2
        rcases hkk with hkk | hkk
        · omega
        · rw [h1, h2] at hkk; simp [keysOK] at hkk
      -- the first writes nothing that the second looks at
      have nAB : ∀ k ∈ RB, ∀ ob, wA ≠ some (k, ob) := fun k hk ob hw => by
        rcases lA.wk k ob hw with ⟨rfl, _⟩ | ⟨hc3, hkA, es, n, n', tg, tg', hf, rfl, hlt⟩ | ⟨hc4, htk, hkA, ⟨ob2, hcell, hnfc⟩, hstore⟩
        · exact neK (hasB _ hk) hfi rfl
        · have hg : (putO s wA).get k = some (.front es n' tg') := by rw [hw]; exact St.get_put_same _ _ _
          rcases lB.rk k hk with ⟨ob', h, hnf, _⟩ | ⟨es2, n2, tg2, h, _, cs, x, hx, hox⟩
          · rw [hg] at h; cases h; cases hnf
          · rw [hg] at h
            cases h
            rw [← agB.opd x hx] at hox
            have := (hwf x hx).2 _ _ _ hox _ _ _ hf
            omega
        · have hg : (putO s wA).get k = some ob := by rw [hw]; exact St.get_put_same _ _ _
          rcases lB.rk k hk with ⟨ob', h, _, htB, _⟩ | ⟨es2, n2, tg2, h, _, cs', x, hx, hox⟩
          · exact key2 htk htB (.inl hc4)
          · rw [hg] at h
            cases h
            cases hstore
      -- the second writes nothing that the first looks at
      have nBA : ∀ k ∈ RA, ∀ ob, wB ≠ some (k, ob) := fun k hk ob hw => by
        rcases lB.wk k ob hw with ⟨rfl, _⟩ | ⟨hc3, hkB, es, n, n', tg, tg', hf, rfl, hlt⟩ | ⟨hc4, htk, hkB, ⟨ob2, hcell, hnfc⟩, _⟩
        · exact neK (hasA _ hk) hfj rfl
        · have hsame := get_putO_ne (s := s) (nAB k hkB)
          rw [hsame] at hf
          rcases lA.rk k hk with ⟨ob', h, hnf, _⟩ | ⟨es2, n2, tg2, h, hcA3, cs, x, hx, hox⟩
          · rw [h] at hf; cases hf; cases hnf
          · -- both append to one row: the first has turned it
            obtain ⟨ob, hwa⟩ := lA.fw k hk _ _ _ h
            exact nAB k hkB ob hwa
        · have hsame := get_putO_ne (s := s) (nAB k hkB)
          rw [hsame] at hcell
          rcases lA.rk k hk with ⟨ob', h, _, htA, _⟩ | ⟨es2, n2, tg2, h, _⟩
          · exact key2 htA htk (.inr (by rw [htr]; exact hc4))
          · rw [h] at hcell; cases hcell; cases hnfc
      have nW : ∀ k ob ob', wA = some (k, ob) → wB ≠ some (k, ob') := fun k ob ob' h1 h2 => by
        rcases lB.wk k ob' h2 with ⟨rfl, _⟩ | ⟨_, hkB, _⟩ | ⟨_, _, hkB, _⟩
        · rcases lA.wk _ ob h1 with ⟨hx, _⟩ | ⟨_, hkA, _⟩ | ⟨_, _, hkA, _⟩
          · omega
          · exact neK (hasA _ hkA) hfj rfl
          · exact neK (hasA _ hkA) hfj rfl
        · exact nAB k hkB ob h1
        · exact nAB k hkB ob h1
      have gB := lB.go e s agB.symm (fun k hk => (get_putO_ne (nAB k hk)).symm)
      have gA := lA.go (putD e oj.dst dB') (putO s wB) (agA dB') (fun k hk => get_putO_ne (nBA k hk))
      refine ⟨_, _, gB, ?_, htr, ((agA dB').tr hoi).symm⟩
      rw [gA, putO_comm (fun k ob ob' h1 h2 => nW k ob' ob h2 h1), lB.res, heB, heA, putD_comm e ap2 dA' dB']
end
end Go.Proofs.YtafaoldmemcigaaGreat.Ab
/- An evaluator of the model's code with slices as pure lists: a region whose order is open is the machine's, in every order. -/
namespace Go.Proofs.YtafaoldmemcigaaGreat.Ab
open Go.RowKit
set_option linter.unusedVariables false
set_option linter.unusedSimpArgs false

section
variable {X : Ctx} {P : Program} {E : Env} {T : CallT} {ops : Array Oper} {base : Nat}

theorem trOf_i {i : Nat} {e : List D} : (trOf E ops i e).i = i := by
  unfold trOf
  split
  · split <;> rfl
  · rfl

theorem stepOp_some {i : Nat} {e e1 : List D} {s s1 : St} (h : stepOp E T ops base i e s = some (e1, s1)) : ∃ o, ops[i]? = some o := by
  unfold stepOp at h
  split at h
  · cases h
  · rename_i o ho; exact ⟨o, ho⟩

/-- The places stay there, and what is owned stays within its row, behind an operation apart. -/
theorem Wf.step (hT : CallsPlain T E) {p : Nat} {oi op : Oper} (hop : ops[p]? = some op) {e e1 : List D} {s s1 : St} (hw : Wf oi e s) (h : stepOp E T ops base p e s = some (e1, s1)) (hag : Agree ops oi e e1)
    (hc : (trOf E ops p e).cls ≤ 4) (hfp : s.get (base + p) = none) : Wf oi e1 s1 := by
  obtain ⟨d, RK, w, rfl, l⟩ := step_local hT hop h hc
  have hres := l.res
  have hhas : ∀ k, s.has k → s1.has k := fun k hk => by
    obtain ⟨o, ho⟩ := hk
    rw [hres]
    cases w with
    | none => exact ⟨o, ho⟩
    | some x =>
      obtain ⟨j, ob⟩ := x
      by_cases e : j = k
      · subst e; exact ⟨ob, St.get_put_same _ _ _⟩
      · exact ⟨o, by simp only [putO, St.get_put]; rw [if_neg e]; exact ho⟩
  intro x hx
  rw [← hag.opd x hx]
  obtain ⟨h1, h2⟩ := hw x hx
  refine ⟨fun k hk => hhas k (h1 k hk), fun n cs k hk es m tg hm => ?_⟩
  rw [hres] at hm
  cases w with
  | none => exact h2 n cs k hk es m tg hm
  | some y =>
    obtain ⟨j, ob⟩ := y
    simp only [putO, St.get_put] at hm
    by_cases e : j = k
    · subst e
      rw [if_pos rfl] at hm
      cases hm
      rcases l.wk j _ rfl with ⟨hx2, _⟩ | ⟨_, _, es', n1, n2, tg1, tg2, hf, he, hlt⟩ | ⟨_, _, _, _, hx2⟩
      · obtain ⟨o, ho⟩ := h1 j (.inr (.inr ⟨n, cs, hk⟩))
        rw [hx2, hfp] at ho; cases ho
      · cases he
        have := h2 n cs j hk _ _ _ hf
        omega
      · cases hx2
    · rw [if_neg e] at hm
      exact h2 n cs k hk es m tg hm

theorem front_ok (hT : CallsPlain T E) (hTf : CallsFree T) {i : Nat} {oi : Oper} (hoi : ops[i]? = some oi) : ∀ {pre post : List Nat} {e e' : List D} {s s' : St} {tr : List Tr}, runOpsD E T ops base (pre ++ i :: post) e s = some (e', s', tr) → trOK ops tr = true →
    (∀ p ∈ pre, p ≠ i ∧ hasEdge ops i p = false ∧ ∀ op, ops[p]? = some op → apartD ops op oi = true) → (pre ++ i :: post).Nodup → (∀ x ∈ pre ++ i :: post, base + x < s.nx ∧ s.get (base + x) = none) →
    ((trOf E ops i e).cls ≠ 0 → Wf oi e s) →
    ∃ e1 s1 tr', stepOp E T ops base i e s = some (e1, s1) ∧ runOpsD E T ops base (pre ++ post) e1 s1 = some (e', s', tr') ∧ trOK ops tr' = true ∧ (∀ x ∈ tr', x ∈ tr) ∧ trOf E ops i e ∈ tr
  | [], post, e, e', s, s', tr, h, htr, _, _, _, _ => by
    simp only [List.nil_append, runOpsD] at h
    split at h
    · cases h
    · rename_i e1 s1 hst
      split at h
      · cases h
      · rename_i e2 s2 t hrun
        cases h
        simp only [trOK, Bool.and_eq_true] at htr
        exact ⟨e1, s1, t, hst, hrun, htr.2, fun x hx => List.mem_cons_of_mem _ hx, List.mem_cons_self ..⟩
  | p :: pre, post, e, e', s, s', tr, h, htr, hpre, hnd, hfr, hwf => by
    simp only [List.cons_append, runOpsD] at h
    split at h
    · cases h
    · rename_i e1 s1 hst
      split at h
      · cases h
      · rename_i e2 s2 t hrun
        cases h
        simp only [trOK, Bool.and_eq_true] at htr
        obtain ⟨htr1, htr2⟩ := htr
        obtain ⟨op, hop⟩ := stepOp_some hst
        obtain ⟨hpi, hpe, hpa⟩ := hpre p (List.mem_cons_self ..)
        have hap := hpa op hop
        obtain ⟨a1, a2, a3⟩ := apartD_spec hap
        obtain ⟨d, hd, _⟩ := step_congr hop hst
        have hag : Agree ops oi e e1 := by rw [hd]; exact Agree.put d a1
        simp only [List.cons_append, List.nodup_cons] at hnd
        obtain ⟨hnx, hfree⟩ := step_free hTf hst
        have hfr' : ∀ x ∈ pre ++ i :: post, base + x < s1.nx ∧ s1.get (base + x) = none := fun x hx => by
          obtain ⟨h1, h2⟩ := hfr x (List.mem_cons_of_mem _ hx)
          refine ⟨Nat.lt_of_lt_of_le h1 hnx, hfree _ h1 (fun e => hnd.1 ?_) h2⟩
          have : x = p := by omega
          rw [← this]; exact hx
        obtain ⟨hfp1, hfp2⟩ := hfr p (by simp)
        obtain ⟨hfi1, hfi2⟩ := hfr i (by simp)
        have hfreeOK : trOf E ops i e1 ∈ t → freeOK (trOf E ops p e) (trOf E ops i e1) = true := fun hmem => by
          have := List.all_eq_true.1 htr1 _ hmem
          simp only [pairOK, Bool.or_eq_true, trOf_i, hpe, Bool.false_eq_true, or_false] at this
          exact this
        have hwf' : (trOf E ops i e1).cls ≠ 0 → trOf E ops i e1 ∈ t → Wf oi e1 s1 := fun h0 hmem => by
          have hf := hfreeOK hmem
          have hc : (trOf E ops p e).cls ≤ 4 := by
            simp only [freeOK, Bool.or_eq_true, Bool.and_eq_true, beq_iff_eq, decide_eq_true_eq] at hf
            omega
          refine Wf.step hT hop (hwf ?_) hst hag hc hfp2
          rw [hag.tr hoi]; exact h0
        -- that the operation's word lies among the rest's
        have hin : trOf E ops i e1 ∈ t := trOf_mem hT hTf hoi hrun (fun q hq => (hpre q (List.mem_cons_of_mem _ hq)).2.2)
        obtain ⟨e3, s3, tr3, h3, h4, h5, h6, h7⟩ := front_ok hT hTf hoi hrun htr2 (fun q hq => hpre q (List.mem_cons_of_mem _ hq)) hnd.2 hfr' (fun h0 => hwf' h0 hin)
        obtain ⟨e1', s1', k1, k2, k3, k4⟩ := swap_ok hT hpi hop hoi hst h3 hap (hfreeOK hin) hfp2 hfi2 hwf
        refine ⟨e1', s1', trOf E ops p e :: tr3, k1, ?_, ?_, ?_, ?_⟩
        · simp only [List.cons_append, runOpsD, k2, h4, k4]
        · simp only [trOK, Bool.and_eq_true]
          exact ⟨List.all_eq_true.2 fun x hx => List.all_eq_true.1 htr1 x (h6 x hx), h5⟩
        · intro x hx
          rcases List.mem_cons.1 hx with rfl | hx
          · exact List.mem_cons_self ..
          · exact List.mem_cons_of_mem _ (h6 x hx)
        · rw [k3]; exact List.mem_cons_of_mem _ hin
where
  trOf_mem (hT : CallsPlain T E) (hTf : CallsFree T) {i : Nat} {oi : Oper} (hoi : ops[i]? = some oi) : ∀ {pre post : List Nat} {e e' : List D} {s s' : St} {tr : List Tr}, runOpsD E T ops base (pre ++ i :: post) e s = some (e', s', tr) →
      (∀ p ∈ pre, ∀ op, ops[p]? = some op → apartD ops op oi = true) → trOf E ops i e ∈ tr
    | [], post, e, e', s, s', tr, h, _ => by
      simp only [List.nil_append, runOpsD] at h
      split at h
      · cases h
      · split at h
        · cases h
        · cases h; exact List.mem_cons_self ..
    | p :: pre, post, e, e', s, s', tr, h, hpre => by
      simp only [List.cons_append, runOpsD] at h
      split at h
      · cases h
      · rename_i e1 s1 hst
        split at h
        · cases h
        · rename_i e2 s2 t hrun
          cases h
          obtain ⟨op, hop⟩ := stepOp_some hst
          obtain ⟨a1, _, _⟩ := apartD_spec (hpre p (List.mem_cons_self ..) op hop)
          obtain ⟨d, hd, _⟩ := step_congr hop hst
          have hag : Agree ops oi e e1 := by rw [hd]; exact Agree.put d a1
          rw [hag.tr hoi]
          exact List.mem_cons_of_mem _ (trOf_mem hT hTf hoi hrun (fun q hq => hpre q (List.mem_cons_of_mem _ hq)))

theorem wf_of_rel {G : Gh} {s : St} {W : World} {e : List D} {a : Act} (he : relDL G s W e a.tmps.toList) (o : Oper) : Wf o e s := fun x hx => by
  have hr := opd_rel he x
  refine ⟨fun k hk => ?_, fun n cs k hk es m tg hm => ?_⟩
  · rcases hk with ⟨off, h⟩ | ⟨off, n, es, h⟩ | ⟨n, cs, h⟩
    · rw [h] at hr; exact hr.1.has
    · rw [h] at hr; exact hr.1.has
    · rw [h] at hr; exact hr.2.1
  · rw [hk] at hr
    exact (hr.2.2 es m tg hm).1

def remOf (n : Nat) (listed : Array Bool) : List Nat := (List.range n).filter fun i => !listed.getD i true

theorem statOK_spec (h : statOK ops = true) {i : Nat} {oi : Oper} (hoi : ops[i]? = some oi) : (∀ e ∈ oi.after, Region.binds .any e = true → e.on < i) ∧ ∀ j, j < i → hasEdge ops i j = true ∨ ∀ oj, ops[j]? = some oj → apartD ops oj oi = true := by
  have hi : i < ops.size := (Array.getElem?_eq_some_iff.1 hoi).1
  have h1 := List.all_eq_true.1 h i (by simpa using hi)
  simp only [hoi, Bool.and_eq_true] at h1
  refine ⟨fun e he hb => ?_, fun j hj => ?_⟩
  · have := List.all_eq_true.1 h1.1 e (by simpa using he)
    simpa [hb] using this
  · have := List.all_eq_true.1 h1.2 j (by simpa using hj)
    simp only [Bool.or_eq_true] at this
    rcases this with h | h
    · exact .inl h
    · refine .inr fun oj ho => ?_
      rw [ho] at h; exact h

theorem any_ok {r : Option Nat} (hE : EnvTy P E) (hTc : CallsOK P E T) (hT : CallsPlain T E) (hTf : CallsFree T) (hst : statOK ops = true) {Q : Exit → Act → World → Prop} : ∀ (fuel : Nat) {listed : Array Bool} {G : Gh} {s s' : St} {W : World} {e e' : List D} {a : Act} {tr : List Tr},
    listed.size = ops.size → (remOf ops.size listed).length = fuel → Inv X G s W → relDL G s W e a.tmps.toList → (∀ x ∈ remOf ops.size listed, base + x < s.nx ∧ s.get (base + x) = none) →
    runOpsD E T ops base (remOf ops.size listed) e s = some (e', s', tr) → trOK ops tr = true →
    (∀ a' W' G', Inv X G' s' W' → Ext G s W G' s' W' → relDL G' s' W' e' a'.tmps.toList → a'.defers = a.defers → Q .normal a' W') → wpAnyIn (FW r) 0 P .any ops Q fuel listed a W
  | 0, listed, G, s, s', W, e, e', a, tr, hls, hlen, hI, he, hfr, h, htr, hQ => by
    have hnil := List.length_eq_zero_iff.1 hlen
    rw [hnil] at h
    simp only [runOpsD] at h
    cases h
    refine ⟨?_, hQ a W G hI (Ext.refl _ _ _) he rfl⟩
    apply List.eq_nil_iff_forall_not_mem.2
    intro j hj
    obtain ⟨h1, o, ho, _⟩ := mem_ready.1 hj
    have : j ∈ remOf ops.size listed := List.mem_filter.2 ⟨by simpa using (Array.getElem?_eq_some_iff.1 ho).1, by rw [h1]; rfl⟩
    rw [hnil] at this; cases this
  | fuel + 1, listed, G, s, s', W, e, e', a, tr, hls, hlen, hI, he, hfr, h, htr, hQ => by
    refine ⟨fun hr => ?_, fun i hi => ?_⟩
    · -- the first that is left may come
      exfalso
      cases hq : remOf ops.size listed with
      | nil => rw [hq] at hlen; cases hlen
      | cons j rest =>
        have hjm : j ∈ remOf ops.size listed := by rw [hq]; exact List.mem_cons_self ..
        obtain ⟨hj1, hj2⟩ := List.mem_filter.1 hjm
        have hjlt : j < ops.size := by simpa using hj1
        have hjl : listed.getD j true = false := by simpa using hj2
        have ho : ops[j]? = some ops[j] := Array.getElem?_eq_getElem hjlt
        have : j ∈ Region.ready .any ops listed := mem_ready.2 ⟨hjl, ops[j], ho, fun ed hed hb => by
          have hlt := (statOK_spec hst ho).1 ed hed hb
          by_cases hx : listed.getD ed.on true = false
          · exfalso
            have hmem : ed.on ∈ remOf ops.size listed := List.mem_filter.2 ⟨by simp; omega, by rw [hx]; rfl⟩
            rw [hq] at hmem
            have hsorted : (remOf ops.size listed).Pairwise (· < ·) := List.Pairwise.filter _ List.pairwise_lt_range
            rw [hq] at hsorted
            rcases List.mem_cons.1 hmem with h | h
            · omega
            · have := (List.pairwise_cons.1 hsorted).1 _ h; omega
          · have hlt2 : ed.on < listed.size := by omega
            have : listed[ed.on]? = some true := by
              rw [Array.getElem?_eq_getElem hlt2]
              simp [Array.getD, hlt2] at hx
              rw [hx]
            simp [Array.getD, hlt2]
            simpa [Array.getElem?_eq_getElem hlt2] using this⟩
        rw [hr] at this; cases this
    · obtain ⟨hil, oi, hoi, hall⟩ := mem_ready.1 hi
      have hilt : i < ops.size := (Array.getElem?_eq_some_iff.1 hoi).1
      have him : i ∈ remOf ops.size listed := List.mem_filter.2 ⟨by simpa using hilt, by rw [hil]; rfl⟩
      obtain ⟨pre, post, hpp⟩ := List.append_of_mem him
      have hsorted : (remOf ops.size listed).Pairwise (· < ·) := List.Pairwise.filter _ List.pairwise_lt_range
      have hnd : (remOf ops.size listed).Nodup := hsorted.imp fun h => Nat.ne_of_lt h
      have hnew : remOf ops.size (listed.setIfInBounds i true) = pre ++ post := by
        have e1 : remOf ops.size (listed.setIfInBounds i true) = (remOf ops.size listed).filter (fun j => decide (j ≠ i)) := by
          unfold remOf
          rw [List.filter_filter]
          apply List.filter_congr
          intro j hj
          by_cases e : j = i
          · subst e; simp [hls, hilt]
          · simp [Array.getD_eq_getD_getElem?, Array.getElem?_setIfInBounds_ne (fun h => e h.symm : i ≠ j), e]
        rw [e1, hpp]
        rw [hpp] at hnd
        have hn1 := List.nodup_append.1 hnd
        have hn2 := List.nodup_cons.1 hn1.2.1
        rw [List.filter_append, List.filter_cons]
        have p1 : pre.filter (fun j => decide (j ≠ i)) = pre := List.filter_eq_self.2 fun x hx => by
          simp; rintro rfl; exact (hn1.2.2 x hx x (List.mem_cons_self ..)) rfl
        have p2 : post.filter (fun j => decide (j ≠ i)) = post := List.filter_eq_self.2 fun x hx => by
          simp; rintro rfl; exact hn2.1 hx
        rw [p1, p2]
        simp
      rw [hpp] at h hnd
      have hfr' : ∀ x ∈ pre ++ i :: post, base + x < s.nx ∧ s.get (base + x) = none := fun x hx => hfr x (by rw [hpp]; exact hx)
      have hpre : ∀ p ∈ pre, p ≠ i ∧ hasEdge ops i p = false ∧ ∀ op, ops[p]? = some op → apartD ops op oi = true := fun p hp => by
        have hpm : p ∈ remOf ops.size listed := by rw [hpp]; exact List.mem_append_left _ hp
        have hpl : listed.getD p true = false := by simpa using (List.mem_filter.1 hpm).2
        have hplt : p < ops.size := by simpa using (List.mem_filter.1 hpm).1
        have hlt : p < i := by
          rw [hpp] at hsorted
          exact (List.pairwise_append.1 hsorted).2.2 p hp i (List.mem_cons_self ..)
        have hne : hasEdge ops i p = false := by
          cases hq : hasEdge ops i p with
          | false => rfl
          | true =>
            exfalso
            unfold hasEdge at hq
            rw [hoi] at hq
            obtain ⟨ed, hed, hq2⟩ := List.any_eq_true.1 hq
            simp only [Bool.and_eq_true, beq_iff_eq] at hq2
            have h1 := hall ed (by simpa using hed) hq2.1
            rw [hq2.2] at h1
            have hlt2 : p < listed.size := by omega
            simp [Array.getD, hlt2] at h1 hpl
            rw [h1] at hpl; cases hpl
        exact ⟨by omega, hne, ((statOK_spec hst hoi).2 p hlt).resolve_left (by rw [hne]; simp)⟩
      obtain ⟨e1, s1, tr', h1, h2, h3, _, _⟩ := front_ok hT hTf hoi h htr hpre hnd hfr' (fun _ => wf_of_rel he oi)
      obtain ⟨hk, hn⟩ := hfr' i (by simp)
      obtain ⟨hnx, hfree⟩ := step_free hTf h1
      refine step_ok hE hTc hI he hk hn h1 (K := wpAnyIn (FW r) 0 P .any ops Q fuel (listed.setIfInBounds i true)) fun a' W' G' i1 i2 i3 i4 => ?_
      refine any_ok hE hTc hT hTf hst fuel (by simpa using hls) ?_ i1 i3 ?_ (by rw [hnew]; exact h2) h3 fun a2 W2 G2 k1 k2 k3 k4 => hQ a2 W2 G2 k1 (i2.trans k2) k3 (k4.trans i4)
      · rw [hnew]; rw [hpp] at hlen; simp at hlen ⊢; omega
      · rw [hnew]
        intro x hx
        have hxm : x ∈ pre ++ i :: post := by
          rcases List.mem_append.1 hx with hx | hx
          · exact List.mem_append_left _ hx
          · exact List.mem_append_right _ (List.mem_cons_of_mem _ hx)
        obtain ⟨g1, g2⟩ := hfr' x hxm
        refine ⟨Nat.lt_of_lt_of_le g1 hnx, hfree _ g1 (fun e => ?_) g2⟩
        have hxi : x = i := by omega
        subst hxi
        have hn1 := List.nodup_append.1 hnd
        have hn2 := List.nodup_cons.1 hn1.2.1
        rcases List.mem_append.1 hx with hx | hx
        · exact (hn1.2.2 x hx x (List.mem_cons_self ..)) rfl
        · exact hn2.1 hx
end
end Go.Proofs.YtafaoldmemcigaaGreat.Ab
/- An evaluator of the model's code with slices as pure lists: code is the machine's. -/
namespace Go.Proofs.YtafaoldmemcigaaGreat.Ab
open Go.RowKit
set_option linter.unusedVariables false
set_option linter.unusedSimpArgs false

/-! ### loops -/
def LoopAt (F : Fence) (n : Nat) (P : Program) (c : Code) (Q : Exit → Act → World → Prop) (a : Act) (w : World) : Prop :=
  ∀ (b : Frame) (k : List Item) (cs : List Frame), b.roundOf = F.round → F.fn b.fn → F.room (cs.length + 1 + n) →
    ∃ e a' w', Q e a' w' ∧ ArrivesIn (Machine.fenced P F) P (lone (b.atR a (.code c :: .inLoop c :: k)) cs w) b k cs e a' w'
theorem LoopAt.of_body {F : Fence} {n : Nat} {P : Program} {c : Code} {Q : Exit → Act → World → Prop} {a : Act} {w : World} (h : c.wpIn F n P (Exit.then (LoopAt F n P c Q) Q) a w) : LoopAt F n P c Q a w := by
  intro b k cs hro hb hr
  obtain ⟨e, a₁, w₁, hq, harr⟩ := h b (.inLoop c :: k) cs hro hb hr
  cases e with
  | normal =>
    obtain ⟨e₂, a₂, w₂, hq₂, harr₂⟩ := hq b k cs hro hb hr
    exact ⟨e₂, a₂, w₂, hq₂, .of_steps (StepsIn.trans harr (.one (fenced_calm hb hr rfl) stepR_inLoop)) harr₂⟩
  | exit id => exact ⟨_, a₁, w₁, hq, .pass (x := .inLoop c) rfl (fun _ _ => .inl (by simp)) harr⟩
  | goto l => exact ⟨_, a₁, w₁, hq, .pass (x := .inLoop c) rfl (fun _ _ => .inl (by simp)) harr⟩
  | ret => exact ⟨_, a₁, w₁, hq, .pass (x := .inLoop c) rfl (fun _ _ => .inl (by simp)) harr⟩
  | panic ch => exact ⟨_, a₁, w₁, hq, .pass (x := .inLoop c) rfl (fun _ _ => .inl (by simp)) harr⟩
  | outgrown => exact ⟨_, a₁, w₁, hq, .pass (x := .inLoop c) rfl (fun _ _ => .inl (by simp)) harr⟩
theorem wpIn_loop_at {F : Fence} {n : Nat} {P : Program} {c : Code} {Q : Exit → Act → World → Prop} {a : Act} {w : World} (h : LoopAt F n P c Q a w) : (Code.loop c).wpIn F n P Q a w := fun b k cs hro hb hr =>
  let ⟨e, a', w', hq, harr⟩ := h b k cs hro hb hr
  ⟨e, a', w', hq, .of_steps (.one (fenced_calm hb hr rfl) stepR_loop) harr⟩

section
variable {X : Ctx} {G G' : Gh} {s s' : St} {W W' : World} {P : Program} {E : Env} {T : CallT}

/-! ### objects that hold no cells -/
theorem new_other (hI : Inv X G s W) {k : Nat} (hk : k < s.nx) (hn : s.get k = none) {ob : Ob} (o : Obj)
    (hrel : Ext G s W (G.set k W.heap.size 0) (s.put k ob) (W.alloc o) → relOb X (G.set k W.heap.size 0) (s.put k ob) (W.alloc o) k ob) :
    Inv X (G.set k W.heap.size 0) (s.put k ob) (W.alloc o) ∧ Ext G s W (G.set k W.heap.size 0) (s.put k ob) (W.alloc o) := by
  have hoth := Gh.set_oth G k W.heap.size 0
  have hext : Ext G s W (G.set k W.heap.size 0) (s.put k ob) (W.alloc o) :=
    Ext.upd (fun b o hi => ⟨hi, cell_alloc_old W _ o (hI.immlt b o hi)⟩) (fun j h => hoth j h) (.inl hn)
  exact ⟨hI.upd (b0 := W.heap.size) hk (fun _ => (Gh.set_same G k _ 0).1) (fun j h => hoth j h) ((Below.refl _ W).alloc hI.bsz _) (fun b hb hlt => Below.heap_alloc W _ b hlt)
    (fun j oj hj hl _ => Nat.ne_of_lt (hI.blk_lt hj hl)) (fun b o h => .inl h) hext (hrel hext), hext⟩

theorem below_putObj {B : Nat} {w : World} {g : Nat} (h : B ≤ g) (o : Obj) : Below B w (w.putObj g o) :=
  ⟨rfl, rfl, rfl, by simp [World.putObj], fun k hk => World.putObj_heap_other (by omega)⟩
theorem cell_putObj {w : World} {g : Nat} {o o' : Obj} (h : w.heap[g]? = some o) (h1 : o.isCells = false) (h2 : o'.isCells = false) (a : Addr) : (w.putObj g o').cell? a = w.cell? a := by
  by_cases e : a.block = g
  · have hlt : g < w.heap.size := (Array.getElem?_eq_some_iff.1 h).1
    simp only [World.cell?, e, World.putObj_heap_same hlt, h]
    cases o <;> cases o' <;> simp_all [Obj.isCells]
  · simp only [World.cell?, World.putObj_heap_other e]

theorem put_other (hI : Inv X G s W) {k : Nat} {ob0 ob : Ob} (hk : s.get k = some ob0) (hl0 : ob0.live) (hf0 : ob0.isFront = false) (hf : ob.isFront = false) {o o' : Obj} (hW : W.heap[G.blk k]? = some o) (hB : X.B ≤ G.blk k)
    (h1 : o.isCells = false) (h2 : o'.isCells = false) (hrel : Ext G s W G (s.put k ob) (W.putObj (G.blk k) o') → relOb X G (s.put k ob) (W.putObj (G.blk k) o') k ob) :
    Inv X G (s.put k ob) (W.putObj (G.blk k) o') ∧ Ext G s W G (s.put k ob) (W.putObj (G.blk k) o') := by
  have hoth : ∀ j, j ≠ k → G.blk j = G.blk j ∧ G.cap j = G.cap j := fun _ _ => ⟨rfl, rfl⟩
  have hext : Ext G s W G (s.put k ob) (W.putObj (G.blk k) o') :=
    Ext.upd (fun b o hi => ⟨hi, cell_putObj hW h1 h2 _⟩) hoth (.inr (.inl ⟨ob0, hk, hf0, hf, rfl⟩))
  exact ⟨hI.upd (b0 := G.blk k) (hI.lt k _ hk) (fun _ => rfl) hoth (below_putObj hB _) (fun b hb _ => World.putObj_heap_other hb)
    (fun j oj hj hl hne e => hne (hI.inj j k oj _ hj hk hl hl0 e)) (fun b o h => .inl h) hext (hrel hext), hext⟩

/-! ### what is free stays free -/
theorem fresh_trans {s1 s2 s3 : St} (h : s1.nx ≤ s2.nx ∧ Fresh s1 s2) (k : s2.nx ≤ s3.nx ∧ Fresh s2 s3) : s1.nx ≤ s3.nx ∧ Fresh s1 s3 :=
  ⟨Nat.le_trans h.1 k.1, fun j hj hn => k.2 j (Nat.lt_of_lt_of_le hj h.1) (h.2 j hj hn)⟩
theorem fresh_of_but {key : Nat} {s0 s s' : St} (h0 : s0.nx ≤ s.nx ∧ Fresh s0 s) (hkey : s0.nx ≤ key) (h : FreeBut key s s') : s0.nx ≤ s'.nx ∧ Fresh s0 s' :=
  ⟨Nat.le_trans h0.1 h.1, fun k hk hn => h.2 k (Nat.lt_of_lt_of_le hk h0.1) (by omega) (h0.2 k hk hn)⟩
theorem fresh_more (n : Nat) : s.nx ≤ ({ s with nx := s.nx + n } : St).nx ∧ Fresh s { s with nx := s.nx + n } := ⟨Nat.le_add_right _ _, fun _ _ h => h⟩
theorem fresh_putt {k0 : Nat} {o : Ob} (h : (s.get k0).isSome = true) : s.nx ≤ (s.put k0 o).nx ∧ Fresh s (s.put k0 o) := ⟨Nat.le_refl _, fresh_put h⟩

theorem runOps_free (hT : CallsFree T) {ops : Array Oper} {base : Nat} {s0 : St} (hb : s0.nx ≤ base) : ∀ {l : List Nat} {e e' : List D} {s s' : St}, s0.nx ≤ s.nx ∧ Fresh s0 s → runOps E T ops base l e s = some (e', s') → s0.nx ≤ s'.nx ∧ Fresh s0 s'
  | [], e, e', s, s', h0, h => by simp only [runOps] at h; cases h; exact h0
  | i :: l, e, e', s, s', h0, h => by
    simp only [runOps] at h
    split at h
    · cases h
    · rename_i e1 s1 hst
      exact runOps_free hT hb (fresh_of_but h0 (by omega) (step_free hT hst)) h
theorem runOpsD_free (hT : CallsFree T) {ops : Array Oper} {base : Nat} {s0 : St} (hb : s0.nx ≤ base) : ∀ {l : List Nat} {e e' : List D} {s s' : St} {t : List Tr}, s0.nx ≤ s.nx ∧ Fresh s0 s → runOpsD E T ops base l e s = some (e', s', t) → s0.nx ≤ s'.nx ∧ Fresh s0 s'
  | [], e, e', s, s', t, h0, h => by simp only [runOpsD] at h; cases h; exact h0
  | i :: l, e, e', s, s', t, h0, h => by
    simp only [runOpsD] at h
    split at h
    · cases h
    · rename_i e1 s1 hst
      split at h
      · cases h
      · rename_i e2 s2 t2 hr
        cases h
        exact runOpsD_free hT hb (fresh_of_but h0 (by omega) (step_free hT hst)) hr

theorem iterL_free {f : Fr → Option (Ex × Fr)} {s0 : St} (hf : ∀ x ex y, f x = some (ex, y) → x.s.nx ≤ y.s.nx ∧ Fresh x.s y.s) : ∀ {n : Nat} {x : Fr} {ex : Ex} {y : Fr}, iterL f n x = some (ex, y) → x.s.nx ≤ y.s.nx ∧ Fresh x.s y.s
  | 0, x, ex, y, h => by simp [iterL] at h
  | n + 1, x, ex, y, h => by
    simp only [iterL] at h
    split at h
    · cases h
    · rename_i z hz; exact fresh_trans (hf _ _ _ hz) (iterL_free hf (s0 := s0) h)
    · rename_i i z hz; cases h; exact hf _ _ _ hz
    · rename_i z hz; cases h; exact hf _ _ _ hz

theorem endLoopD_free {l : Nat} {p : Option Code} (h : endLoopD s l = some (p, s')) : s.nx ≤ s'.nx ∧ Fresh s s' := by
  unfold endLoopD at h
  split at h
  · rename_i r hg
    split at h
    · cases h
    · cases h; exact fresh_putt (by rw [hg]; rfl)
  · cases h
theorem leaveD_s {pend : Option Code} {y z : Fr} {ex : Ex} (h : leaveD pend y = some (ex, z)) : z = y ∧ ((pend = none ∧ ex = .normal) ∨ (pend = some .ret ∧ ex = .ret) ∨ ∃ i, pend = some (.exit i) ∧ ex = .exit i) := by
  unfold leaveD at h
  split at h
  · cases h; exact ⟨rfl, .inl ⟨rfl, rfl⟩⟩
  · cases h; exact ⟨rfl, .inr (.inl ⟨rfl, rfl⟩)⟩
  · rename_i i; cases h; exact ⟨rfl, .inr (.inr ⟨i, rfl, rfl⟩)⟩
  · cases h
theorem enterD_free {ro : Option Nat} {ds : List Nat} (h : enterD s ro = some (ds, s')) : s.nx ≤ s'.nx ∧ Fresh s s' := by
  unfold enterD at h
  split at h
  · cases h
    refine ⟨Nat.le_add_right _ _, fun k hk hn => ?_⟩
    rw [St.get_put, if_neg (by omega)]; exact hn
  · split at h
    · cases h; exact fresh_more 2
    · cases h

theorem evalC_free (hT : CallsFree T) {n : Nat} {ro : Option Nat} : ∀ {c : Code} {x : Fr} {ex : Ex} {y : Fr}, evalC E T n ro c x = some (ex, y) → x.s.nx ≤ y.s.nx ∧ Fresh x.s y.s := by
  intro c
  induction c with
  | skip => intro x ex y h; simp only [evalC] at h; cases h; exact ⟨Nat.le_refl _, Fresh.refl _⟩
  | label l => intro x ex y h; simp only [evalC] at h; cases h; exact ⟨Nat.le_refl _, Fresh.refl _⟩
  | exit id => intro x ex y h; simp only [evalC] at h; cases h; exact ⟨Nat.le_refl _, Fresh.refl _⟩
  | ret => intro x ex y h; simp only [evalC] at h; cases h; exact ⟨Nat.le_refl _, Fresh.refl _⟩
  | region id ops d =>
    intro x ex y h
    simp only [evalC] at h
    split at h
    · split at h
      · cases h
      · rename_i e s1 t hr
        split at h
        · cases h; exact runOpsD_free hT (Nat.le_refl _) (fresh_more _) hr
        · cases h
    · split at h
      · cases h
      · rename_i e s1 hr
        cases h; exact runOps_free hT (Nat.le_refl _) (fresh_more _) hr
  | seq a b iha ihb =>
    intro x ex y h
    simp only [evalC] at h
    split at h
    · rename_i z hz; exact fresh_trans (iha hz) (ihb h)
    · exact iha h
  | cond c a b iha ihb =>
    intro x ex y h
    simp only [evalC] at h
    split at h
    · exact iha h
    · exact ihb h
    · cases h
  | block id c ih =>
    intro x ex y h
    simp only [evalC] at h
    split at h
    · rename_i i z hz
      split at h <;> cases h <;> exact ih hz
    · exact ih h
  | loop c ih =>
    intro x ex y h
    simp only [evalC] at h
    exact iterL_free (s0 := x.s) (fun x ex y h => ih h) h
  | rangeFunc f ps assign body _ _ =>
    intro x ex y h
    simp only [evalC] at h
    split at h
    · cases h
    · split at h
      · cases h
      · rename_i g cap hg ds s1 hen
        split at h
        · cases h
        · rename_i d s3 hcall
          split at h
          · cases h
          · rename_i pend s4 hend
            obtain ⟨rfl, _⟩ := leaveD_s h
            have h0 := enterD_free hen
            have hx : x.s.nx < s1.nx := by
              unfold enterD at hen
              split at hen
              · cases hen; simp [St.put]
              · split at hen
                · cases hen; simp
                · cases hen
            have h1 : x.s.nx ≤ (s1.put x.s.nx (.loop { st := .ready, pend := none, e := x.e, ps := ps.toList, assign := assign, body := body })).nx ∧ Fresh x.s (s1.put x.s.nx (.loop { st := .ready, pend := none, e := x.e, ps := ps.toList, assign := assign, body := body })) :=
              ⟨h0.1, fun k hk hn => by rw [St.get_put, if_neg (by omega)]; exact h0.2 k hk hn⟩
            exact fresh_trans (fresh_trans h1 (hT.free _ _ _ _ _ hcall)) (endLoopD_free hend)
  | _ => intro x ex y h; simp [evalC] at h
end
end Go.Proofs.YtafaoldmemcigaaGreat.Ab
