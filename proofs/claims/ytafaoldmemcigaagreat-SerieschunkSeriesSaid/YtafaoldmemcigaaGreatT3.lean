/- An evaluator of the model's code with slices as pure lists: making, appending, converting, freezing are the machine's. -/
import Derived.Test.YtafaoldmemcigaaGreatT2
import Derived.Laws.Append
namespace Go.Proofs.YtafaoldmemcigaaGreat.Ab
open Go.RowKit
set_option linter.unusedVariables false
set_option linter.unusedSimpArgs false

section
variable {X : Ctx} {G G' : Gh} {s s' : St} {W W' : World} {P : Program} {E : Env}

/-- What an operation that makes or turns memory comes to. -/
def Made (X : Ctx) (G : Gh) (s : St) (W : World) (m : Result Value) (d : D) (s' : St) : Prop :=
  ∃ v W' G', m = .ok v W' ∧ Inv X G' s' W' ∧ Ext G s W G' s' W' ∧ relD G' s' W' d v

theorem allocD_ok (hE : EnvTy P E) (hI : Inv X G s W) {k t : Nat} (hk : k < s.nx) (hn : s.get k = none) {i : TI} {z : List C} (hti : E.ti t = some i) (hz : i.zero = some z) :
    Made X G s W ((Instr.alloc t true (.tuple #[])).run P W) (.v (.c (.ref k 0))) (s.put k (if E.bt t then .tc t z else .cells z false)) := by
  obtain ⟨inf, dd, ht⟩ := hE.tok hti
  obtain ⟨zv, h1, h2⟩ := ht.zeroValue (W := W) hz
  split
  · obtain ⟨g1, g2⟩ := new_tc hI hk hn (cs := z) (arr := zv.cells) t (allM_toC h2)
    refine ⟨.pointer (some ⟨W.heap.size, 0, none⟩), _, _, ?_, g1, g2, ⟨⟨_, St.get_put_same _ _ _, rfl⟩, by rw [(Gh.set_same G k _ 0).1]⟩⟩
    simp only [Instr.alloc, Sem.run_bind, h1, Result.andThen_ok, newVar, newRow, run_newObj, Sem.run_pure]
    rfl
  obtain ⟨g1, g2⟩ := new_cells hI hk hn (cs := z) (arr := zv.cells) t (allM_toC h2)
  refine ⟨.pointer (some ⟨W.heap.size, 0, none⟩), _, _, ?_, g1, g2, ⟨⟨_, St.get_put_same _ _ _, rfl⟩, by rw [(Gh.set_same G k _ 0).1]⟩⟩
  simp only [Instr.alloc, Sem.run_bind, h1, Result.andThen_ok, newVar, newRow, run_newObj, Sem.run_pure]
  rfl

theorem boxD_ok (hI : Inv X G s W) {k t : Nat} (hk : k < s.nx) (hn : s.get k = none) {v : V} {vx : Value} (hx : relV G s W v vx) :
    Made X G s W ((Instr.box t vx).run P W) (.v (.c (.ref k 0))) (s.put k (.cells (cellsV v) false)) := by
  obtain ⟨g1, g2⟩ := new_cells hI hk hn (cs := cellsV v) (arr := vx.cells) t (relV_cells hx)
  refine ⟨.pointer (some ⟨W.heap.size, 0, none⟩), _, _, ?_, g1, g2, ⟨⟨_, St.get_put_same _ _ _, rfl⟩, by rw [(Gh.set_same G k _ 0).1]⟩⟩
  simp only [Instr.box, Sem.run_bind, newVar, newRow, run_newObj, Result.andThen_ok, Sem.run_pure]
  rfl

theorem storeD_ok (hE : EnvTy P E) (hI : Inv X G s W) {k off t : Nat} {i : TI} {cs : List C} {v : V} {va vx : Value} (hti : E.ti t = some i) (hk : s.get k = some (.cells cs false))
    (hlen : (cellsV v).length = i.size) (hfit : off + i.size ≤ cs.length) (ha : relD G s W (.v (.c (.ref k off))) va) (hx : relV G s W v vx) :
    ∃ W', (Instr.storeAt t va vx).run P W = .ok () W' ∧ Inv X G (s.put k (.cells (setR cs off (cellsV v)) false)) W' ∧ Ext G s W G (s.put k (.cells (setR cs off (cellsV v)) false)) W' := by
  obtain ⟨inf, dd, ht⟩ := hE.tok hti
  obtain ⟨_, rfl⟩ := ha
  obtain ⟨W', h1, h2, h3⟩ := store_cells (P := P) hI hk (relV_cells hx) (off := off) (by omega)
  refine ⟨W', ?_, h2, h3⟩
  have hsz := relV_size hx
  simp [Instr.storeAt, Instr.sureAddr, storeVar, ht.sizeOf, hsz, hlen, h1]

theorem storeT_ok (hE : EnvTy P E) (hI : Inv X G s W) {k off t u : Nat} {i : TI} {cs : List C} {v : V} {va vx : Value} (hti : E.ti t = some i) (hk : s.get k = some (.tc u cs))
    (hlen : (cellsV v).length = i.size) (hfit : off + i.size ≤ cs.length) (ha : relD G s W (.v (.c (.ref k off))) va) (hx : relV G s W v vx) :
    ∃ W', (Instr.storeAt t va vx).run P W = .ok () W' ∧ Inv X G (s.put k (.tc u (setR cs off (cellsV v)))) W' ∧ Ext G s W G (s.put k (.tc u (setR cs off (cellsV v)))) W' := by
  obtain ⟨inf, dd, ht⟩ := hE.tok hti
  obtain ⟨_, rfl⟩ := ha
  obtain ⟨W', h1, h2, h3⟩ := store_tc (P := P) hI hk (relV_cells hx) (off := off) (by omega)
  refine ⟨W', ?_, h2, h3⟩
  have hsz := relV_size hx
  simp [Instr.storeAt, Instr.sureAddr, storeVar, ht.sizeOf, hsz, hlen, h1]

/-! ### pure data out of cells -/
theorem purS_rel {c : C} {x : Pd} {v : Value} (h : purS c = some x) (hr : relC G s W c v) : relPd G.imm W x v := by
  cases c <;> simp only [purS] at h
  case p => cases h; exact hr
  case nils => cases h; obtain rfl := hr; exact ⟨none, 0, rfl, Nat.le_refl _, fun h => absurd rfl h⟩
  case own => cases h; exact hr.1
  all_goals cases h
theorem purS_list {cs : List C} {ps : List Pd} {vs : List Value} (h : allM purS cs = some ps) (hr : relCL G s W cs vs) :
    ∀ (j : Nat) y, ps[j]? = some y → ∃ v, vs[j]? = some v ∧ relPd G.imm W y v := fun j y hj => by
  obtain ⟨c, hc, hp⟩ := allM_get h j y hj
  obtain ⟨v, hv, hrc⟩ := relCL_get hr j c hc
  exact ⟨v, hv, purS_rel hp hrc⟩
theorem relCL_p : ∀ {ps : List Pd} {vs : List Value}, vs.length = ps.length → (∀ (j : Nat) y, ps[j]? = some y → ∃ v, vs[j]? = some v ∧ relPd G.imm W y v) → relCL G s W (ps.map .p) vs := fun {ps vs} hl h =>
  relCL_mk (by simp [hl]) fun i c v e1 e2 => by
    rw [List.getElem?_map] at e1
    cases hq : ps[i]? with
    | none => rw [hq] at e1; cases e1
    | some y =>
      rw [hq] at e1; cases e1
      obtain ⟨u, hu, hr⟩ := h i y hq
      rw [hu] at e2; cases e2; exact hr

/-- A row that an appended slice owns, as its value. -/
theorem own_rel {k es n cap tg : Nat} {ys : List Pd} (hb : G'.blk k = W'.heap.size - 1) (hget : s'.get k = some (.front es n tg)) (hnc : n ≤ cap) (hc : G'.cap k = cap)
    (hr : relCs G'.imm W' (G'.blk k) 0 ys) : relC G' s' W' (.own n ys k) (.slice (some ⟨G'.blk k, 0, none⟩) n cap) := by
  refine ⟨⟨_, cap, rfl, hnc, fun _ => ⟨_, _, rfl, hr⟩⟩, ⟨_, hget⟩, fun es' m tg' e => ?_⟩
  rw [hget] at e
  cases e
  exact ⟨Nat.le_refl _, fun _ => by rw [hc]⟩

theorem repl_length (n : Nat) (z : List C) : (repl n z).length = n * z.length := by
  induction n with
  | zero => simp [repl]
  | succ n ih => simp [repl, ih, Nat.succ_mul, Nat.add_comm]
theorem repl_get (z : List C) (n i : Nat) (h : i < n * z.length) : (repl n z)[i]? = z[i % z.length]? := by
  induction n generalizing i with
  | zero => simp at h
  | succ n ih =>
    simp only [repl]
    by_cases h1 : i < z.length
    · rw [List.getElem?_append_left h1, Nat.mod_eq_of_lt h1]
    · rw [List.getElem?_append_right (by omega), ih (i - z.length) (by rw [Nat.succ_mul] at h; omega)]
      rw [Nat.mod_eq_sub_mod (by omega : i ≥ z.length)]
theorem repl_rel {n : Nat} {z : List C} {zv : Array Value} (h0 : 0 < z.length) (hz : relCL G s W z zv.toList) :
    relCL G s W (repl n z) ((Array.range (n * z.length)).map (zv[· % zv.size]!)).toList := by
  have hsz : zv.size = z.length := by have := relCL_length hz; simpa using this
  refine relCL_mk (by simp [repl_length]) fun i c v e1 e2 => ?_
  have hi : i < n * z.length := by
    have := (List.getElem?_eq_some_iff.1 e1).1
    rwa [repl_length] at this
  rw [repl_get z n i hi] at e1
  obtain ⟨u, hu, hr⟩ := relCL_get hz _ c e1
  simp [hi] at e2
  subst e2
  rw [hsz]
  have hlt : i % z.length < zv.size := by rw [hsz]; exact Nat.mod_lt _ h0
  rw [getElem!_pos zv _ hlt]
  have : zv[i % z.length]? = some u := by simpa using hu
  rw [Array.getElem?_eq_getElem hlt] at this
  cases this
  exact hr

theorem buildSliceD_ok (hE : EnvTy P E) (hI : Inv X G s W) {k t n : Nat} (hk : k < s.nx) (hn : s.get k = none) {ps : List (Nat × D)} {vps : Array (Nat × Value)} {d : D}
    (h : buildSliceD E k t n ps s = some (d, s')) (he : ps.map (·.1) = vps.toList.map (·.1)) (hv : relDL G s W (ps.map (·.2)) (vps.toList.map (·.2))) :
    Made X G s W ((Instr.buildSlice t n vps).run P W) d s' := by
  unfold buildSliceD at h
  split at h
  · rename_i size agg by_ z0 e eq hti
    obtain ⟨inf, dd, ht⟩ := hE.tok hti
    have hd := ht.slice rfl
    subst hd
    split at h
    · rename_i sz ag2 by2 z kn2 eq2 hie
      obtain ⟨inf2, d2, ht2⟩ := hE.tok hie
      obtain ⟨zv, hz1, hz2⟩ := ht2.zeroValue (W := W) rfl
      split at h
      · cases h
      · rename_i hcond
        simp only [not_or, Nat.not_lt, ne_eq, Decidable.not_not] at hcond
        obtain ⟨hc1, hc2, hc3⟩ := hcond
        split at h
        · rename_i cs hcs
          split at h
          · rename_i qs hqs
            cases h
            have hzr : relCL G s W z zv.cells.toList := allM_toC hz2
            have hrep : relCL G s W (repl n z) ((Array.range (n * sz)).map ((if n * sz = 0 then (#[] : Array Value) else zv.cells)[· % (if n * sz = 0 then (#[] : Array Value) else zv.cells).size]!)).toList := by
              by_cases h0 : n * sz = 0
              · have : n = 0 := by rcases Nat.mul_eq_zero.1 h0 with h0 | h0 <;> omega
                subst this
                simp [repl, relCL]
              · rw [if_neg h0]
                have := repl_rel (n := n) (by omega) hzr
                rwa [hc3] at this
            obtain ⟨arr', h1, h2⟩ := fill_ok (vps := vps.toList) he hv hrep hcs
            have hlen : cs.length = n * sz := by
              have e1 : ∀ {pl : Nat → Option (Nat × Nat)} {ps : List (Nat × D)} {cs out : List C}, fillD pl cs ps = some out → out.length = cs.length := by
                intro pl ps
                induction ps with
                | nil => intro cs out h; simp only [fillD] at h; cases h; rfl
                | cons p r ih =>
                  intro cs out h
                  obtain ⟨i, dd⟩ := p
                  simp only [fillD] at h
                  split at h
                  · split at h
                    · rename_i hc
                      rw [ih h]
                      simp [setR]; omega
                    · cases h
                  · cases h
              rw [e1 hcs, repl_length, hc3]
            have hal : arr'.size = n * sz := by have := relCL_length h2; simp at this; omega
            have hql : qs.length = n * sz := by rw [allM_len hqs, hlen]
            obtain ⟨G', g1, g2, g3, g4, g5⟩ := new_front hI hk (es := sz) (n := n) (tg := 0) (.inl hn) (ys := qs) (arr := arr') e (fz := (0, 0)) (cap := n) hal (Nat.le_refl _) hql (.inl (by simp)) (.inl rfl)
              (fun j y hj => by obtain ⟨v, hv, hr⟩ := purS_list hqs h2 j y hj; exact ⟨v, by simpa using hv, hr⟩)
            refine ⟨.slice (some ⟨W.heap.size, 0, none⟩) n n, _, G', ?_, g1, g2, ?_⟩
            · have hng : ¬ (n * sz > 2 ^ 24) := by omega
              by_cases h0 : n * sz = 0
              · simp only [if_pos h0] at h1
                simp only [Instr.buildSlice, Sem.run_bind, ht.underlying, Result.andThen_ok, ht2.sizeOf, if_neg hng, if_pos h0, Sem.run_pure, h1, newRow, run_newObj]
                rfl
              · simp only [if_neg h0] at h1
                simp only [Instr.buildSlice, Sem.run_bind, ht.underlying, Result.andThen_ok, ht2.sizeOf, if_neg hng, if_neg h0, Sem.run_pure, hz1, h1, newRow, run_newObj]
                rfl
            · rw [← g3]
              exact own_rel (by rw [g3]; simp) (St.get_put_same _ _ _) (Nat.le_refl _) g4 (by rw [g3]; exact g5)
          · cases h
        · cases h
    · cases h
  · cases h

theorem wrap_i64 {n : Int} (h : -9223372036854775808 ≤ n) (h2 : n ≤ 9223372036854775807) : IntKind.i64.wrap n = n := by
  simp [IntKind.wrap, IntKind.bits, IntKind.signed]
  split <;> omega
theorem makeSliceD_ok (hE : EnvTy P E) (hI : Inv X G s W) {k t : Nat} (hk : k < s.nx) (hn : s.get k = none) {l c d : D} {vl vc : Value}
    (h : makeSliceD E k t l c s = some (d, s')) (hl : relD G s W l vl) (hc : relD G s W c vc) : Made X G s W ((Instr.makeSlice t vl vc).run P W) d s' := by
  unfold makeSliceD at h
  split at h
  · rename_i size agg by_ z0 e eq kl l' kc c' hti hl' hc'
    obtain rfl := intq hl' hl
    obtain rfl := intq hc' hc
    obtain ⟨inf, dd, ht⟩ := hE.tok hti
    have hd := ht.slice rfl
    subst hd
    split at h
    · rename_i sz ag2 by2 z kn2 eq2 hie
      obtain ⟨inf2, d2, ht2⟩ := hE.tok hie
      obtain ⟨zv, hz1, hz2⟩ := ht2.zeroValue (W := W) rfl
      split at h
      · rename_i hcond
        obtain ⟨c1, c2, c3, c4, c5, c6⟩ := hcond
        have hzr : relCL G s W z zv.cells.toList := allM_toC hz2
        have hrep := repl_rel (n := c'.toNat) (by omega) hzr
        rw [c5] at hrep
        have hwl : IntKind.i64.wrap l' = l' := wrap_i64 (by omega) (by omega)
        have hwc : IntKind.i64.wrap c' = c' := wrap_i64 (by omega) (by omega)
        have hb : inf2.bytes = by2 := ht2.bytes
        have hrun : (Instr.makeSlice t (.int kl l') (.int kc c')).run P W = .ok (.slice (some ⟨W.heap.size, 0, none⟩) l'.toNat c'.toNat)
            (W.alloc (.cells ((Array.range (c'.toNat * sz)).map (zv.cells[· % zv.cells.size]!)) e)) := by
          have hnt : ¬ ((decide (c' < 0) || decide ((by2 : Int) * c' > 2 ^ 48)) || decide (l' < 0) || decide (l' > c')) = true := by
            simp; omega
          by_cases h0 : c'.toNat * sz = 0
          · simp only [Instr.makeSlice, Sem.run_bind, ht.underlying, Result.andThen_ok, asInt, asIntOf, Sem.run_pure, ht2.typeInfo, hb, hwl, hwc, if_neg hnt, run_askRoom, ht2.sizeOf, if_pos h0, newRow, run_newObj]
            rw [h0]
            have e0 : (Array.range 0).map ((#[] : Array Value)[· % (#[] : Array Value).size]!) = (Array.range 0).map (zv.cells[· % zv.cells.size]!) := by simp
            rw [e0]
            rfl
          · simp only [Instr.makeSlice, Sem.run_bind, ht.underlying, Result.andThen_ok, asInt, asIntOf, Sem.run_pure, ht2.typeInfo, hb, hwl, hwc, if_neg hnt, run_askRoom, ht2.sizeOf, if_neg h0, hz1, newRow, run_newObj]
            rfl
        split at h
        · rename_i h0
          cases h
          subst h0
          obtain ⟨G', g1, g2, g3, g4, g5⟩ := new_front hI hk (es := sz) (n := 0) (tg := 0) (.inl hn) (ys := []) (arr := ((Array.range (c'.toNat * sz)).map (zv.cells[· % zv.cells.size]!))) e (fz := (0, 0)) (cap := c'.toNat) (by simp) (by omega) (by simp) (.inl (by simp)) (.inl rfl)
            (fun j y hj => by simp at hj)
          refine ⟨_, _, G', hrun, g1, g2, ?_⟩
          rw [← g3]
          exact own_rel (by rw [g3]; simp) (St.get_put_same _ _ _) (by simp) g4 (by rw [g3]; exact g5)
        · cases h
          obtain ⟨g1, g2⟩ := new_cells hI hk hn (cs := repl c'.toNat z) (arr := ((Array.range (c'.toNat * sz)).map (zv.cells[· % zv.cells.size]!))) e hrep
          refine ⟨_, _, _, hrun, g1, g2, ⟨⟨_, St.get_put_same _ _ _, rfl⟩, c'.toNat, by omega, by rw [(Gh.set_same G k _ 0).1]⟩⟩
      · cases h
    · cases h
  · cases h

/-! ### a slice's elements, read -/
theorem src_cells {a : Option Addr} {n c : Nat} {cs : List Pd} (hcs : cs ≠ [] → ∃ b o, a = some ⟨b, o, none⟩ ∧ relCs G.imm W b o cs) {sz : Nat} (hl : cs.length = n * sz) :
    ∃ ws : Array Value, (Builtin.firstCells sz n (.slice a n c)).run P W = .ok ws W ∧ ws.size = cs.length ∧ ∀ (j : Nat) y, cs[j]? = some y → ∃ u, ws[j]? = some u ∧ relPd G.imm W y u := by
  by_cases he : cs = []
  · subst he
    simp only [List.length_nil] at hl
    refine ⟨#[], ?_, rfl, fun j y e => by simp at e⟩
    cases a with
    | none => rfl
    | some a => simp [Builtin.firstCells, ← hl, loadCells, loadCellsFrom]
  · obtain ⟨b, o, rfl, hr⟩ := hcs he
    obtain ⟨vs, e1, e2, e3⟩ := cells_list (G := G) (s := { ob := [], nx := 0 }) (W := W) (b := b) (o := o) (cs := cs.map .p) (fun j c hj => by
      rw [List.getElem?_map] at hj
      cases hq : cs[j]? with
      | none => rw [hq] at hj; cases hj
      | some x => rw [hq] at hj; cases hj; obtain ⟨u, h1, h2, h3⟩ := relCs_get hr j x hq; exact ⟨u, h1, h3⟩)
    have hvl : vs.length = n * sz := by rw [e1]; simp [hl]
    have hld := run_loadCells_list (P := P) W ⟨b, o, none⟩ vs (fun j v hj => by rw [Addr.add_mid]; exact e3 j v hj)
    rw [hvl] at hld
    refine ⟨vs.toArray, by simp [Builtin.firstCells, hld], by simp [hvl, hl], fun j y hj => ?_⟩
    obtain ⟨u, hu, hru⟩ := relCL_get e2 j (.p y) (by simp [hj])
    exact ⟨u, by simpa using hu, hru⟩

theorem listOf_ok (hI : Inv X G s W) {d : D} {v : Value} {m sz : Nat} {ys : List Pd} (h : listOf s d = some (m, ys)) (hr : relD G s W d v) (hl : ys.length = m * sz) :
    ∃ a c, v = .slice a m c ∧ m ≤ c ∧ ∃ ws : Array Value, (Builtin.firstCells sz m v).run P W = .ok ws W ∧ ws.size = ys.length ∧ ∀ (j : Nat) y, ys[j]? = some y → ∃ u, ws[j]? = some u ∧ relPd G.imm W y u := by
  unfold listOf at h
  split at h
  · cases h
    obtain ⟨a, c, rfl, hc, hcs⟩ := slice_elems (s := s) hr
    exact ⟨a, c, rfl, hc, src_cells hcs hl⟩
  · cases h
    obtain rfl := hr
    exact ⟨none, 0, rfl, Nat.le_refl _, src_cells (cs := []) (fun h => absurd rfl h) hl⟩
  · cases h
    obtain ⟨a, c, rfl, hc, hcs⟩ := slice_elems (G := G) (s := s) hr.1
    exact ⟨a, c, rfl, hc, src_cells hcs hl⟩
  · rename_i r off n es
    split at h
    · rename_i cs frz ho
      split at h
      · rename_i ps hps
        split at h
        · rename_i hfit
          cases h
          obtain ⟨_, c, hc, rfl⟩ := hr
          refine ⟨_, c, rfl, hc, ?_⟩
          obtain ⟨_, arr, t, hh, hrel, _⟩ := hI.ob r _ ho
          have hpl := allM_len hps
          have hrt := relCL_take (m * es) (relCL_drop off hrel)
          have hq := purS_list hps hrt
          have hal : arr.size = cs.length := by have := relCL_length hrel; simpa using this
          have hlen : ((arr.toList.drop off).take (m * es)).length = m * sz := by
            have e1 := relCL_length hrt
            rw [e1, ← hpl, hl]
          have hld := run_loadCells_list (P := P) W ⟨G.blk r, off, none⟩ ((arr.toList.drop off).take (m * es)) (fun j v hj => by
            rw [Addr.add_mid, cell_of_row W _ _ arr t _ hh]
            rw [List.getElem?_take] at hj
            split at hj
            · rw [List.getElem?_drop] at hj; simpa using hj
            · cases hj)
          rw [hlen] at hld
          refine ⟨((arr.toList.drop off).take (m * es)).toArray, by simp [Builtin.firstCells, hld], by rw [List.size_toArray, hlen, hl], fun j y hj => ?_⟩
          obtain ⟨u, hu, hru⟩ := hq j y hj
          exact ⟨u, by simpa using hu, hru⟩
        · cases h
      · cases h
    · cases h
  · cases h

theorem srcD_ok (hE : EnvTy P E) (hI : Inv X G s W) {u : Nat} {y : D} {vy : Value} {m sz : Nat} {ys : List Pd} (h : srcD E u s y = some (m, ys)) (hr : relD G s W y vy) (hl : ys.length = m * sz) :
    (P.underlying u = some .string ∨ ∃ e, P.underlying u = some (.slice e)) ∧ (Builtin.lenOf vy).run P W = .ok m W ∧
      ∃ ws : Array Value, (Builtin.firstCells sz m vy).run P W = .ok ws W ∧ ws.size = ys.length ∧ ∀ (j : Nat) y, ys[j]? = some y → ∃ u, ws[j]? = some u ∧ relPd G.imm W y u := by
  unfold srcD at h
  split at h
  · rename_i iu hiu
    obtain ⟨inf, du, ht⟩ := hE.tok hiu
    split at h
    · rename_i b hk
      cases h
      obtain ⟨t, rfl, rfl⟩ := P'_str hr
      have hd := ht.str hk
      subst hd
      refine ⟨.inl ht.und, by rw [show t.data.toList.length = t.size from (size_data t).symm]; rfl, ?_⟩
      have hx : t.extract 0 t.size = t := by
        apply ByteArray.ext
        simp [ByteArray.data_extract]
      refine ⟨t.data.map fun b => .int .u8 b.toNat, ?_, by simp, fun j y hj => ?_⟩
      · simp only [Builtin.firstCells]
        rw [show t.data.toList.length = t.size from (size_data t).symm, hx]
        rfl
      · rw [List.getElem?_map] at hj
        cases hq : t.data.toList[j]? with
        | none => rw [hq] at hj; cases hj
        | some c =>
          rw [hq] at hj; cases hj
          refine ⟨.int .u8 c.toNat, ?_, rfl⟩
          have : t.data[j]? = some c := by simpa using hq
          simp [this]
    · rename_i e hk
      have hd := ht.slice hk
      subst hd
      obtain ⟨a, c, rfl, hc, hws⟩ := listOf_ok (P := P) hI h hr hl
      exact ⟨.inr ⟨e, ht.und⟩, by simp [Builtin.lenOf], hws⟩
    · cases h
  · cases h
end
end Go.Proofs.YtafaoldmemcigaaGreat.Ab
