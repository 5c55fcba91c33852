/- An evaluator of the model's code with slices as pure lists: code is the machine's: the walk. -/
import Derived.Test.YtafaoldmemcigaaGreatT5
namespace Go.Proofs.YtafaoldmemcigaaGreat.Ab
open Go.RowKit
set_option linter.unusedVariables false
set_option linter.unusedSimpArgs false

section
variable {X : Ctx} {G G' : Gh} {s s' : St} {W W' : World} {P : Program} {E : Env} {T : CallT}

def exOf : Ex → Exit
  | .normal => .normal
  | .exit i => .exit i
  | .ret => .ret
structure FrRel (X : Ctx) (G : Gh) (x : Fr) (a : Act) (W : World) : Prop where
  inv : Inv X G x.s W
  tmps : relDL G x.s W x.e a.tmps.toList
  defers : a.defers = x.ds.map fun k => { target := .collected (G.blk k), args := #[] }
  nofr : ∀ k ∈ x.ds, x.s.nofr k
def RoOK (G : Gh) (s : St) (r ro : Option Nat) : Prop := (ro = none ∧ r = none) ∨ ∃ k, ro = some k ∧ r = some (G.blk k) ∧ s.nofr k
theorem RoOK.ext {r ro : Option Nat} (h : RoOK G s r ro) (e : Ext G s W G' s' W') : RoOK G' s' r ro := by
  rcases h with h | ⟨k, h1, h2, h3⟩
  · exact .inl h
  · exact .inr ⟨k, h1, by rw [(e.bl k h3).2]; exact h2, e.nofr h3⟩
theorem defers_ext {ds : List Nat} (e : Ext G s W G' s' W') (h : ∀ k ∈ ds, s.nofr k) : (ds.map fun k => ({ target := .collected (G.blk k), args := #[] } : Deferred)) = ds.map fun k => { target := .collected (G'.blk k), args := #[] } :=
  List.map_congr_left fun k hk => by rw [(e.bl k (h k hk)).2]

theorem target_rel {d : D} {v : Value} {g : Nat} {cap : List V} (h : targetOf d = some (g, cap)) (hr : relD G s W d v) : ∃ lb : Array Value, v = .func (.func g) #[] lb ∧ relVL G s W cap lb.toList := by
  unfold targetOf at h
  split at h
  · cases h
    simp only [relD, relV, relC, relPd] at hr
    exact ⟨#[], hr, rfl⟩
  · cases h
    simp only [relD, relV, relC] at hr
    obtain ⟨f', vf, vc, rfl, h1, h2, h3⟩ := hr
    simp only [relFn] at h1
    simp only [relCL] at h2
    refine ⟨vc, ?_, relCL_VL h3⟩
    rw [h1]
    congr
    exact Array.ext' h2
  · cases h

theorem loop_ok {F : Fence} {n : Nat} {c : Code} {Q : Exit → Act → World → Prop} {f : Fr → Option (Ex × Fr)} {r ro : Option Nat}
    (step : ∀ {G : Gh} {W : World} {x y : Fr} {ex : Ex} {a : Act} (Q : Exit → Act → World → Prop), f x = some (ex, y) → FrRel X G x a W → RoOK G x.s r ro →
      (∀ a' W' G', FrRel X G' y a' W' → Ext G x.s W G' y.s W' → Q (exOf ex) a' W') → c.wpIn F n P Q a W) : ∀ {m : Nat} {G : Gh} {W : World} {x y : Fr} {ex : Ex} {a : Act}, iterL f m x = some (ex, y) → FrRel X G x a W → RoOK G x.s r ro →
      (∀ a' W' G', FrRel X G' y a' W' → Ext G x.s W G' y.s W' → Q (exOf ex) a' W') → LoopAt F n P c Q a W
  | 0, G, W, x, y, ex, a, h, _, _, _ => by simp [iterL] at h
  | m + 1, G, W, x, y, ex, a, h, hx, hro, hQ => by
    simp only [iterL] at h
    split at h
    · cases h
    · rename_i z hz
      exact LoopAt.of_body (step _ hz hx hro fun a1 W1 G1 h1 h2 => loop_ok step h h1 (hro.ext h2) fun a2 W2 G2 k1 k2 => hQ a2 W2 G2 k1 (h2.trans k2))
    · rename_i i z hz
      cases h
      exact LoopAt.of_body (step _ hz hx hro fun a1 W1 G1 h1 h2 => hQ a1 W1 G1 h1 h2)
    · rename_i z hz
      cases h
      exact LoopAt.of_body (step _ hz hx hro fun a1 W1 G1 h1 h2 => hQ a1 W1 G1 h1 h2)

/-- The loop's record is laid. -/
theorem new_loop (hI : Inv X G s W) {k : Nat} (hk : k < s.nx) (hn : s.get k = none) {e : List D} {tmps : Array Value} (he : relDL G s W e tmps.toList) {ps : Array Nat} {assign body : Code} (ha : codeOK assign = true) (hb : codeOK body = true) (fn dfs : Nat) :
    ∃ G', G'.blk k = W.heap.size ∧ Inv X G' (s.put k (.loop { st := .ready, pend := none, e := e, ps := ps.toList, assign := assign, body := body })) (W.alloc (.loop { state := .ready, pending := none, fn, tmps, params := ps, assign, body, defers := dfs })) ∧
      Ext G s W G' (s.put k (.loop { st := .ready, pend := none, e := e, ps := ps.toList, assign := assign, body := body })) (W.alloc (.loop { state := .ready, pending := none, fn, tmps, params := ps, assign, body, defers := dfs })) := by
  have hb0 := (Gh.set_same G k W.heap.size 0).1
  obtain ⟨h1, h2⟩ := new_other hI hk hn (ob := .loop { st := .ready, pend := none, e := e, ps := ps.toList, assign := assign, body := body }) (.loop { state := .ready, pending := none, fn, tmps, params := ps, assign, body, defers := dfs })
    (fun hext => ⟨by rw [hb0]; exact hI.bsz, _, by rw [hb0]; exact heap_alloc_new W _, rfl, rfl, relDL_ext hext he, rfl, rfl, rfl, ha, hb⟩)
  exact ⟨_, hb0, h1, h2⟩

theorem endLoop_ok (hI : Inv X G s W) {k : Nat} {pend : Option Code} (h : endLoopD s k = some (pend, s')) : ∃ W', (Instr.endLoop (G.blk k)).run P W = .ok pend W' ∧ Inv X G s' W' ∧ Ext G s W G s' W' := by
  unfold endLoopD at h
  split at h
  · rename_i r hg
    split at h
    · cases h
    · rename_i hst
      cases h
      obtain ⟨h1, L, h2, h3, h4, h5, h6⟩ := hI.ob k _ hg
      have hrun := run_endLoop (P := P) h2 (by rw [h3]; exact hst)
      obtain ⟨k1, k2⟩ := put_other hI hg (ob := .loop { r with st := .exhausted }) trivial rfl rfl h2 h1 rfl rfl (o' := .loop { L with state := .exhausted })
        (fun hext => ⟨h1, _, World.putObj_heap_same (Array.getElem?_eq_some_iff.1 h2).1, rfl, h4, relDL_ext hext h5, h6⟩)
      exact ⟨_, by rw [← h4]; exact hrun, k1, k2⟩
  · cases h

theorem evalC_ok (hE : EnvTy P E) (hTc : CallsOK P E T) (hT : CallsPlain T E) (hTf : CallsFree T) (hm : P.follows .mixedOrders = true) {n : Nat} {r ro : Option Nat} : ∀ {c : Code} {G : Gh} {W : World} {x y : Fr} {ex : Ex} {a : Act} (Q : Exit → Act → World → Prop),
    codeOK c = true → evalC E T n ro c x = some (ex, y) → FrRel X G x a W → RoOK G x.s r ro →
    (∀ a' W' G', FrRel X G' y a' W' → Ext G x.s W G' y.s W' → Q (exOf ex) a' W') → c.wpIn (FW r) 0 P Q a W := by
  intro c
  induction c with
  | skip => intro G W x y ex a Q hc h hx hro hQ; simp only [evalC] at h; cases h; exact wpIn_skip (hQ _ _ G hx (Ext.refl _ _ _))
  | label l => intro G W x y ex a Q hc h hx hro hQ; simp only [evalC] at h; cases h; exact wpIn_label (hQ _ _ G hx (Ext.refl _ _ _))
  | exit id => intro G W x y ex a Q hc h hx hro hQ; simp only [evalC] at h; cases h; exact wpIn_exit (hQ _ _ G hx (Ext.refl _ _ _))
  | ret => intro G W x y ex a Q hc h hx hro hQ; simp only [evalC] at h; cases h; exact wpIn_ret (hQ _ _ G hx (Ext.refl _ _ _))
  | region id ops d =>
    intro G W x y ex a Q hc h hx hro hQ
    simp only [evalC] at h
    have hfr : ∀ i ∈ List.range ops.size, x.s.nx + i < ({ x.s with nx := x.s.nx + ops.size } : St).nx ∧ ({ x.s with nx := x.s.nx + ops.size } : St).get (x.s.nx + i) = none := fun i hi => by
      have hi' : i < ops.size := by simpa using hi
      refine ⟨by simp; omega, ?_⟩
      cases hg : x.s.get (x.s.nx + i) with
      | none => exact hg
      | some o => have := hx.inv.lt _ _ hg; omega
    cases d with
    | true =>
      simp only [if_true] at h
      split at h
      · cases h
      · rename_i e s1 t hr
        split at h
        · rename_i htr
          cases h
          have hst : statOK ops = true := by simpa [codeOK] using hc
          refine wpIn_region_any hm ?_
          obtain ⟨h1, h2⟩ := hx.inv.drew.more ops.size
          have hrem : remOf ops.size (Array.replicate ops.size false) = List.range ops.size := by
            unfold remOf
            refine List.filter_eq_self.2 fun i hi => ?_
            have hi' : i < ops.size := by simpa using hi
            simp [Array.getD, hi']
          have h0 : Ext G x.s W G { x.s with nx := x.s.nx + ops.size } W.drew := (Ext.drew _ _ _).trans h2
          refine any_ok hE hTc hT hTf hst ops.size (by simp) (by rw [hrem]; simp) h1 (relDL_ext h0 hx.tmps) (by rw [hrem]; exact hfr) (by rw [hrem]; exact hr) htr fun a' W' G' k1 k2 k3 k4 => ?_
          have k := h0.trans k2
          exact hQ a' W' G' ⟨k1, k3, by rw [k4, hx.defers]; exact defers_ext k hx.nofr, fun q hq => k.nofr (hx.nofr q hq)⟩ k
        · cases h
    | false =>
      simp only [Bool.false_eq_true, if_false] at h
      split at h
      · cases h
      · rename_i e s1 hr
        cases h
        obtain ⟨h1, h2⟩ := hx.inv.more ops.size
        refine wpIn_region (runOps_ok hE hTc hTf List.nodup_range hfr h1 (relDL_ext h2 hx.tmps) hr fun a' W' G' k1 k2 k3 k4 => ?_)
        have k := h2.trans k2
        exact hQ a' W' G' ⟨k1, k3, by rw [k4, hx.defers]; exact defers_ext k hx.nofr, fun q hq => k.nofr (hx.nofr q hq)⟩ k
  | seq c1 c2 ih1 ih2 =>
    intro G W x y ex a Q hc h hx hro hQ
    simp only [codeOK, Bool.and_eq_true] at hc
    simp only [evalC] at h
    split at h
    · rename_i z hz
      exact wpIn_seq (ih1 _ hc.1 hz hx hro fun a1 W1 G1 h1 h2 => ih2 _ hc.2 h h1 (hro.ext h2) fun a2 W2 G2 k1 k2 => hQ a2 W2 G2 k1 (h2.trans k2))
    · rename_i hne
      refine wpIn_seq (ih1 _ hc.1 h hx hro fun a1 W1 G1 h1 h2 => ?_)
      have := hQ a1 W1 G1 h1 h2
      cases ex with
      | normal => exact absurd h (hne y)
      | exit i => exact this
      | ret => exact this
  | cond c c1 c2 ih1 ih2 =>
    intro G W x y ex a Q hc h hx hro hQ
    simp only [codeOK, Bool.and_eq_true] at hc
    simp only [evalC] at h
    split at h
    · rename_i hb; exact wpIn_cond_true (boolq hb (opd_rel hx.tmps c)) (ih1 _ hc.1 h hx hro hQ)
    · rename_i hb; exact wpIn_cond_false (boolq hb (opd_rel hx.tmps c)) (ih2 _ hc.2 h hx hro hQ)
    · cases h
  | block id c ih =>
    intro G W x y ex a Q hc h hx hro hQ
    simp only [codeOK] at hc
    simp only [evalC] at h
    refine wpIn_block ?_
    split at h
    · rename_i i z hz
      refine ih _ hc hz hx hro fun a1 W1 G1 h1 h2 => ?_
      simp only [exOf, Exit.inBlock]
      split at h
      · rename_i hi; cases h; rw [if_pos hi]; exact hQ a1 W1 G1 h1 h2
      · rename_i hi; cases h; rw [if_neg hi]; exact hQ a1 W1 G1 h1 h2
    · rename_i hne
      refine ih _ hc h hx hro fun a1 W1 G1 h1 h2 => ?_
      have := hQ a1 W1 G1 h1 h2
      cases ex with
      | normal => exact this
      | exit i => exact absurd h (hne i y)
      | ret => exact this
  | loop c ih =>
    intro G W x y ex a Q hc h hx hro hQ
    simp only [codeOK] at hc
    simp only [evalC] at h
    exact wpIn_loop_at (loop_ok (fun Q hz hx hro hQ => ih Q hc hz hx hro hQ) h hx hro hQ)
  | rangeFunc f ps assign body _ _ =>
    intro G W x y ex a Q hc h hx hro hQ
    simp only [codeOK, Bool.and_eq_true] at hc
    simp only [evalC] at h
    split at h
    · cases h
    · rename_i g cap hg
      split at h
      · cases h
      · rename_i ds s1 hen
        split at h
        · cases h
        · rename_i d s3 hcall
          split at h
          · cases h
          · rename_i pend s4 hend
            obtain ⟨rfl, hpe⟩ := leaveD_s h
            obtain ⟨lb, hv, hcap⟩ := target_rel hg (opd_rel hx.tmps f)
            have free : ∀ k, x.s.nx ≤ k → x.s.get k = none := fun k hk => by
              cases hq : x.s.get k with
              | none => rfl
              | some o => have := hx.inv.lt _ _ hq; omega
            refine wpIn_rangeFunc fun fn _ => ?_
            -- the record, and the block for the rounds' deferred calls
            obtain ⟨l, mark, W1, G1, he, hbl, hI1, hext1, hmark, hds⟩ : ∃ l mark W1 G1, (Instr.enterLoop fn a.tmps ps assign body (FW r).round).run P W = .ok (l, mark) W1 ∧ G1.blk x.s.nx = l ∧
                Inv X G1 (s1.put x.s.nx (.loop { st := .ready, pend := none, e := x.e, ps := ps.toList, assign := assign, body := body })) W1 ∧ Ext G x.s W G1 (s1.put x.s.nx (.loop { st := .ready, pend := none, e := x.e, ps := ps.toList, assign := assign, body := body })) W1 ∧
                mark = (ds.map fun k => { target := .collected (G1.blk k), args := #[] }) ∧ ∀ k ∈ ds, (s1.put x.s.nx (.loop { st := .ready, pend := none, e := x.e, ps := ps.toList, assign := assign, body := body })).nofr k := by
              have hFr : (FW r).round = r := rfl
              rw [hFr]
              rcases hro with ⟨rfl, rfl⟩ | ⟨k0, rfl, rfl, hk0⟩
              · simp only [enterD] at hen
                cases hen
                obtain ⟨m1, m2⟩ := hx.inv.more 2
                have hb0 := (Gh.set_same G (x.s.nx + 1) W.heap.size 0).1
                obtain ⟨p1, p2⟩ := new_other m1 (k := x.s.nx + 1) (by simp) (free _ (by omega)) (ob := .defr) (.deferred (some [])) (fun _ => ⟨by rw [hb0]; exact hx.inv.bsz, by rw [hb0]; exact heap_alloc_new W _⟩)
                have e1 := m2.trans p2
                obtain ⟨G1, q0, q1, q2⟩ := new_loop p1 (k := x.s.nx) (by simp [St.put]) (by rw [St.get_put, if_neg (by omega)]; exact free _ (Nat.le_refl _)) (relDL_ext e1 hx.tmps) (ps := ps) hc.1 hc.2 fn W.heap.size
                have hnf : (({ x.s with nx := x.s.nx + 2 } : St).put (x.s.nx + 1) .defr).nofr (x.s.nx + 1) := ⟨_, St.get_put_same _ _ _, rfl⟩
                refine ⟨_, _, _, G1, run_enterLoop_outer fn a.tmps ps assign body, by rw [q0]; simp, q1, e1.trans q2, ?_, fun k hk => ?_⟩
                · simp only [List.map_cons, List.map_nil]
                  rw [(q2.bl _ hnf).2, hb0]
                · simp at hk; subst hk; exact q2.nofr hnf
              · simp only [enterD] at hen
                split at hen
                · rename_i r0 hr0
                  cases hen
                  obtain ⟨_, L, hL, _⟩ := hx.inv.ob _ _ hr0
                  obtain ⟨m1, m2⟩ := hx.inv.more 2
                  obtain ⟨G1, q0, q1, q2⟩ := new_loop m1 (k := x.s.nx) (by simp) (free _ (Nat.le_refl _)) (relDL_ext m2 hx.tmps) (ps := ps) hc.1 hc.2 fn L.defers
                  exact ⟨_, _, _, G1, run_enterLoop_inner hL fn a.tmps ps assign body, q0, q1, m2.trans q2, rfl, fun k hk => by cases hk⟩
                · cases hen
            have hargs : relVL G1 (s1.put x.s.nx (.loop { st := .ready, pend := none, e := x.e, ps := ps.toList, assign := assign, body := body })) W1 (.c (.fn (.yield x.s.nx) [] []) :: cap) ((#[.func (.yield l) #[] #[]] ++ lb : Array Value)).toList := by
              rw [Array.toList_append]
              refine ⟨.func (.yield l) #[] #[], lb.toList, rfl, ?_, relVL_ext hext1 hcap⟩
              exact ⟨_, #[], #[], rfl, ⟨⟨_, St.get_put_same _ _ _, rfl⟩, by rw [hbl]⟩, rfl, rfl⟩
            obtain ⟨hin, hcalls⟩ := hTc.calls _ _ _ _ _ X G1 W1 (#[.func (.yield l) #[] #[]] ++ lb) hI1 hargs (.inr hcall)
            refine ⟨l, mark, W1, { target := .fn (.func g) lb, args := #[.func (.yield l) #[] #[]] }, W1, g, #[.func (.yield l) #[] #[]] ++ lb, W1, he, ?_, fun _ _ => trivial, ?_, fun hh => by simp [FW, Fence.wide] at hh, ?_⟩
            · simp only [resolve, hv]
              simp [go_sem]
            · simp [invoke, go_sem, hin]
            · refine (callsIn_FW hcalls).mono fun e W3 hp => ?_
              obtain ⟨v, G3, rfl, hI3, hext3, _⟩ := hp
              obtain ⟨W4, hrun, hI4, hext4⟩ := endLoop_ok (P := P) hI3 hend
              have hb3 : G3.blk x.s.nx = l := by rw [(hext3.bl _ ⟨_, St.get_put_same _ _ _, rfl⟩).2]; exact hbl
              rw [hb3] at hrun
              have ext := hext1.trans (hext3.trans hext4)
              have hfin : FrRel X G3 { e := x.e, ds := ds ++ x.ds, s := s4 } { a with defers := mark ++ a.defers } W4 := by
                refine ⟨hI4, relDL_ext ext hx.tmps, ?_, fun k hk => ?_⟩
                · simp only [List.map_append]
                  rw [hmark, hx.defers, defers_ext ext hx.nofr, defers_ext (hext3.trans hext4) hds]
                · rcases List.mem_append.1 hk with hk | hk
                  · exact (hext3.trans hext4).nofr (hds k hk)
                  · exact ext.nofr (hx.nofr k hk)
              refine ⟨pend, W4, hrun, ?_⟩
              rcases hpe with ⟨rfl, rfl⟩ | ⟨rfl, rfl⟩ | ⟨i, rfl, rfl⟩
              · exact hQ _ _ G3 hfin ext
              · exact wpIn_ret (hQ _ _ G3 hfin ext)
              · exact wpIn_exit (hQ _ _ G3 hfin ext)
  | _ => intro G W x y ex a Q hc h hx hro hQ; simp [evalC] at h
end
end Go.Proofs.YtafaoldmemcigaaGreat.Ab
/- An evaluator of the model's code with slices as pure lists: its calls are the machine's. -/
namespace Go.Proofs.YtafaoldmemcigaaGreat.Ab
open Go.RowKit
set_option linter.unusedVariables false
set_option linter.unusedSimpArgs false

section
variable {X : Ctx} {G G' : Gh} {s s' : St} {W W' : World} {P : Program} {E : Env} {T : CallT}

/-- A function of the library that is told by its effect. -/
structure XtOK (P : Program) (g : Nat) (h : List V → St → Option (D × St)) : Prop where
  free : ∀ args s d s', h args s = some (d, s') → s.nx ≤ s'.nx ∧ Fresh s s'
  calls : ∀ args s d s' X G W (vargs : Array Value) (_ : Inv X G s W) (_ : relVL G s W args vargs.toList), h args s = some (d, s') →
    (∀ W, (callFunc g vargs).run P W = .ok (.enter g vargs) W) ∧ CallsIn (FW none) 0 P g vargs W (PostT X G s W d s')

structure EnvOK (P : Program) (E : Env) : Prop extends EnvTy P E where
  fn : ∀ g f, E.fn g = some f → P.funcs[g]? = some f ∧ (f.name == "runtime.NumGoroutine") = false
  code : ∀ g f c, E.fn g = some f → f.body = some c → codeOK c = true
  mixed : P.follows .mixedOrders = true
  xt : ∀ g h, E.xt g = some h → XtOK P g h

/-! ### leaving -/
theorem kill_ok {fn : Func} {R : Ending → World → Prop} {F : Fence} {n : Nat} {tmps : Array Value} : ∀ {ds : List Nat} {s s' : St} {W : World}, Inv X G s W → killAll ds s = some s' →
    (∀ W', Inv X G s' W' → Ext G s W G s' W' → LeavesInM F n P fn tmps R [] .returning W') → LeavesInM F n P fn tmps R (ds.map fun k => { target := .collected (G.blk k), args := #[] }) .returning W
  | [], s, s', W, hI, h, hR => by simp only [killAll] at h; cases h; exact hR W hI (Ext.refl _ _ _)
  | k :: ds, s, s', W, hI, h, hR => by
    simp only [killAll] at h
    split at h
    · rename_i hg
      obtain ⟨hB, hW⟩ := hI.ob _ _ hg
      obtain ⟨k1, k2⟩ := put_other hI hg (ob := .dead) trivial rfl rfl hW hB rfl rfl (o' := .deferred none) (fun _ => trivial)
      simp only [List.map_cons]
      refine ⟨by simp, .inl ⟨_, _, rfl, run_takeDeferred hW, kill_ok k1 h fun W' h1 h2 => hR W' h1 (k2.trans h2)⟩⟩
    · cases h
theorem killAll_free : ∀ {ds : List Nat} {s s' : St}, killAll ds s = some s' → s.nx ≤ s'.nx ∧ Fresh s s'
  | [], s, s', h => by simp only [killAll] at h; cases h; exact ⟨Nat.le_refl _, Fresh.refl _⟩
  | k :: ds, s, s', h => by
    simp only [killAll] at h
    split at h
    · rename_i hg
      exact fresh_trans (fresh_putt (by rw [hg]; rfl)) (killAll_free h)
    · cases h

theorem pack_rel {vs : List V} {us : Array Value} (h : relVL G s W vs us.toList) : relD G s W (packD vs) (if h : us.size = 1 then us[0] else .tuple us) := by
  have hl := relVL_length h
  have hl' : us.size = vs.length := by simpa using hl
  match vs, h, hl' with
  | [], h, hl' =>
    have : ¬ us.size = 1 := by simp at hl'; simp [hl']
    rw [dif_neg this]
    exact ⟨us, rfl, h⟩
  | [v], h, hl' =>
    have h1 : us.size = 1 := hl'
    rw [dif_pos h1]
    obtain ⟨u, t, hu, hr, ht⟩ := h
    have : us[0] = u := by
      have h0 : us.toList[0]? = some u := by rw [hu]; rfl
      simp at h0
      exact (Array.getElem?_eq_some_iff.1 h0).2
    rw [this]
    exact hr
  | v :: w :: r, h, hl' =>
    have : ¬ us.size = 1 := by simp at hl'; omega
    rw [dif_neg this]
    exact ⟨us, rfl, h⟩

theorem getD_list (a : Array Value) (i : Nat) (v : Value) : a.getD i v = a.toList.getD i v := by simp [Array.getD_eq_getD_getElem?, List.getD]
theorem run_asAddr (a : Addr) : (asAddr (.pointer (some a))).run P W = .ok a W := rfl
def resF (tmps : Array Value) : ResultVar → Sem Value
  | .tmp t => pure (tmps.getD t undef)
  | .cell a t => do loadVar t (← asAddr (tmps.getD a undef))
theorem list_results (hE : EnvTy P E) (hI : Inv X G s W) {e : List D} {tmps : Array Value} (he : relDL G s W e tmps.toList) : ∀ {l : List ResultVar} {vs : List V}, resultsD E e s l = some vs →
    ∃ us : List Value, (l.mapM (resF tmps)).run P W = .ok us W ∧ relVL G s W vs us
  | [], vs, h => by simp only [resultsD] at h; cases h; exact ⟨[], rfl, rfl⟩
  | .tmp t :: r, vs, h => by
    simp only [resultsD] at h
    split at h
    · rename_i v vs' hv hvs
      cases h
      obtain ⟨us, h1, h2⟩ := list_results hE hI he hvs
      have hd := vq hv (relDL_getD he t)
      refine ⟨tmps.getD t undef :: us, ?_, _, _, rfl, ?_, h2⟩
      · simp only [List.mapM_cons, resF, Sem.run_bind, Sem.run_pure, h1, Result.andThen]
      · rw [getD_list]; exact hd
    · cases h
  | .cell a t :: r, vs, h => by
    simp only [resultsD] at h
    split at h
    · rename_i i cs hti hcs
      split at h
      · rename_i v vs' hv hvs
        cases h
        obtain ⟨us, h1, h2⟩ := list_results hE hI he hvs
        obtain ⟨inf, dd, ht⟩ := hE.tok hti
        obtain ⟨b, o, hp, hc⟩ := cellsAt_rel hI hcs (relDL_getD he a)
        obtain ⟨u, hu, hr⟩ := loadVar_ok ht hv hc
        have hp' : tmps.getD a undef = .pointer (some ⟨b, o, none⟩) := by rw [getD_list]; exact hp
        refine ⟨u :: us, ?_, _, _, rfl, hr, h2⟩
        simp only [List.mapM_cons, resF, Sem.run_bind, hp', run_asAddr, Sem.run_pure, h1, Result.andThen, hu]
      · cases h
    · cases h

theorem results_ok (hE : EnvTy P E) (hI : Inv X G s W) {e : List D} {tmps : Array Value} (he : relDL G s W e tmps.toList) {fn : Func} {vs : List V} (h : resultsD E e s fn.results.toList = some vs) :
    ∃ v, (results fn tmps).run P W = .ok v W ∧ relD G s W (packD vs) v := by
  obtain ⟨us, h1, h2⟩ := list_results hE hI he h
  refine ⟨_, ?_, pack_rel (us := us.toArray) (by simpa using h2)⟩
  have e : results fn tmps = (do
      let vs ← fn.results.mapM (resF tmps)
      pure (if h : vs.size = 1 then vs[0] else .tuple vs)) := by
    unfold results resF
    rfl
  rw [e, Array.mapM_eq_mapM_toList, map_eq_pure_bind]
  simp only [Sem.run_bind, h1, Result.andThen, Sem.run_pure]

theorem enter_of_fn (hE : EnvOK P E) {g : Nat} {f : Func} {c : Code} (hf : E.fn g = some f) (hb : f.body = some c) (vargs : Array Value) (W : World) : (callFunc g vargs).run P W = .ok (.enter g vargs) W := by
  obtain ⟨h1, h2⟩ := hE.fn g f hf
  have h2' : ¬ f.name = "runtime.NumGoroutine" := by simpa using h2
  simp [callFunc, go_sem, h1, h2', hb]

theorem args_rel {args : List V} {vargs : Array Value} (h : relVL G s W args vargs.toList) (m : Nat) : relDL G s W (args.map .v ++ List.replicate (m - args.length) (.tup [])) (vargs ++ Array.replicate (m - vargs.size) undef).toList := by
  have hl := relVL_length h
  have hl' : vargs.size = args.length := by simpa using hl
  rw [Array.toList_append, Array.toList_replicate, hl']
  exact relDL_append (relVL_DL h) (relDL_undef _)

theorem bodyD_free (hT : CallsFree T) {n g : Nat} {args : List V} {d : D} (h : bodyD E T n g args s = some (d, s')) : s.nx ≤ s'.nx ∧ Fresh s s' := by
  unfold bodyD at h
  split at h
  · cases h
  · split at h
    · cases h
    · rename_i fn hfn _ c hc
      have fin : ∀ {y : Fr}, s.nx ≤ y.s.nx ∧ Fresh s y.s → (match killAll y.ds y.s with
        | none => none
        | some s' => match resultsD E y.e s' fn.results.toList with
          | none => none
          | some vs => some (packD vs, s')) = some (d, s') → s.nx ≤ s'.nx ∧ Fresh s s' := fun {y} hy h => by
        split at h
        · cases h
        · rename_i s2 hk
          split at h
          · cases h
          · cases h; exact fresh_trans hy (killAll_free hk)
      split at h
      · rename_i y hy; exact fin (evalC_free hT hy) h
      · rename_i y hy; exact fin (evalC_free hT hy) h
      · cases h

theorem bodyD_ok (hE : EnvOK P E) (hTc : CallsOK P E T) (hT : CallsPlain T E) (hTf : CallsFree T) {n g : Nat} {args : List V} {vargs : Array Value} {d : D} (hI : Inv X G s W) (ha : relVL G s W args vargs.toList) (h : bodyD E T n g args s = some (d, s')) :
    (∀ W, (callFunc g vargs).run P W = .ok (.enter g vargs) W) ∧ CallsIn (FW none) 0 P g vargs W (PostT X G s W d s') := by
  unfold bodyD at h
  split at h
  · cases h
  · rename_i fn hfn
    split at h
    · cases h
    · rename_i c hc
      refine ⟨enter_of_fn hE hfn hc vargs, callsIn_of_wp_marks (hE.fn g fn hfn).1 hc trivial ?_⟩
      have h0 : FrRel X G { e := args.map .v ++ List.replicate (fn.ntmps - args.length) (.tup []), ds := [], s := s } { tmps := vargs ++ Array.replicate (fn.ntmps - vargs.size) undef, defers := [] } W :=
        ⟨hI, args_rel ha fn.ntmps, rfl, fun k hk => by cases hk⟩
      have fin : ∀ {y : Fr} {a' : Act} {W' : World} {G' : Gh}, FrRel X G' y a' W' → Ext G s W G' y.s W' → (match killAll y.ds y.s with
        | none => none
        | some s' => match resultsD E y.e s' fn.results.toList with
          | none => none
          | some vs => some (packD vs, s')) = some (d, s') → LeavesInM (FW none) 0 P fn a'.tmps (PostT X G s W d s') a'.defers .returning W' := fun {y a' W' G'} hy he h => by
        split at h
        · cases h
        · rename_i s2 hk
          split at h
          · cases h
          · rename_i vs hvs
            cases h
            rw [hy.defers]
            refine kill_ok hy.inv hk fun W2 h1 h2 => ?_
            obtain ⟨v, hv, hr⟩ := results_ok hE.toEnvTy h1 (relDL_ext h2 hy.tmps) hvs
            exact ⟨v, hv, v, G', rfl, h1, he.trans h2, hr⟩
      split at h
      · rename_i y hy
        exact evalC_ok hE.toEnvTy hTc hT hTf hE.mixed _ (hE.code g fn c hfn hc) hy h0 (.inl ⟨rfl, rfl⟩) fun a' W' G' h1 h2 => fin h1 h2 h
      · rename_i y hy
        exact evalC_ok hE.toEnvTy hTc hT hTf hE.mixed _ (hE.code g fn c hfn hc) hy h0 (.inl ⟨rfl, rfl⟩) fun a' W' G' h1 h2 => fin h1 h2 h
      · cases h

/-! ### a round -/
theorem setAll_rel : ∀ {l : List (Nat × V)} {us : List (Nat × Value)} {e : List D} {tmps : Array Value}, relDL G s W e tmps.toList → l.map (·.1) = us.map (·.1) → relVL G s W (l.map (·.2)) (us.map (·.2)) →
    relDL G s W (setAll e l) (us.foldl (fun t (p, v) => t.setIfInBounds p v) tmps).toList
  | [], us, e, tmps, he, h1, h2 => by
    cases us with
    | nil => exact he
    | cons _ _ => simp at h1
  | (t, v) :: l, us, e, tmps, he, h1, h2 => by
    cases us with
    | nil => simp at h1
    | cons p us =>
      obtain ⟨i, u⟩ := p
      simp only [List.map_cons, List.cons.injEq] at h1
      obtain ⟨rfl, h1⟩ := h1
      obtain ⟨u', us', hu, hr, hrs⟩ := h2
      simp only [List.map_cons, List.cons.injEq] at hu
      obtain ⟨rfl, rfl⟩ := hu
      simp only [setAll, List.foldl_cons]
      refine setAll_rel ?_ h1 hrs
      rw [Array.toList_setIfInBounds]
      exact relDL_set he _ hr
theorem map_fst_zip_eq {α β : Type} : ∀ {a : List α} {b : List β}, a.length = b.length → (a.zip b).map (·.1) = a ∧ (a.zip b).map (·.2) = b
  | [], [], _ => ⟨rfl, rfl⟩
  | x :: a, y :: b, h => by
    obtain ⟨h1, h2⟩ := map_fst_zip_eq (a := a) (b := b) (by simpa using h)
    exact ⟨by simp [h1], by simp [h2]⟩
  | [], _ :: _, h => by simp at h
  | _ :: _, [], h => by simp at h

theorem roundD_free (hT : CallsFree T) {n l : Nat} {args : List V} {d : D} (h : roundD E T n l args s = some (d, s')) : s.nx ≤ s'.nx ∧ Fresh s s' := by
  unfold roundD at h
  split at h
  · rename_i r hg
    split at h
    · cases h
    · split at h
      · rename_i y hy
        have f1 := evalC_free hT hy
        split at h
        · rename_i r1 hg1
          split at h
          · cases h
          · split at h
            · cases h
            · rename_i x z hz
              have f2 := evalC_free hT hz
              split at h
              · rename_i r2 hg2
                cases h
                exact fresh_trans (fresh_trans (fresh_trans f1 (fresh_putt (by rw [hg1]; rfl))) f2) (fresh_putt (by rw [hg2]; rfl))
              · cases h
        · cases h
      · cases h
  · cases h

theorem iterL_ds {f : Fr → Option (Ex × Fr)} (hf : ∀ x ex y, f x = some (ex, y) → y.ds = x.ds) : ∀ {n : Nat} {x : Fr} {ex : Ex} {y : Fr}, iterL f n x = some (ex, y) → y.ds = x.ds
  | 0, x, ex, y, h => by simp [iterL] at h
  | n + 1, x, ex, y, h => by
    simp only [iterL] at h
    split at h
    · cases h
    · rename_i z hz; exact (iterL_ds hf h).trans (hf _ _ _ hz)
    · rename_i i z hz; cases h; exact hf _ _ _ hz
    · rename_i z hz; cases h; exact hf _ _ _ hz
theorem evalC_ds {n l : Nat} : ∀ {c : Code} {x : Fr} {ex : Ex} {y : Fr}, evalC E T n (some l) c x = some (ex, y) → y.ds = x.ds := by
  intro c
  induction c with
  | skip => intro x ex y h; simp only [evalC] at h; cases h; rfl
  | label l => intro x ex y h; simp only [evalC] at h; cases h; rfl
  | exit id => intro x ex y h; simp only [evalC] at h; cases h; rfl
  | ret => intro x ex y h; simp only [evalC] at h; cases h; rfl
  | region id ops d =>
    intro x ex y h
    simp only [evalC] at h
    repeat' split at h
    all_goals first
      | (cases h; done)
      | (cases h; rfl)
  | seq a b iha ihb =>
    intro x ex y h
    simp only [evalC] at h
    split at h
    · rename_i z hz; exact (ihb h).trans (iha hz)
    · exact iha h
  | cond c a b iha ihb =>
    intro x ex y h
    simp only [evalC] at h
    split at h
    · exact iha h
    · exact ihb h
    · cases h
  | block id c ih =>
    intro x ex y h
    simp only [evalC] at h
    split at h
    · rename_i i z hz
      split at h <;> cases h <;> exact ih hz
    · exact ih h
  | loop c ih =>
    intro x ex y h
    simp only [evalC] at h
    exact iterL_ds (fun x ex y h => ih h) h
  | rangeFunc f ps assign body _ _ =>
    intro x ex y h
    simp only [evalC] at h
    split at h
    · cases h
    · split at h
      · cases h
      · rename_i g cap hg ds s1 hen
        have hds : ds = [] := by
          simp only [enterD] at hen
          split at hen <;> cases hen; rfl
        split at h
        · cases h
        · split at h
          · cases h
          · obtain ⟨rfl, _⟩ := leaveD_s h
            rw [hds]; rfl
  | _ => intro x ex y h; simp [evalC] at h

theorem roundD_ok (hE : EnvOK P E) (hTc : CallsOK P E T) (hT : CallsPlain T E) (hTf : CallsFree T) {n l : Nat} {args : List V} {vargs : Array Value} {d : D} (hI : Inv X G s W) (ha : relVL G s W args vargs.toList) (h : roundD E T n l args s = some (d, s')) :
    ∃ f tmps assign body, (Instr.yield (G.blk l) vargs).run P W = .ok (.round (G.blk l) f tmps assign body) W ∧ RoundIn (FW none) 0 P (G.blk l) f tmps assign body W (PostT X G s W d s') := by
  unfold roundD at h
  split at h
  · rename_i r hg
    split at h
    · cases h
    · rename_i hlen
      obtain ⟨hB, L, hL, l1, l2, l3, l4, l5, l6, l7, l8⟩ := hI.ob _ _ hg
      have hal : vargs.toList.length = args.length := relVL_length ha
      have hsz : vargs.size = L.params.size := by
        have : L.params.toList.length = r.ps.length := by rw [l4]
        simp at this hal
        omega
      refine ⟨_, _, _, _, run_yield (P := P) hL hsz, roundIn_of_wpIn (F := FW none) trivial ?_⟩
      split at h
      · rename_i y hy
        rw [FW_in]
        have hnf : s.nofr l := ⟨_, hg, rfl⟩
        have h0 : FrRel X G { e := setAll r.e (r.ps.zip args), ds := [], s := s } { tmps := (L.params.zip vargs).foldl (fun tmps (t, a) => tmps.setIfInBounds t a) L.tmps, defers := [] } W := by
          refine ⟨hI, ?_, rfl, fun k hk => by cases hk⟩
          have hz1 := map_fst_zip_eq (a := r.ps) (b := args) (by omega)
          have hz2 := map_fst_zip_eq (a := L.params.toList) (b := vargs.toList) (by simpa using hsz.symm)
          have := setAll_rel (G := G) (s := s) (W := W) (l := r.ps.zip args) (us := L.params.toList.zip vargs.toList) l3 (by rw [hz1.1, hz2.1, l4]) (by rw [hz1.2, hz2.2]; exact ha)
          rw [← Array.toList_zip, Array.foldl_toList] at this
          exact this
        rw [l5]
        refine evalC_ok (X := X) (r := some (G.blk l)) hE.toEnvTy hTc hT hTf hE.mixed _ l7 hy h0 (.inr ⟨l, rfl, rfl, hnf⟩) fun a1 W1 G1 h1 h2 => ?_
        simp only [exOf, Exit.then]
        split at h
        · rename_i r1 hg1
          split at h
          · cases h
          · rename_i hready
            obtain ⟨hB1, L1, hL1, m1, m2, m3, m4, m5, m6, m7, m8⟩ := h1.inv.ob _ _ hg1
            have hb1 : G1.blk l = G.blk l := (h2.bl l hnf).2
            have hready' : L1.state = .ready := by rw [m1]; exact Classical.not_not.1 hready
            split at h
            · cases h
            · rename_i x z hz
              obtain ⟨p1, p2⟩ := put_other h1.inv hg1 (ob := .loop { r1 with st := .busy }) trivial rfl rfl hL1 hB1 rfl rfl (o' := .loop { L1 with state := .busy })
                (fun hext => ⟨hB1, _, World.putObj_heap_same (Array.getElem?_eq_some_iff.1 hL1).1, rfl, m2, relDL_ext hext m3, m4, m5, m6, m7, m8⟩)
              have hrun := run_beginRound (P := P) hL1 hready'
              rw [hb1] at hrun p1 p2
              refine ⟨_, hrun, ?_⟩
              rw [l6]
              have ext1 := h2.trans p2
              have hnf1 : (y.s.put l (.loop { r1 with st := .busy })).nofr l := ⟨_, St.get_put_same _ _ _, rfl⟩
              have hyds : y.ds = [] := evalC_ds hy
              · have h3 : FrRel X G1 { e := y.e, ds := [], s := y.s.put l (.loop { r1 with st := .busy }) } a1 (W1.putObj (G.blk l) (.loop { L1 with state := .busy })) := by
                  refine ⟨p1, relDL_ext p2 h1.tmps, by rw [h1.defers, hyds], fun k hk => by cases hk⟩
                refine evalC_ok (X := X) (r := some (G.blk l)) hE.toEnvTy hTc hT hTf hE.mixed _ l8 (by exact hz) h3 (.inr ⟨l, rfl, by rw [hb1], hnf1⟩) fun a2 W2 G2 q1 q2 => ?_
                split at h
                · rename_i r2 hg2
                  cases h
                  obtain ⟨hB2, L2, hL2, n1, n2, n3, n4, n5, n6, n7, n8⟩ := q1.inv.ob _ _ hg2
                  have hb2 : G2.blk l = G.blk l := (q2.bl l hnf1).2.trans hb1
                  have fin : ∀ j : Option Code, ∃ v w', (Instr.endRound (G.blk l) j).run P W2 = .ok v w' ∧ PostT X G s W (P' (.bool j.isNone)) (z.s.put l (.loop { r2 with st := if j.isNone then .ready else .done, pend := j })) (.returned v) w' := fun j => by
                    obtain ⟨t1, t2⟩ := put_other q1.inv hg2 (ob := .loop { r2 with st := if j.isNone then .ready else .done, pend := j }) trivial rfl rfl hL2 hB2 rfl rfl (o' := .loop { L2 with state := if j.isNone then .ready else .done, pending := j })
                      (fun hext => ⟨hB2, _, World.putObj_heap_same (Array.getElem?_eq_some_iff.1 hL2).1, rfl, rfl, relDL_ext hext n3, n4, n5, n6, n7, n8⟩)
                    have hrun := run_endRound (P := P) j hL2
                    rw [hb2] at hrun t1 t2
                    exact ⟨_, _, hrun, _, G2, rfl, t1, ext1.trans (q2.trans t2), P'_mk rfl⟩
                  cases x with
                  | normal => exact fin none
                  | ret => exact fin (some .ret)
                  | exit i => exact fin (some (.exit i))
                · cases h
        · cases h
      · cases h
  · cases h
end
end Go.Proofs.YtafaoldmemcigaaGreat.Ab
/- An evaluator of the model's code with slices as pure lists: it is the machine's. -/
namespace Go.Proofs.YtafaoldmemcigaaGreat.Ab
open Go.RowKit
set_option linter.unusedVariables false
set_option linter.unusedSimpArgs false

section
variable {X : Ctx} {G G' : Gh} {s s' : St} {W W' : World} {P : Program} {E : Env} {T : CallT}

theorem purC_free {c : C} {x : Pd} (h : purC s c = some (x, s')) : s.nx ≤ s'.nx ∧ Fresh s s' := by
  have rf : s.nx ≤ s.nx ∧ Fresh s s := ⟨Nat.le_refl _, Fresh.refl _⟩
  cases c with
  | mt r off n es =>
    simp only [purC] at h
    split at h
    · rename_i cs fz hg
      split at h
      · split at h
        · cases h; exact fresh_putt (by rw [hg]; rfl)
        · cases h
      · cases h
    · cases h
  | _ =>
    simp only [purC] at h
    split at h
    · cases h; exact rf
    · cases h
theorem purCs_free : ∀ {l : List C} {s s' : St} {ps : List Pd}, purCs s l = some (ps, s') → s.nx ≤ s'.nx ∧ Fresh s s'
  | [], s, s', ps, h => by simp only [purCs] at h; cases h; exact ⟨Nat.le_refl _, Fresh.refl _⟩
  | c :: r, s, s', ps, h => by
    simp only [purCs] at h
    split at h
    · cases h
    · rename_i x s1 hc
      split at h
      · cases h
      · rename_i xs s2 hcs
        cases h
        exact fresh_trans (purC_free hc) (purCs_free hcs)
theorem purV_free {v v' : V} (h : purV s v = some (v', s')) : s.nx ≤ s'.nx ∧ Fresh s s' := by
  cases v with
  | c x =>
    simp only [purV] at h
    split at h
    · cases h
    · rename_i hc; cases h; exact purC_free hc
  | agg xs =>
    simp only [purV] at h
    split at h
    · cases h
    · rename_i hc; cases h; exact purCs_free hc
theorem purVs_free : ∀ {l l' : List V} {s s' : St}, purVs s l = some (l', s') → s.nx ≤ s'.nx ∧ Fresh s s'
  | [], l', s, s', h => by simp only [purVs] at h; cases h; exact ⟨Nat.le_refl _, Fresh.refl _⟩
  | c :: r, l', s, s', h => by
    simp only [purVs] at h
    split at h
    · cases h
    · rename_i x s1 hc
      split at h
      · cases h
      · rename_i xs s2 hcs
        cases h
        exact fresh_trans (purV_free hc) (purVs_free hcs)

theorem purC_plain {c : C} (h : plainC c = true) : ∃ x, ∀ t : St, purC t c = some (x, t) := by
  cases c <;> first
    | (simp [plainC] at h; done)
    | exact ⟨_, fun t => rfl⟩
theorem purCs_plain : ∀ {l : List C}, l.all plainC = true → ∃ xs, ∀ t : St, purCs t l = some (xs, t)
  | [], _ => ⟨[], fun _ => rfl⟩
  | c :: r, h => by
    simp only [List.all_cons, Bool.and_eq_true] at h
    obtain ⟨x, hx⟩ := purC_plain h.1
    obtain ⟨xs, hxs⟩ := purCs_plain h.2
    exact ⟨x :: xs, fun t => by simp only [purCs, hx, hxs]⟩
theorem purV_plain {v : V} (h : plainV v = true) : ∃ x, ∀ t : St, purV t v = some (x, t) := by
  cases v with
  | c x => obtain ⟨y, hy⟩ := purC_plain h; exact ⟨.c (.p y), fun t => by simp only [purV, hy]⟩
  | agg xs => obtain ⟨y, hy⟩ := purCs_plain h; exact ⟨.agg (y.map .p), fun t => by simp only [purV, hy]⟩
theorem purVs_plain : ∀ {l : List V}, (∀ v ∈ l, plainV v = true) → ∃ xs, ∀ t : St, purVs t l = some (xs, t)
  | [], _ => ⟨[], fun _ => rfl⟩
  | c :: r, h => by
    obtain ⟨x, hx⟩ := purV_plain (h c (List.mem_cons_self ..))
    obtain ⟨xs, hxs⟩ := purVs_plain fun v hv => h v (List.mem_cons_of_mem _ hv)
    exact ⟨x :: xs, fun t => by simp only [purVs, hx, hxs]⟩

theorem runF_free (hE : EnvOK P E) : ∀ n, CallsFree (runF E n)
  | 0 => ⟨fun t args s d s' h => by simp [runF] at h⟩
  | n + 1 => ⟨fun t args s d s' h => by
    have ih := runF_free hE n
    cases t with
    | y l => exact roundD_free ih h
    | o g => exact bodyD_free ih h
    | f g =>
      simp only [runF] at h
      split at h
      · rename_i hx hxt; exact (hE.xt g hx hxt).free _ _ _ _ h
      · split at h
        · exact bodyD_free ih h
        · split at h
          · exact bodyD_free ih h
          · rename_i as s1 hp
            split at h
            · cases h
            · split at h
              · cases h
              · cases h; exact purVs_free hp⟩

theorem runF_plain (E : Env) : ∀ n, CallsPlain (runF E n) E
  | 0 => ⟨fun g args s d s' h1 h2 hp h => by simp [runF] at h⟩
  | n + 1 => ⟨fun g args s d s' h1 h2 hp h => by
    obtain ⟨xs, hxs⟩ := purVs_plain hp
    simp only [runF, h2, h1, Bool.false_eq_true, if_false, hxs] at h ⊢
    split at h
    · cases h
    · rename_i d2 s2 hb
      split at h
      · cases h
      · rename_i d3 s3 hd
        cases h
        exact ⟨rfl, fun t => by simp only [hb, hd]⟩⟩

/-- A call on pure data, in a state of its own. -/
theorem pure_call (hE : EnvOK P E) (hTc : CallsOK P E T) (hT : CallsPlain T E) (hTf : CallsFree T) {n g : Nat} {args as : List V} {vargs : Array Value} {d d' : D} {s1 s2 s3 : St} (hI : Inv X G s W) (ha : relVL G s W args vargs.toList)
    (hp : purVs s args = some (as, s1)) (hb : bodyD E T n g as { ob := [], nx := 0 } = some (d, s2)) (hd : purD s2 d = some (d', s3)) :
    (∀ W, (callFunc g vargs).run P W = .ok (.enter g vargs) W) ∧ CallsIn (FW none) 0 P g vargs W (PostT X G s W d' s1) := by
  obtain ⟨G1, i1, e1, r1, p1⟩ := purVs_ok hI hp ha
  let X' : Ctx := { B := W.heap.size, W0 := W, imm0 := G1.imm }
  let s0 : St := { ob := [], nx := 0 }
  have hnone : ∀ k, s0.get k = none := fun k => rfl
  have i0 : Inv X' G1 s0 W := ⟨Below.refl _ W, Nat.le_refl _, i1.immlt, fun b o h => .inl h, fun k o h => (by rw [hnone] at h; cases h), fun k o h => (by rw [hnone] at h; cases h), fun j k oj ok h => (by rw [hnone] at h; cases h)⟩
  have r0 : relVL G1 s0 W as vargs.toList := relVL_pure p1 (fun b o h => ⟨h, rfl⟩) r1
  obtain ⟨hin, hc⟩ := bodyD_ok hE hTc hT hTf i0 r0 hb
  refine ⟨hin, hc.mono fun e W2 hpost => ?_⟩
  obtain ⟨v, G2, rfl, i2, e2, r2⟩ := hpost
  obtain ⟨G3, i3, e3, r3, p3⟩ := purD_ok i2 hd r2
  have e23 := e2.trans e3
  -- back in the caller's state
  let G4 : Gh := { imm := G3.imm, blk := G1.blk, cap := G1.cap }
  have hbel : Below W.heap.size W W2 := i3.below
  have hold : ∀ b o, b < W.heap.size → G3.imm b o → G1.imm b o := fun b o hb h => (i3.immnew b o h).resolve_right (Nat.not_le.2 hb)
  have e4 : Ext G1 s1 W G4 s1 W2 := ⟨e23.imm, Nat.le_refl _, fun k h => h, fun k es m' tg' h hf => ⟨m', tg', hf, Nat.le_refl _, fun _ => ⟨rfl, rfl⟩⟩, fun k h => ⟨h, rfl⟩⟩
  have i4 : Inv X G4 s1 W2 := by
    refine ⟨i1.below.trans (hbel.mono i1.bsz), Nat.le_trans i1.bsz hbel.size, i3.immlt, fun b o h => ?_, i1.lt, fun k o h => ?_, i1.inj⟩
    · by_cases hb : b < W.heap.size
      · exact i1.immnew b o (hold b o hb h)
      · exact .inr (Nat.le_trans i1.bsz (Nat.not_lt.1 hb))
    · have h0 := i1.ob k o h
      by_cases hl : o.live
      · have hlt := relOb_lt h0 hl
        exact relOb_keep e4 rfl rfl (hbel.block _ hlt) (fun o h => hold _ o hlt h) h0
      · exact relOb_dead hl
  exact ⟨v, G4, rfl, i4, e1.trans e4, relD_pure (G1 := G3) (G2 := G4) p3 (fun b o h => ⟨h, rfl⟩) r3⟩

theorem runF_ok (hE : EnvOK P E) : ∀ n, CallsOK P E (runF E n)
  | 0 => ⟨fun t args s d s' h => by simp [runF] at h, fun g args s d s' X G W vargs hI ha h => by simp [runF] at h, fun l args s d s' X G W vargs hI ha h => by simp [runF] at h⟩
  | n + 1 => by
    have ih := runF_ok hE n
    have ihf := runF_free hE n
    have ihp := runF_plain E n
    refine ⟨fun t args s d s' h => ((runF_free hE (n + 1)).free t args s d s' h).2, fun g args s d s' X G W vargs hI ha h => ?_, fun l args s d s' X G W vargs hI ha h => roundD_ok hE ih ihp ihf hI ha h⟩
    rcases h with h | h
    · simp only [runF] at h
      split at h
      · rename_i hx hxt; exact (hE.xt g hx hxt).calls _ _ _ _ X G W vargs hI ha h
      · split at h
        · exact bodyD_ok hE ih ihp ihf hI ha h
        · split at h
          · exact bodyD_ok hE ih ihp ihf hI ha h
          · rename_i as s1 hp
            split at h
            · cases h
            · rename_i d2 s2 hb
              split at h
              · cases h
              · rename_i d3 s3 hd
                cases h
                exact pure_call hE ih ihp ihf hI ha hp hb hd
    · exact bodyD_ok hE ih ihp ihf hI ha h
end
end Go.Proofs.YtafaoldmemcigaaGreat.Ab
/- An evaluator of the model's code with slices as pure lists: more fuel tells the same; rules for walking it. -/
namespace Go.Proofs.YtafaoldmemcigaaGreat.Ab
set_option linter.unusedVariables false
set_option linter.unusedSimpArgs false

section
variable {E : Env} {T T' : CallT} {s s' : St}

def CallT.le (T T' : CallT) : Prop := ∀ t args s r, T t args s = some r → T' t args s = some r

theorem callD_mono (h : CallT.le T T') {f : D} {args : List D} {r : D × St} (hr : callD T f args s = some r) : callD T' f args s = some r := by
  unfold callD at hr ⊢
  split at hr
  · exact h _ _ _ _ hr
  · exact h _ _ _ _ hr
  · split at hr
    · exact h _ _ _ _ hr
    · cases hr
  · cases hr
theorem evalOp_mono (h : CallT.le T T') {key : Nat} {o : Op} {f : Operand → D} {r : D × St} (hr : evalOp E T key o f s = some r) : evalOp E T' key o f s = some r := by
  cases o <;> first
    | exact hr
    | (simp only [evalOp] at hr ⊢
       split at hr
       · exact hr
       · exact callD_mono h hr
       · exact hr)
theorem stepOp_mono (h : CallT.le T T') {ops : Array Oper} {base i : Nat} {e : List D} {r : List D × St} (hr : stepOp E T ops base i e s = some r) : stepOp E T' ops base i e s = some r := by
  unfold stepOp at hr ⊢
  split at hr
  · cases hr
  · split at hr
    · cases hr
    · exact hr
    · split at hr
      · cases hr
      · rename_i d s1 hev
        rw [evalOp_mono h hev]
        exact hr
theorem runOps_mono (h : CallT.le T T') {ops : Array Oper} {base : Nat} : ∀ {l : List Nat} {e : List D} {s : St} {r : List D × St}, runOps E T ops base l e s = some r → runOps E T' ops base l e s = some r
  | [], e, s, r, hr => hr
  | i :: l, e, s, r, hr => by
    simp only [runOps] at hr ⊢
    split at hr
    · cases hr
    · rename_i e1 s1 hst
      rw [stepOp_mono h hst]
      exact runOps_mono h hr
theorem runOpsD_mono (h : CallT.le T T') {ops : Array Oper} {base : Nat} : ∀ {l : List Nat} {e : List D} {s : St} {r : List D × St × List Tr}, runOpsD E T ops base l e s = some r → runOpsD E T' ops base l e s = some r
  | [], e, s, r, hr => hr
  | i :: l, e, s, r, hr => by
    simp only [runOpsD] at hr ⊢
    split at hr
    · cases hr
    · rename_i e1 s1 hst
      rw [stepOp_mono h hst]
      split at hr
      · cases hr
      · rename_i e2 s2 t hrr
        simp only [runOpsD_mono h hrr]
        exact hr
theorem iterL_mono {S : Type} {f g : S → Option (Ex × S)} (h : ∀ x r, f x = some r → g x = some r) : ∀ {n m : Nat} {x : S} {r : Ex × S}, n ≤ m → iterL f n x = some r → iterL g m x = some r
  | 0, m, x, r, _, hr => by simp [iterL] at hr
  | n + 1, 0, x, r, hl, hr => by omega
  | n + 1, m + 1, x, r, hl, hr => by
    simp only [iterL] at hr ⊢
    split at hr
    · cases hr
    · rename_i y hy; rw [h _ _ hy]; exact iterL_mono h (by omega) hr
    · rename_i i y hy; rw [h _ _ hy]; exact hr
    · rename_i y hy; rw [h _ _ hy]; exact hr
theorem evalC_mono (h : CallT.le T T') {n m : Nat} (hl : n ≤ m) {ro : Option Nat} : ∀ {c : Code} {x : Fr} {r : Ex × Fr}, evalC E T n ro c x = some r → evalC E T' m ro c x = some r := by
  intro c
  induction c with
  | region id ops d =>
    intro x r hr
    simp only [evalC] at hr ⊢
    split at hr
    · rename_i hd
      rw [if_pos hd]
      split at hr
      · cases hr
      · rename_i e s1 t ho
        rw [runOpsD_mono h ho]
        exact hr
    · rename_i hd
      rw [if_neg hd]
      split at hr
      · cases hr
      · rename_i e s1 ho
        rw [runOps_mono h ho]
        exact hr
  | seq a b iha ihb =>
    intro x r hr
    simp only [evalC] at hr ⊢
    split at hr
    · rename_i y hy; rw [iha hy]; exact ihb hr
    · rename_i hne
      rw [iha hr]
      obtain ⟨ex, y⟩ := r
      cases ex with
      | normal => exact absurd hr (hne y)
      | _ => rfl
  | cond c a b iha ihb =>
    intro x r hr
    simp only [evalC] at hr ⊢
    split at hr
    · exact iha hr
    · exact ihb hr
    · cases hr
  | block id c ih =>
    intro x r hr
    simp only [evalC] at hr ⊢
    split at hr
    · rename_i i y hy; rw [ih hy]; exact hr
    · rename_i hne
      rw [ih hr]
      obtain ⟨ex, y⟩ := r
      cases ex with
      | exit i => exact absurd hr (hne i y)
      | _ => rfl
  | loop c ih =>
    intro x r hr
    simp only [evalC] at hr ⊢
    exact iterL_mono (fun x r => ih) hl hr
  | rangeFunc f ps assign body _ _ =>
    intro x r hr
    simp only [evalC] at hr ⊢
    split at hr
    · cases hr
    · split at hr
      · cases hr
      · split at hr
        · cases hr
        · rename_i hc
          rw [h _ _ _ _ hc]
          exact hr
  | _ => intro x r hr; first | exact hr | simp [evalC] at hr
theorem bodyD_mono (h : CallT.le T T') {n m : Nat} (hl : n ≤ m) {g : Nat} {args : List V} {r : D × St} (hr : bodyD E T n g args s = some r) : bodyD E T' m g args s = some r := by
  unfold bodyD at hr ⊢
  split at hr
  · cases hr
  · split at hr
    · cases hr
    · split at hr
      · rename_i y hy; simp only [evalC_mono h hl hy]; exact hr
      · rename_i y hy; simp only [evalC_mono h hl hy]; exact hr
      · cases hr
theorem roundD_mono (h : CallT.le T T') {n m : Nat} (hl : n ≤ m) {l : Nat} {args : List V} {r : D × St} (hr : roundD E T n l args s = some r) : roundD E T' m l args s = some r := by
  unfold roundD at hr ⊢
  split at hr
  · split at hr
    · cases hr
    · rename_i hne
      rw [if_neg hne]
      split at hr
      · rename_i y hy
        simp only [evalC_mono h hl hy]
        split at hr
        · split at hr
          · cases hr
          · rename_i hne2
            rw [if_neg hne2]
            split at hr
            · cases hr
            · rename_i x z hz
              simp only [evalC_mono h hl hz]
              exact hr
        · cases hr
      · cases hr
  · cases hr
theorem runF_succ : ∀ n, CallT.le (runF E n) (runF E (n + 1))
  | 0 => fun t args s r h => by simp [runF] at h
  | n + 1 => fun t args s r h => by
    have ih := runF_succ n
    cases t with
    | y l => exact roundD_mono ih (Nat.le_succ _) h
    | o g => exact bodyD_mono ih (Nat.le_succ _) h
    | f g =>
      rw [runF] at h ⊢
      simp only at h ⊢
      split at h
      · exact h
      · split at h
        · rename_i ho; rw [if_pos ho]; exact bodyD_mono ih (Nat.le_succ _) h
        · rename_i ho
          rw [if_neg ho]
          split at h
          · exact bodyD_mono ih (Nat.le_succ _) h
          · split at h
            · cases h
            · rename_i hb
              simp only [bodyD_mono ih (Nat.le_succ _) hb]
              exact h
theorem runF_le {n m : Nat} (h : n ≤ m) : CallT.le (runF E n) (runF E m) := by
  induction h with
  | refl => exact fun _ _ _ _ h => h
  | step _ ih => exact fun t args s r hr => runF_succ _ t args s r (ih t args s r hr)

/-! ### the rules -/
/-- A call comes to this. -/
def Ev (E : Env) (t : Target) (args : List V) (s : St) (d : D) (s' : St) : Prop := ∃ n, runF E n t args s = some (d, s')
/-- Code comes to this. -/
def Wc (E : Env) (ro : Option Nat) (c : Code) (x : Fr) (Q : Ex → Fr → Prop) : Prop := ∃ n ex y, evalC E (runF E n) n ro c x = some (ex, y) ∧ Q ex y
def Wo (E : Env) (ops : Array Oper) (base : Nat) (l : List Nat) (e : List D) (s : St) (Q : List D → St → Prop) : Prop := ∃ n e' s', runOps E (runF E n) ops base l e s = some (e', s') ∧ Q e' s'

theorem Wc.mono {ro : Option Nat} {c : Code} {x : Fr} {Q Q' : Ex → Fr → Prop} (h : Wc E ro c x Q) (hq : ∀ ex y, Q ex y → Q' ex y) : Wc E ro c x Q' :=
  let ⟨n, ex, y, h1, h2⟩ := h; ⟨n, ex, y, h1, hq _ _ h2⟩
theorem Wc.skip {ro : Option Nat} {x : Fr} {Q : Ex → Fr → Prop} (h : Q .normal x) : Wc E ro .skip x Q := ⟨0, _, _, rfl, h⟩
theorem Wc.exit {ro : Option Nat} {i : Nat} {x : Fr} {Q : Ex → Fr → Prop} (h : Q (.exit i) x) : Wc E ro (.exit i) x Q := ⟨0, _, _, rfl, h⟩
theorem Wc.ret {ro : Option Nat} {x : Fr} {Q : Ex → Fr → Prop} (h : Q .ret x) : Wc E ro .ret x Q := ⟨0, _, _, rfl, h⟩
theorem Wc.label {ro : Option Nat} {i : Nat} {x : Fr} {Q : Ex → Fr → Prop} (h : Q .normal x) : Wc E ro (.label i) x Q := ⟨0, _, _, rfl, h⟩
def thenD (K : Fr → Prop) (Q : Ex → Fr → Prop) : Ex → Fr → Prop
  | .normal, y => K y
  | e, y => Q e y
theorem Wc.seq {ro : Option Nat} {a b : Code} {x : Fr} {Q : Ex → Fr → Prop} (h : Wc E ro a x (thenD (fun y => Wc E ro b y Q) Q)) : Wc E ro (.seq a b) x Q := by
  obtain ⟨n, ex, y, h1, h2⟩ := h
  cases ex with
  | normal =>
    obtain ⟨m, ex2, z, h3, h4⟩ := h2
    refine ⟨max n m, ex2, z, ?_, h4⟩
    simp only [evalC, evalC_mono (runF_le (Nat.le_max_left n m)) (Nat.le_max_left n m) h1, evalC_mono (runF_le (Nat.le_max_right n m)) (Nat.le_max_right n m) h3]
  | exit i => exact ⟨n, _, y, by simp only [evalC, h1], h2⟩
  | ret => exact ⟨n, _, y, by simp only [evalC, h1], h2⟩
theorem Wc.cond {ro : Option Nat} {c : Operand} {a b : Code} {x : Fr} {t : Bool} {Q : Ex → Fr → Prop} (hc : (opd x.e c).bool? = some t) (h1 : t = true → Wc E ro a x Q) (h2 : t = false → Wc E ro b x Q) : Wc E ro (.cond c a b) x Q := by
  cases t with
  | true => obtain ⟨n, ex, y, h3, h4⟩ := h1 rfl; exact ⟨n, ex, y, by simp only [evalC, hc, h3], h4⟩
  | false => obtain ⟨n, ex, y, h3, h4⟩ := h2 rfl; exact ⟨n, ex, y, by simp only [evalC, hc, h3], h4⟩
def inBlockD (id : Nat) (Q : Ex → Fr → Prop) : Ex → Fr → Prop
  | .exit i, y => if i = id then Q .normal y else Q (.exit i) y
  | e, y => Q e y
theorem Wc.block {ro : Option Nat} {id : Nat} {c : Code} {x : Fr} {Q : Ex → Fr → Prop} (h : Wc E ro c x (inBlockD id Q)) : Wc E ro (.block id c) x Q := by
  obtain ⟨n, ex, y, h1, h2⟩ := h
  cases ex with
  | normal => exact ⟨n, _, y, by simp only [evalC, h1], h2⟩
  | ret => exact ⟨n, _, y, by simp only [evalC, h1], h2⟩
  | exit i =>
    simp only [inBlockD] at h2
    by_cases hi : i = id
    · rw [if_pos hi] at h2; exact ⟨n, _, y, by simp only [evalC, h1, if_pos hi], h2⟩
    · rw [if_neg hi] at h2; exact ⟨n, _, y, by simp only [evalC, h1, if_neg hi], h2⟩
theorem Wc.region {ro : Option Nat} {id : Nat} {ops : Array Oper} {x : Fr} {Q : Ex → Fr → Prop}
    (h : Wo E ops x.s.nx (List.range ops.size) x.e { x.s with nx := x.s.nx + ops.size } fun e s => Q .normal { x with e := e, s := s }) : Wc E ro (.region id ops false) x Q := by
  obtain ⟨n, e, s', h1, h2⟩ := h
  exact ⟨n, _, _, by simp only [evalC, Bool.false_eq_true, if_false, h1], h2⟩

/-- A loop, by a measure. -/
theorem Wc.loop {ro : Option Nat} {c : Code} {Q : Ex → Fr → Prop} (I : Nat → Fr → Prop) (h : ∀ k x, I k x → Wc E ro c x (thenD (fun y => ∃ j, j < k ∧ I j y) Q)) : ∀ {k : Nat} {x : Fr}, I k x → Wc E ro (.loop c) x Q := by
  intro k
  induction k using Nat.strongRecOn with
  | _ k ih =>
    intro x hx
    obtain ⟨n, ex, y, h1, h2⟩ := h k x hx
    cases ex with
    | normal =>
      obtain ⟨j, hj, hy⟩ := h2
      obtain ⟨m, ex2, z, h3, h4⟩ := ih j hj hy
      simp only [evalC] at h3
      refine ⟨max n m + 1, ex2, z, ?_, h4⟩
      simp only [evalC, iterL]
      have l1 : n ≤ max n m + 1 := by omega
      have l2 : m ≤ max n m + 1 := by omega
      rw [evalC_mono (runF_le l1) l1 h1]
      exact iterL_mono (fun x r => evalC_mono (runF_le l2) l2) (by omega) h3
    | exit i =>
      have l1 : n ≤ n + 1 := by omega
      refine ⟨n + 1, _, y, ?_, h2⟩
      simp only [evalC, iterL]
      rw [evalC_mono (runF_le l1) l1 h1]
    | ret =>
      have l1 : n ≤ n + 1 := by omega
      refine ⟨n + 1, _, y, ?_, h2⟩
      simp only [evalC, iterL]
      rw [evalC_mono (runF_le l1) l1 h1]

/-! ### operations, one behind the other -/
theorem Wo.nil {ops : Array Oper} {base : Nat} {e : List D} {Q : List D → St → Prop} (h : Q e s) : Wo E ops base [] e s Q := ⟨0, _, _, rfl, h⟩
theorem Wo.cons {ops : Array Oper} {base i : Nat} {l : List Nat} {e e1 : List D} {s1 : St} {Q : List D → St → Prop} (n : Nat) (h : stepOp E (runF E n) ops base i e s = some (e1, s1)) (hk : Wo E ops base l e1 s1 Q) : Wo E ops base (i :: l) e s Q := by
  obtain ⟨m, e', s', h1, h2⟩ := hk
  refine ⟨max n m, e', s', ?_, h2⟩
  simp only [runOps, stepOp_mono (runF_le (Nat.le_max_left n m)) h, runOps_mono (runF_le (Nat.le_max_right n m)) h1]
/-- Operations that call nothing, together. -/
theorem Wo.app {ops : Array Oper} {base : Nat} {l l' : List Nat} {e e1 : List D} {s1 : St} {Q : List D → St → Prop} (h : runOps E (runF E 0) ops base l e s = some (e1, s1)) (hk : Wo E ops base l' e1 s1 Q) : Wo E ops base (l ++ l') e s Q := by
  induction l generalizing e s with
  | nil => simp only [runOps] at h; cases h; exact hk
  | cons i l ih =>
    simp only [runOps] at h
    split at h
    · cases h
    · rename_i e2 s2 hst
      exact Wo.cons 0 hst (ih h)
theorem Wo.call {ops : Array Oper} {base i : Nat} {l : List Nat} {e : List D} {s1 : St} {Q : List D → St → Prop} {o : Oper} {c : Call} {f : Operand} {g : Nat} {a : List V} {d : D} (ho : ops[i]? = some o) (hw : wantedD ops o e = some true) (hc : o.op = .call c) (hcal : c.callee = .value f)
    (hf : opd e f = .v (.c (.p (.fnc g)))) (ha : vs? (c.args.toList.map (opd e)) = some a) (hev : Ev E (.f g) a s d s1) (hk : Wo E ops base l (putD e o.dst d) s1 Q) : Wo E ops base (i :: l) e s Q := by
  obtain ⟨n, hn⟩ := hev
  exact Wo.cons n (by simp only [stepOp, ho, hw, hc, evalOp, hcal, callD, hf, ha, hn]) hk
theorem Wo.callO {ops : Array Oper} {base i : Nat} {l : List Nat} {e : List D} {s1 : St} {Q : List D → St → Prop} {o : Oper} {c : Call} {f : Operand} {g : Nat} {a : List V} {fs cap : List C} {d : D} (ho : ops[i]? = some o) (hw : wantedD ops o e = some true) (hc : o.op = .call c) (hcal : c.callee = .value f)
    (hf : opd e f = .v (.c (.fn (.func g) fs cap))) (ha : vs? (c.args.toList.map (opd e)) = some a) (hev : Ev E (.o g) (fs.map .c ++ a ++ cap.map .c) s d s1) (hk : Wo E ops base l (putD e o.dst d) s1 Q) : Wo E ops base (i :: l) e s Q := by
  obtain ⟨n, hn⟩ := hev
  exact Wo.cons n (by simp only [stepOp, ho, hw, hc, evalOp, hcal, callD, hf, ha, hn]) hk

/-! ### functions -/
def bodyQ (E : Env) (fn : Func) (K : D → St → Prop) : Ex → Fr → Prop
  | .exit _, _ => False
  | _, y => ∃ s vs, killAll y.ds y.s = some s ∧ resultsD E y.e s fn.results.toList = some vs ∧ K (packD vs) s
theorem Ev.body {g : Nat} {fn : Func} {c : Code} {args : List V} {K : D → St → Prop} (hf : E.fn g = some fn) (hb : fn.body = some c)
    (h : Wc E none c { e := args.map .v ++ List.replicate (fn.ntmps - args.length) (.tup []), ds := [], s := s } (bodyQ E fn K)) : ∃ n d s', bodyD E (runF E n) n g args s = some (d, s') ∧ K d s' := by
  obtain ⟨n, ex, y, h1, h2⟩ := h
  cases ex with
  | exit i => exact h2.elim
  | normal =>
    obtain ⟨s2, vs, k1, k2, k3⟩ := h2
    exact ⟨n, _, _, by simp only [bodyD, hf, hb, h1, k1, k2], k3⟩
  | ret =>
    obtain ⟨s2, vs, k1, k2, k3⟩ := h2
    exact ⟨n, _, _, by simp only [bodyD, hf, hb, h1, k1, k2], k3⟩
theorem Ev.o {g : Nat} {args : List V} {d : D} (h : ∃ n d' s1, bodyD E (runF E n) n g args s = some (d', s1) ∧ d' = d ∧ s1 = s') : Ev E (.o g) args s d s' := by
  obtain ⟨n, d', s1, h1, rfl, rfl⟩ := h
  exact ⟨n + 1, h1⟩
/-- A call on pure data: what it returns hangs on nothing else. -/
def Pf (E : Env) (g : Nat) (args : List V) (d : D) : Prop := ∃ n d0 s2 s3, bodyD E (runF E n) n g args { ob := [], nx := 0 } = some (d0, s2) ∧ purD s2 d0 = some (d, s3)
theorem Ev.f {g : Nat} {args as : List V} {d : D} (hx : E.xt g = none) (ho : E.opn g = false) (hp : purVs s args = some (as, s')) (h : Pf E g as d) : Ev E (.f g) args s d s' := by
  obtain ⟨n, d0, s2, s3, h1, h2⟩ := h
  exact ⟨n + 1, by simp only [runF, hx, ho, Bool.false_eq_true, if_false, hp, h1, h2]⟩
theorem Ev.opn {g : Nat} {args : List V} {d : D} (hx : E.xt g = none) (ho : E.opn g = true) (h : ∃ n d' s1, bodyD E (runF E n) n g args s = some (d', s1) ∧ d' = d ∧ s1 = s') : Ev E (.f g) args s d s' := by
  obtain ⟨n, d', s1, h1, rfl, rfl⟩ := h
  exact ⟨n + 1, by simp only [runF, hx, ho, if_true]; exact h1⟩
end
end Go.Proofs.YtafaoldmemcigaaGreat.Ab
/- An evaluator of the model's code with slices as pure lists: walking it by rewriting. -/
namespace Go.Proofs.YtafaoldmemcigaaGreat.Ab
set_option linter.unusedVariables false
set_option linter.unusedSimpArgs false

section
variable {E : Env} {T T' : CallT} {s s' : St}
def dst1 (ops : Array Oper) (j : Nat) : Option Nat := match ops[j]? with
  | some o => o.dst
  | none => none
/-- What is asked of an operation, ahead of it. -/
def gD (ops : Array Oper) (g : Option (Nat × Bool)) (e : List D) : Option Bool := match g with
  | none => some true
  | some (j, want) => match dst1 ops j with
    | some t => match e.getD t .junk with
      | .v (.c (.p (.bool b))) => some (b == want)
      | .tup [] => some false
      | _ => none
    | none => none
theorem gD_eq (ops : Array Oper) (o : Oper) (e : List D) : wantedD ops o e = gD ops o.guard e := by
  unfold wantedD gD dst1
  cases o.guard with
  | none => rfl
  | some x =>
    obtain ⟨j, w⟩ := x
    simp only
    cases ops[j]? with
    | none => rfl
    | some o => rfl
def calD (r : Operand → D) : Op → Option (D × List D)
  | .call c => match c.callee with
    | .value f => some (r f, c.args.toList.map r)
    | _ => none
  | _ => none
def noT : CallT := fun _ _ _ => none
/-- A call: what it comes to. -/
def wpCall (E : Env) (f : D) (args : List D) (s : St) (K : D → St → Prop) : Prop := ∃ n d s', callD (runF E n) f args s = some (d, s') ∧ K d s'
/-- What a step leaves; none: it fails. -/
def stepK (r : Option (D × St)) (k : D → St → Prop) : Prop := match r with
  | none => False
  | some (d, s') => k d s'
theorem stepK_some {d : D} {s' : St} {k : D → St → Prop} : stepK (some (d, s')) k = k d s' := rfl
mutual
def wpL (E : Env) (ops : Array Oper) : Nat → List Oper → List D → St → (List D → St → Prop) → Prop
  | _, [], e, s, K => K e s
  | key, o :: r, e, s, K => match gD ops o.guard e with
    | none => False
    | some false => wpL E ops (key + 1) r (putD e o.dst (.tup [])) s K
    | some true => match calD (opd e) o.op with
      | some (f, args) => wpCall E f args s (kont E ops (key + 1) r e o.dst K)
      | none => stepK (evalOp E noT key o.op (opd e) s) (kont E ops (key + 1) r e o.dst K)
def kont (E : Env) (ops : Array Oper) : Nat → List Oper → List D → Option Nat → (List D → St → Prop) → D → St → Prop
  | key, r, e, dst, K, d, s' => wpL E ops key r (putD e dst d) s' K
end

theorem noT_le (T : CallT) : CallT.le noT T := fun _ _ _ _ h => by simp [noT] at h
theorem calD_some {r : Operand → D} {o : Op} {f : D} {args : List D} (h : calD r o = some (f, args)) (T : CallT) (key : Nat) (s : St) : evalOp E T key o r s = callD T f args s := by
  unfold calD at h
  split at h
  · split at h
    · rename_i hc; cases h; simp only [evalOp, hc]
    · cases h
  · cases h

theorem wpL_ok {ops : Array Oper} {base : Nat} {Q : List D → St → Prop} : ∀ {l : List Oper} {i : Nat} {e : List D} {s : St}, (∀ j o, l[j]? = some o → ops[i + j]? = some o) → wpL E ops (base + i) l e s Q → Wo E ops base (List.range' i l.length) e s Q
  | [], i, e, s, hl, h => by
    rw [wpL] at h
    exact Wo.nil h
  | o :: l, i, e, s, hl, h => by
    have ho : ops[i]? = some o := hl 0 o rfl
    have hl' : ∀ j o, l[j]? = some o → ops[i + 1 + j]? = some o := fun j o' hj => by
      have := hl (j + 1) o' (by simpa using hj)
      have e1 : i + 1 + j = i + (j + 1) := by omega
      rw [e1]; exact this
    rw [wpL] at h
    simp only [List.length_cons, List.range'_succ]
    split at h
    · exact h.elim
    · rename_i hg
      exact Wo.cons 0 (by simp only [stepOp, ho, gD_eq, hg]) (wpL_ok hl' h)
    · rename_i hg
      split at h
      · rename_i f args hc
        obtain ⟨n, d, s1, h1, h2⟩ := h
        rw [kont] at h2
        exact Wo.cons n (by simp only [stepOp, ho, gD_eq, hg, calD_some hc, h1]) (wpL_ok hl' h2)
      · cases hev : evalOp E noT (base + i) o.op (opd e) s with
        | none => rw [hev] at h; exact h.elim
        | some x =>
          obtain ⟨d, s1⟩ := x
          rw [hev, stepK_some, kont] at h
          exact Wo.cons 0 (by simp only [stepOp, ho, gD_eq, hg, evalOp_mono (noT_le _) hev]) (wpL_ok hl' h)

/-- More keys. -/
def St.adv (s : St) (n : Nat) : St := { s with nx := s.nx + n }
theorem St.get_adv (s : St) (n k : Nat) : (s.adv n).get k = s.get k := rfl
theorem St.nx_adv (s : St) (n : Nat) : (s.adv n).nx = s.nx + n := rfl
theorem Wc.reg {ro : Option Nat} {id : Nat} {ops : Array Oper} {x : Fr} {Q : Ex → Fr → Prop}
    (h : ∀ K : List D → St → Prop, (∀ e s, Q .normal { x with e := e, s := s } → K e s) → wpL E ops x.s.nx ops.toList x.e (x.s.adv ops.size) K) : Wc E ro (.region id ops false) x Q := by
  have h0 := h (fun e s => Q .normal { x with e := e, s := s }) (fun _ _ h => h)
  refine Wc.region ?_
  have := wpL_ok (E := E) (base := x.s.nx) (i := 0) (ops := ops) (fun j o hj => by simpa using hj) h0
  rwa [Array.length_toList, ← List.range_eq_range'] at this

/-! ### regions of open order that store nothing -/
mutual
def wpLD (E : Env) (ops : Array Oper) : Nat → List Oper → List D → St → (List D → St → Prop) → Prop
  | _, [], e, s, K => K e s
  | key, o :: r, e, s, K => match gD ops o.guard e with
    | none => False
    | some false => wpLD E ops (key + 1) r (putD e o.dst (.tup [])) s K
    | some true => clsOf E o.op (opd e) ≤ 3 ∧ match calD (opd e) o.op with
      | some (f, args) => wpCall E f args s (kontD E ops (key + 1) r e o.dst K)
      | none => stepK (evalOp E noT key o.op (opd e) s) (kontD E ops (key + 1) r e o.dst K)
def kontD (E : Env) (ops : Array Oper) : Nat → List Oper → List D → Option Nat → (List D → St → Prop) → D → St → Prop
  | key, r, e, dst, K, d, s' => wpLD E ops key r (putD e dst d) s' K
end
theorem runOpsD_cons {T : CallT} {ops : Array Oper} {base i : Nat} {l : List Nat} {e e1 e2 : List D} {s1 s2 : St} {t : List Tr} (h : stepOp E T ops base i e s = some (e1, s1)) (h2 : runOpsD E T ops base l e1 s1 = some (e2, s2, t)) :
    runOpsD E T ops base (i :: l) e s = some (e2, s2, trOf E ops i e :: t) := by simp only [runOpsD, h, h2]
theorem wpLD_ok {ops : Array Oper} {base : Nat} {K : List D → St → Prop} : ∀ {l : List Oper} {i : Nat} {e : List D} {s : St}, (∀ j o, l[j]? = some o → ops[i + j]? = some o) → wpLD E ops (base + i) l e s K →
    ∃ n e' s' t, runOpsD E (runF E n) ops base (List.range' i l.length) e s = some (e', s', t) ∧ (∀ x ∈ t, x.cls ≤ 3) ∧ K e' s'
  | [], i, e, s, hl, h => by
    rw [wpLD] at h
    exact ⟨0, e, s, [], rfl, fun x hx => (by cases hx), h⟩
  | o :: l, i, e, s, hl, h => by
    have ho : ops[i]? = some o := hl 0 o rfl
    have hl' : ∀ j o, l[j]? = some o → ops[i + 1 + j]? = some o := fun j o' hj => by
      have := hl (j + 1) o' (by simpa using hj)
      have e1 : i + 1 + j = i + (j + 1) := by omega
      rw [e1]; exact this
    have join : ∀ {n m : Nat} {e1 e2 : List D} {s1 s2 : St} {t : List Tr}, stepOp E (runF E n) ops base i e s = some (e1, s1) → runOpsD E (runF E m) ops base (List.range' (i + 1) l.length) e1 s1 = some (e2, s2, t) → (trOf E ops i e).cls ≤ 3 → (∀ x ∈ t, x.cls ≤ 3) → K e2 s2 →
        ∃ n e' s' t, runOpsD E (runF E n) ops base (List.range' i (o :: l).length) e s = some (e', s', t) ∧ (∀ x ∈ t, x.cls ≤ 3) ∧ K e' s' := fun {n m e1 e2 s1 s2 t} h1 h2 hc ht hK => by
      refine ⟨max n m, e2, s2, trOf E ops i e :: t, ?_, ?_, hK⟩
      · rw [List.length_cons, List.range'_succ]
        exact runOpsD_cons (stepOp_mono (runF_le (Nat.le_max_left n m)) h1) (runOpsD_mono (runF_le (Nat.le_max_right n m)) h2)
      · intro x hx
        rcases List.mem_cons.1 hx with rfl | hx
        · exact hc
        · exact ht x hx
    rw [wpLD] at h
    split at h
    · exact h.elim
    · rename_i hg
      obtain ⟨m, e2, s2, t, k1, k2, k3⟩ := wpLD_ok hl' h
      exact join (n := 0) (by simp only [stepOp, ho, gD_eq, hg]) k1 (by simp only [trOf, ho, gD_eq, hg]; exact Nat.zero_le _) k2 k3
    · rename_i hg
      obtain ⟨hc, h⟩ := h
      have hcl : (trOf E ops i e).cls ≤ 3 := by simp only [trOf, ho, gD_eq, hg]; exact hc
      split at h
      · rename_i f args hcd
        obtain ⟨n, d, s1, h1, h2⟩ := h
        rw [kontD] at h2
        obtain ⟨m, e2, s2, t, k1, k2, k3⟩ := wpLD_ok hl' h2
        exact join (n := n) (by simp only [stepOp, ho, gD_eq, hg, calD_some hcd, h1]) k1 hcl k2 k3
      · cases hev : evalOp E noT (base + i) o.op (opd e) s with
        | none => rw [hev] at h; exact h.elim
        | some x =>
          obtain ⟨d, s1⟩ := x
          rw [hev, stepK_some, kontD] at h
          obtain ⟨m, e2, s2, t, k1, k2, k3⟩ := wpLD_ok hl' h
          exact join (n := 0) (by simp only [stepOp, ho, gD_eq, hg, evalOp_mono (noT_le _) hev]) k1 hcl k2 k3
theorem trOK_small (ops : Array Oper) : ∀ {t : List Tr}, (∀ x ∈ t, x.cls ≤ 3) → trOK ops t = true
  | [], _ => rfl
  | x :: r, h => by
    simp only [trOK, Bool.and_eq_true, List.all_eq_true]
    refine ⟨fun y hy => ?_, trOK_small ops fun y hy => h y (List.mem_cons_of_mem _ hy)⟩
    have h1 := h x (List.mem_cons_self ..)
    have h2 := h y (List.mem_cons_of_mem _ hy)
    simp [pairOK, freeOK, h1, h2]
theorem Wc.regD {ro : Option Nat} {id : Nat} {ops : Array Oper} {x : Fr} {Q : Ex → Fr → Prop}
    (h : ∀ K : List D → St → Prop, (∀ e s, Q .normal { x with e := e, s := s } → K e s) → wpLD E ops x.s.nx ops.toList x.e (x.s.adv ops.size) K) : Wc E ro (.region id ops true) x Q := by
  have h0 := h (fun e s => Q .normal { x with e := e, s := s }) (fun _ _ h => h)
  obtain ⟨n, e', s', t, h1, h2, h3⟩ := wpLD_ok (E := E) (base := x.s.nx) (i := 0) (ops := ops) (fun j o hj => by simpa using hj) h0
  rw [Array.length_toList, ← List.range_eq_range'] at h1
  refine ⟨n, .normal, { x with e := e', s := s' }, ?_, h3⟩
  have h1' : runOpsD E (runF E n) ops x.s.nx (List.range ops.size) x.e { x.s with nx := x.s.nx + ops.size } = some (e', s', t) := h1
  simp only [evalC, if_true, h1', trOK_small ops h2]

/-! ### regions of open order, all of them -/
mutual
def wpLT (E : Env) (ops : Array Oper) : Nat → Nat → List Oper → List D → St → List Tr → (List D → St → Prop) → Prop
  | _, _, [], e, s, acc, K => trOK ops acc.reverse = true ∧ K e s
  | key, i, o :: r, e, s, acc, K => match gD ops o.guard e with
    | none => False
    | some false => wpLT E ops (key + 1) (i + 1) r (putD e o.dst (.tup [])) s ({ i := i, cls := 0, key := none } :: acc) K
    | some true => match calD (opd e) o.op with
      | some (f, args) => wpCall E f args s (kontT E ops (key + 1) (i + 1) r e o.dst ({ i := i, cls := clsOf E o.op (opd e), key := touch o.op (opd e) } :: acc) K)
      | none => stepK (evalOp E noT key o.op (opd e) s) (kontT E ops (key + 1) (i + 1) r e o.dst ({ i := i, cls := clsOf E o.op (opd e), key := touch o.op (opd e) } :: acc) K)
def kontT (E : Env) (ops : Array Oper) : Nat → Nat → List Oper → List D → Option Nat → List Tr → (List D → St → Prop) → D → St → Prop
  | key, i, r, e, dst, acc, K, d, s' => wpLT E ops key i r (putD e dst d) s' acc K
end
theorem wpLT_ok {ops : Array Oper} {base : Nat} {K : List D → St → Prop} : ∀ {l : List Oper} {i : Nat} {e : List D} {s : St} {acc : List Tr}, (∀ j o, l[j]? = some o → ops[i + j]? = some o) → wpLT E ops (base + i) i l e s acc K →
    ∃ n e' s' t, runOpsD E (runF E n) ops base (List.range' i l.length) e s = some (e', s', t) ∧ trOK ops (acc.reverse ++ t) = true ∧ K e' s'
  | [], i, e, s, acc, hl, h => by
    rw [wpLT] at h
    exact ⟨0, e, s, [], rfl, by simpa using h.1, h.2⟩
  | o :: l, i, e, s, acc, hl, h => by
    have ho : ops[i]? = some o := hl 0 o rfl
    have hl' : ∀ j o, l[j]? = some o → ops[i + 1 + j]? = some o := fun j o' hj => by
      have := hl (j + 1) o' (by simpa using hj)
      have e1 : i + 1 + j = i + (j + 1) := by omega
      rw [e1]; exact this
    have join : ∀ {n m : Nat} {e1 e2 : List D} {s1 s2 : St} {t : List Tr}, stepOp E (runF E n) ops base i e s = some (e1, s1) → runOpsD E (runF E m) ops base (List.range' (i + 1) l.length) e1 s1 = some (e2, s2, t) → trOK ops ((trOf E ops i e :: acc).reverse ++ t) = true → K e2 s2 →
        ∃ n e' s' t, runOpsD E (runF E n) ops base (List.range' i (o :: l).length) e s = some (e', s', t) ∧ trOK ops (acc.reverse ++ t) = true ∧ K e' s' := fun {n m e1 e2 s1 s2 t} h1 h2 ht hK => by
      refine ⟨max n m, e2, s2, trOf E ops i e :: t, ?_, by simpa using ht, hK⟩
      rw [List.length_cons, List.range'_succ]
      exact runOpsD_cons (stepOp_mono (runF_le (Nat.le_max_left n m)) h1) (runOpsD_mono (runF_le (Nat.le_max_right n m)) h2)
    rw [wpLT] at h
    split at h
    · exact h.elim
    · rename_i hg
      obtain ⟨m, e2, s2, t, k1, k2, k3⟩ := wpLT_ok hl' h
      exact join (n := 0) (by simp only [stepOp, ho, gD_eq, hg]) k1 (by simp only [trOf, ho, gD_eq, hg]; exact k2) k3
    · rename_i hg
      split at h
      · rename_i f args hcd
        obtain ⟨n, d, s1, h1, h2⟩ := h
        rw [kontT] at h2
        obtain ⟨m, e2, s2, t, k1, k2, k3⟩ := wpLT_ok hl' h2
        exact join (n := n) (by simp only [stepOp, ho, gD_eq, hg, calD_some hcd, h1]) k1 (by simp only [trOf, ho, gD_eq, hg]; exact k2) k3
      · cases hev : evalOp E noT (base + i) o.op (opd e) s with
        | none => rw [hev] at h; exact h.elim
        | some x =>
          obtain ⟨d, s1⟩ := x
          rw [hev, stepK_some, kontT] at h
          obtain ⟨m, e2, s2, t, k1, k2, k3⟩ := wpLT_ok hl' h
          exact join (n := 0) (by simp only [stepOp, ho, gD_eq, hg, evalOp_mono (noT_le _) hev]) k1 (by simp only [trOf, ho, gD_eq, hg]; exact k2) k3
theorem Wc.regT {ro : Option Nat} {id : Nat} {ops : Array Oper} {x : Fr} {Q : Ex → Fr → Prop}
    (h : ∀ K : List D → St → Prop, (∀ e s, Q .normal { x with e := e, s := s } → K e s) → wpLT E ops x.s.nx 0 ops.toList x.e (x.s.adv ops.size) [] K) : Wc E ro (.region id ops true) x Q := by
  have h0 := h (fun e s => Q .normal { x with e := e, s := s }) (fun _ _ h => h)
  obtain ⟨n, e', s', t, h1, h2, h3⟩ := wpLT_ok (E := E) (base := x.s.nx) (i := 0) (ops := ops) (fun j o hj => by simpa using hj) h0
  rw [Array.length_toList, ← List.range_eq_range'] at h1
  refine ⟨n, .normal, { x with e := e', s := s' }, ?_, h3⟩
  have h1' : runOpsD E (runF E n) ops x.s.nx (List.range ops.size) x.e { x.s with nx := x.s.nx + ops.size } = some (e', s', t) := h1
  have h2' : trOK ops t = true := by simpa using h2
  simp only [evalC, if_true, h1', h2']

/-! ### slices that are appended to -/
/-- A slice of one's own: n elements of es cells each. -/
def Own (s : St) (es : Nat) (x : D) (n : Nat) (cs : List Pd) : Prop := cs.length = n * es ∧ ((x = .v (.c .nils) ∧ n = 0) ∨ ∃ id, x = .v (.c (.own n cs id)) ∧ ∃ tg, s.get id = some (.front es n tg))
def idOf : D → Option Nat
  | .v (.c (.own _ _ id)) => some id
  | _ => none
/-- Whatever is not this slice's stays; nothing free is laid but at a key from this on. -/
structure Kept (s s' : St) (x : Option Nat) (key : Nat) : Prop where
  get : ∀ k o, s.get k = some o → x ≠ some k → s'.get k = some o
  free : ∀ k, k < key → s.get k = none → s'.get k = none
  up : ∀ k, key < k → s.get k = none → s'.get k = none
  nx : s.nx ≤ s'.nx
theorem Kept.refl (s : St) (x : Option Nat) (key : Nat) : Kept s s x key := ⟨fun _ _ h _ => h, fun _ _ h => h, fun _ _ h => h, Nat.le_refl _⟩
theorem append_ok {key t u e es by_ n m : Nat} {x y : D} {cs ys : List Pd} {k : D → St → Prop} {ie : TI} (ht : ∃ i, E.ti t = some i ∧ i.kn = .slice e) (he : E.ti e = some ie) (hes : ie.size = es) (hby : ie.bytes = by_) (hz : ie.zok = true) (h0 : 0 < es) (h1 : 0 < by_)
    (hx : Own s es x n cs) (hfree : s.get key = none) (hy : srcD E u s y = some (m, ys)) (hl : ys.length = m * es) (hb : (n + m) * by_ ≤ 140737488355328)
    (hk : ∀ x' s', Own s' es x' (n + m) (cs ++ ys) → Kept s s' (idOf x) key → (idOf x' = idOf x ∨ idOf x' = some key) → s'.nx = s.nx → k x' s') : stepK (appendD E key [t, u] x y s) k := by
  obtain ⟨i, hti, hkn⟩ := ht
  obtain ⟨sz, ag, bb, z, kn, eq⟩ := i
  simp only at hkn
  subst hkn
  subst hes hby
  unfold appendD
  simp only [hti, he, hy, hl, if_true]
  obtain ⟨hcs, hx⟩ := hx
  by_cases hm : m = 0
  · subst hm
    have hys : ys = [] := List.length_eq_zero_iff.1 (by simpa using hl)
    subst hys
    rw [if_pos rfl]
    rcases hx with ⟨rfl, rfl⟩ | ⟨id, rfl, hid⟩
    · exact hk _ _ ⟨by simpa using hcs, .inl ⟨rfl, rfl⟩⟩ (Kept.refl _ _ _) (.inl rfl) rfl
    · exact hk _ _ ⟨by simpa using hcs, .inr ⟨id, by simp, by simpa using hid⟩⟩ (Kept.refl _ _ _) (.inl rfl) rfl
  · rw [if_neg hm]
    rcases hx with ⟨rfl, rfl⟩ | ⟨id, rfl, tg, hid⟩
    · simp only
      have hcs0 : cs = [] := List.length_eq_zero_iff.1 (by simpa using hcs)
      subst hcs0
      rw [if_pos ⟨by simpa using hb, h0, h1, hz⟩]
      refine hk _ _ ⟨by simpa using hl, .inr ⟨key, by simp, e, by simp [St.get_put_same]⟩⟩ ⟨fun j o hj _ => ?_, fun j hj hn => ?_, fun j hj hn => ?_, Nat.le_refl _⟩ (.inr rfl) rfl
      · rw [St.get_put, if_neg (fun e => by subst e; rw [hfree] at hj; cases hj)]; exact hj
      · rw [St.get_put, if_neg (by omega)]; exact hn
      · rw [St.get_put, if_neg (by omega)]; exact hn
    · simp only [hid]
      rw [if_pos ⟨trivial, trivial, hcs, hb, h0, h1, hz⟩]
      refine hk _ _ ⟨by rw [List.length_append, hcs, hl, Nat.add_mul], .inr ⟨id, rfl, _, St.get_put_same _ _ _⟩⟩ ⟨fun j o hj hne => ?_, fun j hj hn => ?_, fun j hj hn => ?_, Nat.le_refl _⟩ (.inl rfl) rfl
      · rw [St.get_put, if_neg (fun e => hne (by rw [idOf, e]))]; exact hj
      · rw [St.get_put, if_neg (fun e => by subst e; rw [hid] at hn; cases hn)]; exact hn
      · rw [St.get_put, if_neg (fun e => by subst e; rw [hid] at hn; cases hn)]; exact hn
theorem Own.kept {es n key : Nat} {x : D} {cs : List Pd} {y : Option Nat} (h : Own s es x n cs) (hk : Kept s s' y key) (hne : ∀ id, idOf x = some id → y ≠ some id) : Own s' es x n cs := by
  obtain ⟨h1, h2⟩ := h
  refine ⟨h1, ?_⟩
  rcases h2 with h2 | ⟨id, rfl, tg, hid⟩
  · exact .inl h2
  · exact .inr ⟨id, rfl, tg, hk.get _ _ hid (hne id rfl)⟩

/-- Slices of one's own, and objects, each apart from the others; nothing is laid from b on. -/
structure OA (b : Nat) (s : St) (L : List (Nat × D × Nat × List Pd)) (M : List (Nat × Ob)) : Prop where
  free : ∀ q, b ≤ q → s.get q = none
  own : ∀ y ∈ L, Own s y.1 y.2.1 y.2.2.1 y.2.2.2
  dis : L.Pairwise (fun y z => ∀ id, idOf y.2.1 = some id → idOf z.2.1 ≠ some id)
  at_ : ∀ y ∈ M, s.get y.1 = some y.2
  nof : ∀ y ∈ M, y.2.isFront = false
  dism : M.Pairwise (fun y z => y.1 ≠ z.1)
section
variable {b : Nat} {L L1 L2 : List (Nat × D × Nat × List Pd)} {M M1 M2 : List (Nat × Ob)}
theorem OA.adv {n : Nat} (h : OA b s L M) : OA b (s.adv n) L M := ⟨h.free, h.own, h.dis, h.at_, h.nof, h.dism⟩
theorem OA.mono {b' : Nat} (h : OA b s L M) (hb : b ≤ b') : OA b' s L M := ⟨fun q hq => h.free q (Nat.le_trans hb hq), h.own, h.dis, h.at_, h.nof, h.dism⟩
theorem OA.lt (h : OA b s L M) {k : Nat} {o : Ob} (hk : s.get k = some o) : k < b := by
  rcases Nat.lt_or_ge k b with h1 | h1
  · exact h1
  · rw [h.free k h1] at hk; cases hk
theorem OA.put {k : Nat} {o : Ob} (h : OA b s L M) (hk : b ≤ k) : OA (k + 1) (s.put k o) L M := by
  have keep : ∀ j o', s.get j = some o' → (s.put k o).get j = some o' := fun j o' hj => by
    have := h.lt hj
    rw [St.get_put, if_neg (by omega)]; exact hj
  refine ⟨fun q hq => by rw [St.get_put, if_neg (by omega)]; exact h.free q (by omega), fun y hy => ?_, h.dis, fun y hy => keep _ _ (h.at_ y hy), h.nof, h.dism⟩
  obtain ⟨h1, h2⟩ := h.own y hy
  rcases h2 with h2 | ⟨id, h2, tg, h3⟩
  · exact ⟨h1, .inl h2⟩
  · exact ⟨h1, .inr ⟨id, h2, tg, keep _ _ h3⟩⟩
/-- A new object, told. -/
theorem OA.new {k : Nat} {o : Ob} (h : OA b s L M) (hk : b ≤ k) (hf : o.isFront = false) : OA (k + 1) (s.put k o) L ((k, o) :: M) := by
  have h' := h.put (o := o) hk
  refine ⟨h'.free, h'.own, h'.dis, fun y hy => ?_, fun y hy => ?_, List.pairwise_cons.2 ⟨fun y hy => ?_, h.dism⟩⟩
  · rcases List.mem_cons.1 hy with rfl | hy
    · exact St.get_put_same _ _ _
    · exact h'.at_ y hy
  · rcases List.mem_cons.1 hy with rfl | hy
    · exact hf
    · exact h.nof y hy
  · have := h.lt (h.at_ y hy)
    simp only
    omega
theorem OA.nil {es : Nat} (h : OA b s L M) : OA b s ((es, .v (.c .nils), 0, []) :: L) M :=
  ⟨h.free, fun y hy => by
    rcases List.mem_cons.1 hy with rfl | hy
    · exact ⟨by simp, .inl ⟨rfl, rfl⟩⟩
    · exact h.own y hy, List.pairwise_cons.2 ⟨fun y hy id hid => by simp [idOf] at hid, h.dis⟩, h.at_, h.nof, h.dism⟩
/-- A new slice, of one's own. -/
theorem OA.front {k es n tg : Nat} {cs : List Pd} (h : OA b s L M) (hk : b ≤ k) (hl : cs.length = n * es) : OA (k + 1) (s.put k (.front es n tg)) ((es, .v (.c (.own n cs k)), n, cs) :: L) M := by
  have h' := h.put (o := .front es n tg) hk
  refine ⟨h'.free, fun y hy => ?_, List.pairwise_cons.2 ⟨fun y hy id hid hne => ?_, h.dis⟩, h'.at_, h.nof, h.dism⟩
  · rcases List.mem_cons.1 hy with rfl | hy
    · exact ⟨hl, .inr ⟨k, rfl, _, St.get_put_same _ _ _⟩⟩
    · exact h'.own y hy
  · simp only [idOf, Option.some.injEq] at hid
    subst hid
    obtain ⟨_, h2⟩ := h.own y hy
    rcases h2 with ⟨h2, _⟩ | ⟨id, h2, tg, h3⟩
    · rw [h2] at hne; cases hne
    · rw [h2] at hne
      simp only [idOf, Option.some.injEq] at hne
      subst hne
      have := h.lt h3
      omega
theorem OA.sub (h : OA b s L M) (hl : L1.Sublist L) (hm : M1.Sublist M) : OA b s L1 M1 :=
  ⟨h.free, fun y hy => h.own y (hl.subset hy), h.dis.sublist hl, fun y hy => h.at_ y (hm.subset hy), fun y hy => h.nof y (hm.subset hy), h.dism.sublist hm⟩
/-- A store. -/
theorem OA.set {k : Nat} {o o' : Ob} (h : OA b s L (M1 ++ (k, o) :: M2)) (hf : o'.isFront = false) : OA b (s.put k o') L (M1 ++ (k, o') :: M2) := by
  have hk : s.get k = some o := h.at_ (k, o) (by simp)
  have hof : o.isFront = false := h.nof (k, o) (by simp)
  have hd := h.dism
  rw [List.pairwise_append, List.pairwise_cons] at hd
  obtain ⟨d1, ⟨d2, d3⟩, d4⟩ := hd
  refine ⟨fun q hq => ?_, fun y hy => ?_, h.dis, fun y hy => ?_, fun y hy => ?_, ?_⟩
  · have := h.lt hk
    rw [St.get_put, if_neg (by omega)]; exact h.free q hq
  · obtain ⟨h1, h2⟩ := h.own y hy
    refine ⟨h1, h2.imp id fun ⟨id, h2, tg, h3⟩ => ⟨id, h2, tg, ?_⟩⟩
    rw [St.get_put, if_neg]; exact h3
    rintro rfl
    rw [h3] at hk; cases hk; cases hof
  · rcases List.mem_append.1 hy with hy | hy
    · rw [St.get_put, if_neg]; exact h.at_ y (by simp [hy])
      exact fun e => d4 y hy (k, o) (by simp) e.symm
    · rcases List.mem_cons.1 hy with rfl | hy
      · exact St.get_put_same _ _ _
      · rw [St.get_put, if_neg]; exact h.at_ y (by simp [hy])
        exact fun e => d2 y hy e
  · rcases List.mem_append.1 hy with hy | hy
    · exact h.nof y (by simp [hy])
    · rcases List.mem_cons.1 hy with rfl | hy
      · exact hf
      · exact h.nof y (by simp [hy])
  · rw [List.pairwise_append, List.pairwise_cons]
    refine ⟨d1, ⟨d2, d3⟩, fun y hy z hz => ?_⟩
    rcases List.mem_cons.1 hz with rfl | hz
    · exact d4 y hy (k, o) (by simp)
    · exact d4 y hy z (by simp [hz])
/-- An append. -/
theorem OA.app {key t u e es by_ n m : Nat} {x y : D} {cs ys : List Pd} {k : D → St → Prop} {ie : TI} (h : OA b s (L1 ++ (es, x, n, cs) :: L2) M) (hkey : b ≤ key) (ht : ∃ i, E.ti t = some i ∧ i.kn = .slice e) (he : E.ti e = some ie) (hes : ie.size = es) (hby : ie.bytes = by_) (hz : ie.zok = true) (h0 : 0 < es) (h1 : 0 < by_)
    (hy : srcD E u s y = some (m, ys)) (hl : ys.length = m * es) (hb : (n + m) * by_ ≤ 140737488355328)
    (hk : ∀ x' s', OA (key + 1) s' (L1 ++ (es, x', n + m, cs ++ ys) :: L2) M → s'.nx = s.nx → k x' s') : stepK (appendD E key [t, u] x y s) k := by
  have hx : Own s es x n cs := h.own (es, x, n, cs) (by simp)
  have hd := h.dis
  rw [List.pairwise_append, List.pairwise_cons] at hd
  obtain ⟨d1, ⟨d2, d3⟩, d4⟩ := hd
  simp only at d2 d4
  have e1 : ∀ y ∈ L1, ∀ id, idOf y.2.1 = some id → idOf x ≠ some id := fun y hy => d4 y hy (es, x, n, cs) (by simp)
  have idlt : ∀ y ∈ L1 ++ (es, x, n, cs) :: L2, ∀ id, idOf y.2.1 = some id → id < b := fun y hy id hid => by
    obtain ⟨_, h2⟩ := h.own y hy
    rcases h2 with ⟨h2, _⟩ | ⟨id', h2, tg, h3⟩
    · rw [h2] at hid; cases hid
    · rw [h2] at hid
      simp only [idOf, Option.some.injEq] at hid
      subst hid
      exact h.lt h3
  refine append_ok ht he hes hby hz h0 h1 hx (h.free key hkey) hy hl hb fun x' s' ho hkp hid hnx => hk x' s' ?_ hnx
  have hne : ∀ y ∈ L1 ++ L2, ∀ id, idOf y.2.1 = some id → idOf x ≠ some id ∧ idOf x' ≠ some id := fun y hy id hyid => by
    have hx1 : idOf x ≠ some id := by
      rcases List.mem_append.1 hy with hy | hy
      · exact e1 y hy id hyid
      · exact fun hxid => d2 y hy id hxid hyid
    refine ⟨hx1, ?_⟩
    rcases hid with h2 | h2
    · rw [h2]; exact hx1
    · rw [h2]
      intro e2
      have := idlt y (by rcases List.mem_append.1 hy with hy | hy <;> simp [hy]) id hyid
      simp only [Option.some.injEq] at e2
      omega
  refine ⟨fun q hq => ?_, fun y hy => ?_, ?_, fun y hy => ?_, h.nof, h.dism⟩
  · cases hq' : s'.get q with
    | none => rfl
    | some o =>
      exfalso
      rcases Nat.lt_or_ge q (key + 1) with h2 | h2
      · omega
      · -- beyond the key nothing was laid
        have := hkp.up q (by omega) (h.free q (by omega))
        rw [this] at hq'; cases hq'
  · have hy' : y ∈ L1 ++ L2 ∨ y = (es, x', n + m, cs ++ ys) := by
      rcases List.mem_append.1 hy with hy | hy
      · exact .inl (by simp [hy])
      · rcases List.mem_cons.1 hy with rfl | hy
        · exact .inr rfl
        · exact .inl (by simp [hy])
    rcases hy' with hy' | rfl
    · exact (h.own y (by rcases List.mem_append.1 hy' with hy | hy <;> simp [hy])).kept hkp fun id hyid => (hne y hy' id hyid).1
    · exact ho
  · rw [List.pairwise_append, List.pairwise_cons]
    refine ⟨d1, ⟨fun y hy id hxid hyid => (hne y (by simp [hy]) id hyid).2 hxid, d3⟩, fun y hy z hz id hyid hzid => ?_⟩
    rcases List.mem_cons.1 hz with rfl | hz
    · exact (hne y (by simp [hy]) id hyid).2 hzid
    · exact d4 y hy z (by simp [hz]) id hyid hzid
  · refine hkp.get _ _ (h.at_ y hy) fun hxid => ?_
    obtain ⟨_, h2⟩ := hx
    rcases h2 with ⟨h2, _⟩ | ⟨id', h2, tg, h3⟩
    · rw [h2] at hxid; cases hxid
    · rw [h2] at hxid
      simp only [idOf, Option.some.injEq] at hxid
      rw [hxid, h.at_ y hy] at h3
      have := h.nof y hy
      simp only [Option.some.injEq] at h3
      rw [h3] at this
      cases this
end

/-! ### calls -/
theorem wpCall.mk {f : Nat} {args : List D} {a : List V} {d : D} {K : D → St → Prop} (ha : vs? args = some a) (h : Ev E (.f f) a s d s') (hk : K d s') : wpCall E (.v (.c (.p (.fnc f)))) args s K := by
  obtain ⟨n, hn⟩ := h
  exact ⟨n, d, s', by simp only [callD, ha, hn], hk⟩
theorem wpCall.pf {f : Nat} {args : List D} {a as : List V} {d : D} {K : D → St → Prop} (h : Pf E f as d) (hx : E.xt f = none) (ho : E.opn f = false) (ha : vs? args = some a) (hp : purVs s a = some (as, s')) (hk : K d s') : wpCall E (.v (.c (.p (.fnc f)))) args s K :=
  wpCall.mk ha (Ev.f hx ho hp h) hk
/-- A function on pure data, out of its body. -/
theorem Pf.body {g : Nat} {fn : Func} {c : Code} {args : List V} {d : D} (hf : E.fn g = some fn) (hb : fn.body = some c)
    (h : Wc E none c { e := args.map .v ++ List.replicate (fn.ntmps - args.length) (.tup []), ds := [], s := { ob := [], nx := 0 } } (bodyQ E fn fun d0 s2 => ∃ s3, purD s2 d0 = some (d, s3))) : Pf E g args d := by
  obtain ⟨n, d0, s2, h1, s3, h2⟩ := Ev.body hf hb h
  exact ⟨n, d0, s2, s3, h1, h2⟩
theorem bodyQ.ret {fn : Func} {K : D → St → Prop} {x : Fr} {s : St} {vs : List V} (hk : killAll x.ds x.s = some s) (hr : resultsD E x.e s fn.results.toList = some vs) (h : K (packD vs) s) : bodyQ E fn K .ret x := ⟨s, vs, hk, hr, h⟩
theorem bodyQ.normal {fn : Func} {K : D → St → Prop} {x : Fr} {s : St} {vs : List V} (hk : killAll x.ds x.s = some s) (hr : resultsD E x.e s fn.results.toList = some vs) (h : K (packD vs) s) : bodyQ E fn K .normal x := ⟨s, vs, hk, hr, h⟩
end
end Go.Proofs.YtafaoldmemcigaaGreat.Ab
