/- A part of the proof. -/
import Derived.Test.YtedcnhbblgmdnaaGreatT6
/- An evaluator of the model's code with slices as pure lists: its calls are the machine's. -/
namespace Go.Proofs.YtedcnhbblgmdnaaGreat.Ab
open Go.RowKit
set_option linter.unusedVariables false
set_option linter.unusedSimpArgs false
section
variable {X : Ctx} {G G' : Gh} {s s' : St} {W W' : World} {P : Program} {E : Env} {T : CallT}
structure XtOK (P : Program) (g : Nat) (h : List V → St → Option (D × St)) : Prop where
 free : ∀ args s d s', h args s = some (d, s') → s.nx ≤ s'.nx ∧ Fresh s s'
 calls : ∀ args s d s' X G W (vargs : Array Value) (_ : Inv X G s W) (_ : relVL G s W args vargs.toList), h args s = some (d, s') →
  (∀ W, (callFunc g vargs).run P W = .ok (.enter g vargs) W) ∧ CallsIn (FW none) 0 P g vargs W (PostT X G s W d s')
structure EnvOK (P : Program) (E : Env) : Prop extends EnvTy P E where
 fn : ∀ g f, E.fn g = some f → P.funcs[g]? = some f ∧ (f.name == "runtime.NumGoroutine") = false
 code : ∀ g f c, E.fn g = some f → f.body = some c → codeOK c = true
 mixed : P.follows .mixedOrders = true
 xt : ∀ g h, E.xt g = some h → XtOK P g h
/-! ### leaving -/
theorem kill_ok {fn : Func} {R : Ending → World → Prop} {F : Fence} {n : Nat} {tmps : Array Value} : ∀ {ds : List Nat} {s s' : St} {W : World}, Inv X G s W → killAll ds s = some s' →
  (∀ W', Inv X G s' W' → Ext G s W G s' W' → LeavesInM F n P fn tmps R [] .returning W') → LeavesInM F n P fn tmps R (ds.map fun k => { target := .collected (G.blk k), args := #[] }) .returning W
 | [], s, s', W, hI, h, hR => by simp only [killAll] at h; cases h; exact hR W hI (Ext.refl _ _ _)
 | k :: ds, s, s', W, hI, h, hR => by
  simp only [killAll] at h
  split at h
  ·rename_i hg
   obtain ⟨hB, hW⟩ := hI.ob _ _ hg
   obtain ⟨k1, k2⟩ := put_other hI hg (ob := .dead) trivial rfl rfl hW hB rfl rfl (o' := .deferred none) (fun _ => trivial)
   simp only [List.map_cons]
   refine ⟨by simp, .inl ⟨_, _, rfl, run_takeDeferred hW, kill_ok k1 h fun W' h1 h2 => hR W' h1 (k2.trans h2)⟩⟩
  ·cases h
theorem killAll_free : ∀ {ds : List Nat} {s s' : St}, killAll ds s = some s' → s.nx ≤ s'.nx ∧ Fresh s s'
 | [], s, s', h => by simp only [killAll] at h; cases h; exact ⟨Nat.le_refl _, Fresh.refl _⟩
 | k :: ds, s, s', h => by
  simp only [killAll] at h
  split at h
  ·rename_i hg
   exact fresh_trans (fresh_putt (by rw [hg]; rfl)) (killAll_free h)
  ·cases h
theorem pack_rel {vs : List V} {us : Array Value} (h : relVL G s W vs us.toList) : relD G s W (packD vs) (if h : us.size = 1 then us[0] else .tuple us) := by
 have hl := relVL_length h
 have hl' : us.size = vs.length := by simpa using hl
 match vs, h, hl' with
 | [], h, hl' =>
  have : ¬ us.size = 1 := by simp at hl'; simp [hl']
  rw [dif_neg this]
  exact ⟨us, rfl, h⟩
 | [v], h, hl' =>
  have h1 : us.size = 1 := hl'
  rw [dif_pos h1]
  obtain ⟨u, t, hu, hr, ht⟩ := h
  have : us[0] = u := by
   have h0 : us.toList[0]? = some u := by rw [hu]; rfl
   simp at h0
   exact (Array.getElem?_eq_some_iff.1 h0).2
  rw [this]
  exact hr
 | v :: w :: r, h, hl' =>
  have : ¬ us.size = 1 := by simp at hl'; omega
  rw [dif_neg this]
  exact ⟨us, rfl, h⟩
theorem getD_list (a : Array Value) (i : Nat) (v : Value) : a.getD i v = a.toList.getD i v := by simp [Array.getD_eq_getD_getElem?, List.getD]
theorem run_asAddr (a : Addr) : (asAddr (.pointer (some a))).run P W = .ok a W := rfl
def resF (tmps : Array Value) : ResultVar → Sem Value
 | .tmp t => pure (tmps.getD t undef)
 | .cell a t => do loadVar t (← asAddr (tmps.getD a undef))
theorem list_results (hE : EnvTy P E) (hI : Inv X G s W) {e : List D} {tmps : Array Value} (he : relDL G s W e tmps.toList) : ∀ {l : List ResultVar} {vs : List V}, resultsD E e s l = some vs →
  ∃ us : List Value, (l.mapM (resF tmps)).run P W = .ok us W ∧ relVL G s W vs us
 | [], vs, h => by simp only [resultsD] at h; cases h; exact ⟨[], rfl, rfl⟩
 | .tmp t :: r, vs, h => by
  simp only [resultsD] at h
  split at h
  ·rename_i v vs' hv hvs
   cases h
   obtain ⟨us, h1, h2⟩ := list_results hE hI he hvs
   have hd := vq hv (relDL_getD he t)
   refine ⟨tmps.getD t undef :: us, ?_, _, _, rfl, ?_, h2⟩
   ·simp only [List.mapM_cons, resF, Sem.run_bind, Sem.run_pure, h1, Result.andThen]
   ·rw [getD_list]; exact hd
  ·cases h
 | .cell a t :: r, vs, h => by
  simp only [resultsD] at h
  split at h
  ·rename_i i cs hti hcs
   split at h
   ·rename_i v vs' hv hvs
    cases h
    obtain ⟨us, h1, h2⟩ := list_results hE hI he hvs
    obtain ⟨inf, dd, ht⟩ := hE.tok hti
    obtain ⟨b, o, hp, hc⟩ := cellsAt_rel hI hcs (relDL_getD he a)
    obtain ⟨u, hu, hr⟩ := loadVar_ok ht hv hc
    have hp' : tmps.getD a undef = .pointer (some ⟨b, o, none⟩) := by rw [getD_list]; exact hp
    refine ⟨u :: us, ?_, _, _, rfl, hr, h2⟩
    simp only [List.mapM_cons, resF, Sem.run_bind, hp', run_asAddr, Sem.run_pure, h1, Result.andThen, hu]
   ·cases h
  ·cases h
theorem results_ok (hE : EnvTy P E) (hI : Inv X G s W) {e : List D} {tmps : Array Value} (he : relDL G s W e tmps.toList) {fn : Func} {vs : List V} (h : resultsD E e s fn.results.toList = some vs) :
  ∃ v, (results fn tmps).run P W = .ok v W ∧ relD G s W (packD vs) v := by
 obtain ⟨us, h1, h2⟩ := list_results hE hI he h
 refine ⟨_, ?_, pack_rel (us := us.toArray) (by simpa using h2)⟩
 have e : results fn tmps = (do
   let vs ← fn.results.mapM (resF tmps)
   pure (if h : vs.size = 1 then vs[0] else .tuple vs)) := by
  unfold results resF
  rfl
 rw [e, Array.mapM_eq_mapM_toList, map_eq_pure_bind]
 simp only [Sem.run_bind, h1, Result.andThen, Sem.run_pure]
theorem enter_of_fn (hE : EnvOK P E) {g : Nat} {f : Func} {c : Code} (hf : E.fn g = some f) (hb : f.body = some c) (vargs : Array Value) (W : World) : (callFunc g vargs).run P W = .ok (.enter g vargs) W := by
 obtain ⟨h1, h2⟩ := hE.fn g f hf
 have h2' : ¬ f.name = "runtime.NumGoroutine" := by simpa using h2
 simp [callFunc, go_sem, h1, h2', hb]
theorem args_rel {args : List V} {vargs : Array Value} (h : relVL G s W args vargs.toList) (m : Nat) : relDL G s W (args.map .v ++ List.replicate (m - args.length) (.tup [])) (vargs ++ Array.replicate (m - vargs.size) undef).toList := by
 have hl := relVL_length h
 have hl' : vargs.size = args.length := by simpa using hl
 rw [Array.toList_append, Array.toList_replicate, hl']
 exact relDL_append (relVL_DL h) (relDL_undef _)
theorem bodyD_free (hT : CallsFree T) {n g : Nat} {args : List V} {d : D} (h : bodyD E T n g args s = some (d, s')) : s.nx ≤ s'.nx ∧ Fresh s s' := by
 unfold bodyD at h
 split at h
 ·cases h
 ·split at h
  ·cases h
  ·rename_i fn hfn _ c hc
   have fin : ∀ {y : Fr}, s.nx ≤ y.s.nx ∧ Fresh s y.s → (match killAll y.ds y.s with
    | none => none
    | some s' => match resultsD E y.e s' fn.results.toList with
     | none => none
     | some vs => some (packD vs, s')) = some (d, s') → s.nx ≤ s'.nx ∧ Fresh s s' := fun {y} hy h => by
    split at h
    ·cases h
    ·rename_i s2 hk
     split at h
     ·cases h
     ·cases h; exact fresh_trans hy (killAll_free hk)
   split at h
   ·rename_i y hy; exact fin (evalC_free hT hy) h
   ·rename_i y hy; exact fin (evalC_free hT hy) h
   ·cases h
theorem bodyD_ok (hE : EnvOK P E) (hTc : CallsOK P E T) (hT : CallsPlain T E) (hTf : CallsFree T) {n g : Nat} {args : List V} {vargs : Array Value} {d : D} (hI : Inv X G s W) (ha : relVL G s W args vargs.toList) (h : bodyD E T n g args s = some (d, s')) :
  (∀ W, (callFunc g vargs).run P W = .ok (.enter g vargs) W) ∧ CallsIn (FW none) 0 P g vargs W (PostT X G s W d s') := by
 unfold bodyD at h
 split at h
 ·cases h
 ·rename_i fn hfn
  split at h
  ·cases h
  ·rename_i c hc
   refine ⟨enter_of_fn hE hfn hc vargs, callsIn_of_wp_marks (hE.fn g fn hfn).1 hc trivial ?_⟩
   have h0 : FrRel X G { e := args.map .v ++ List.replicate (fn.ntmps - args.length) (.tup []), ds := [], s := s } { tmps := vargs ++ Array.replicate (fn.ntmps - vargs.size) undef, defers := [] } W :=
    ⟨hI, args_rel ha fn.ntmps, rfl, fun k hk => by cases hk⟩
   have fin : ∀ {y : Fr} {a' : Act} {W' : World} {G' : Gh}, FrRel X G' y a' W' → Ext G s W G' y.s W' → (match killAll y.ds y.s with
    | none => none
    | some s' => match resultsD E y.e s' fn.results.toList with
     | none => none
     | some vs => some (packD vs, s')) = some (d, s') → LeavesInM (FW none) 0 P fn a'.tmps (PostT X G s W d s') a'.defers .returning W' := fun {y a' W' G'} hy he h => by
    split at h
    ·cases h
    ·rename_i s2 hk
     split at h
     ·cases h
     ·rename_i vs hvs
      cases h
      rw [hy.defers]
      refine kill_ok hy.inv hk fun W2 h1 h2 => ?_
      obtain ⟨v, hv, hr⟩ := results_ok hE.toEnvTy h1 (relDL_ext h2 hy.tmps) hvs
      exact ⟨v, hv, v, G', rfl, h1, he.trans h2, hr⟩
   split at h
   ·rename_i y hy
    exact evalC_ok hE.toEnvTy hTc hT hTf hE.mixed _ (hE.code g fn c hfn hc) hy h0 (.inl ⟨rfl, rfl⟩) fun a' W' G' h1 h2 => fin h1 h2 h
   ·rename_i y hy
    exact evalC_ok hE.toEnvTy hTc hT hTf hE.mixed _ (hE.code g fn c hfn hc) hy h0 (.inl ⟨rfl, rfl⟩) fun a' W' G' h1 h2 => fin h1 h2 h
   ·cases h
/-! ### a round -/
theorem setAll_rel : ∀ {l : List (Nat × V)} {us : List (Nat × Value)} {e : List D} {tmps : Array Value}, relDL G s W e tmps.toList → l.map (·.1) = us.map (·.1) → relVL G s W (l.map (·.2)) (us.map (·.2)) →
  relDL G s W (setAll e l) (us.foldl (fun t (p, v) => t.setIfInBounds p v) tmps).toList
 | [], us, e, tmps, he, h1, h2 => by
  cases us with
  | nil => exact he
  | cons _ _ => simp at h1
 | (t, v) :: l, us, e, tmps, he, h1, h2 => by
  cases us with
  | nil => simp at h1
  | cons p us =>
   obtain ⟨i, u⟩ := p
   simp only [List.map_cons, List.cons.injEq] at h1
   obtain ⟨rfl, h1⟩ := h1
   obtain ⟨u', us', hu, hr, hrs⟩ := h2
   simp only [List.map_cons, List.cons.injEq] at hu
   obtain ⟨rfl, rfl⟩ := hu
   simp only [setAll, List.foldl_cons]
   refine setAll_rel ?_ h1 hrs
   rw [Array.toList_setIfInBounds]
   exact relDL_set he _ hr
theorem map_fst_zip_eq {α β : Type} : ∀ {a : List α} {b : List β}, a.length = b.length → (a.zip b).map (·.1) = a ∧ (a.zip b).map (·.2) = b
 | [], [], _ => ⟨rfl, rfl⟩
 | x :: a, y :: b, h => by
  obtain ⟨h1, h2⟩ := map_fst_zip_eq (a := a) (b := b) (by simpa using h)
  exact ⟨by simp [h1], by simp [h2]⟩
 | [], _ :: _, h => by simp at h
 | _ :: _, [], h => by simp at h
theorem roundD_free (hT : CallsFree T) {n l : Nat} {args : List V} {d : D} (h : roundD E T n l args s = some (d, s')) : s.nx ≤ s'.nx ∧ Fresh s s' := by
 unfold roundD at h
 split at h
 ·rename_i r hg
  split at h
  ·cases h
  ·split at h
   ·rename_i y hy
    have f1 := evalC_free hT hy
    split at h
    ·rename_i r1 hg1
     split at h
     ·cases h
     ·split at h
      ·cases h
      ·rename_i x z hz
       have f2 := evalC_free hT hz
       split at h
       ·rename_i r2 hg2
        cases h
        exact fresh_trans (fresh_trans (fresh_trans f1 (fresh_putt (by rw [hg1]; rfl))) f2) (fresh_putt (by rw [hg2]; rfl))
       ·cases h
    ·cases h
   ·cases h
 ·cases h
theorem iterL_ds {f : Fr → Option (Ex × Fr)} (hf : ∀ x ex y, f x = some (ex, y) → y.ds = x.ds) : ∀ {n : Nat} {x : Fr} {ex : Ex} {y : Fr}, iterL f n x = some (ex, y) → y.ds = x.ds
 | 0, x, ex, y, h => by simp [iterL] at h
 | n + 1, x, ex, y, h => by
  simp only [iterL] at h
  split at h
  ·cases h
  ·rename_i z hz; exact (iterL_ds hf h).trans (hf _ _ _ hz)
  ·rename_i i z hz; cases h; exact hf _ _ _ hz
  ·rename_i z hz; cases h; exact hf _ _ _ hz
theorem evalC_ds {n l : Nat} : ∀ {c : Code} {x : Fr} {ex : Ex} {y : Fr}, evalC E T n (some l) c x = some (ex, y) → y.ds = x.ds := by
 intro c
 induction c with
 | skip => intro x ex y h; simp only [evalC] at h; cases h; rfl
 | label l => intro x ex y h; simp only [evalC] at h; cases h; rfl
 | exit id => intro x ex y h; simp only [evalC] at h; cases h; rfl
 | ret => intro x ex y h; simp only [evalC] at h; cases h; rfl
 | region id ops d =>
  intro x ex y h
  simp only [evalC] at h
  repeat' split at h
  all_goals first
   | (cases h; done)
   | (cases h; rfl)
 | seq a b iha ihb =>
  intro x ex y h
  simp only [evalC] at h
  split at h
  ·rename_i z hz; exact (ihb h).trans (iha hz)
  ·exact iha h
 | cond c a b iha ihb =>
  intro x ex y h
  simp only [evalC] at h
  split at h
  ·exact iha h
  ·exact ihb h
  ·cases h
 | block id c ih =>
  intro x ex y h
  simp only [evalC] at h
  split at h
  ·rename_i i z hz
   split at h <;> cases h <;> exact ih hz
  ·exact ih h
 | loop c ih =>
  intro x ex y h
  simp only [evalC] at h
  exact iterL_ds (fun x ex y h => ih h) h
 | rangeFunc f ps assign body _ _ =>
  intro x ex y h
  simp only [evalC] at h
  split at h
  ·cases h
  ·split at h
   ·cases h
   ·rename_i g cap hg ds s1 hen
    have hds : ds = [] := by
     simp only [enterD] at hen
     split at hen <;> cases hen; rfl
    split at h
    ·cases h
    ·split at h
     ·cases h
     ·obtain ⟨rfl, _⟩ := leaveD_s h
      rw [hds]; rfl
 | _ => intro x ex y h; simp [evalC] at h
theorem roundD_ok (hE : EnvOK P E) (hTc : CallsOK P E T) (hT : CallsPlain T E) (hTf : CallsFree T) {n l : Nat} {args : List V} {vargs : Array Value} {d : D} (hI : Inv X G s W) (ha : relVL G s W args vargs.toList) (h : roundD E T n l args s = some (d, s')) :
  ∃ f tmps assign body, (Instr.yield (G.blk l) vargs).run P W = .ok (.round (G.blk l) f tmps assign body) W ∧ RoundIn (FW none) 0 P (G.blk l) f tmps assign body W (PostT X G s W d s') := by
 unfold roundD at h
 split at h
 ·rename_i r hg
  split at h
  ·cases h
  ·rename_i hlen
   obtain ⟨hB, L, hL, l1, l2, l3, l4, l5, l6, l7, l8⟩ := hI.ob _ _ hg
   have hal : vargs.toList.length = args.length := relVL_length ha
   have hsz : vargs.size = L.params.size := by
    have : L.params.toList.length = r.ps.length := by rw [l4]
    simp at this hal
    omega
   refine ⟨_, _, _, _, run_yield (P := P) hL hsz, roundIn_of_wpIn (F := FW none) trivial ?_⟩
   split at h
   ·rename_i y hy
    rw [FW_in]
    have hnf : s.nofr l := ⟨_, hg, rfl⟩
    have h0 : FrRel X G { e := setAll r.e (r.ps.zip args), ds := [], s := s } { tmps := (L.params.zip vargs).foldl (fun tmps (t, a) => tmps.setIfInBounds t a) L.tmps, defers := [] } W := by
     refine ⟨hI, ?_, rfl, fun k hk => by cases hk⟩
     have hz1 := map_fst_zip_eq (a := r.ps) (b := args) (by omega)
     have hz2 := map_fst_zip_eq (a := L.params.toList) (b := vargs.toList) (by simpa using hsz.symm)
     have := setAll_rel (G := G) (s := s) (W := W) (l := r.ps.zip args) (us := L.params.toList.zip vargs.toList) l3 (by rw [hz1.1, hz2.1, l4]) (by rw [hz1.2, hz2.2]; exact ha)
     rw [← Array.toList_zip, Array.foldl_toList] at this
     exact this
    rw [l5]
    refine evalC_ok (X := X) (r := some (G.blk l)) hE.toEnvTy hTc hT hTf hE.mixed _ l7 hy h0 (.inr ⟨l, rfl, rfl, hnf⟩) fun a1 W1 G1 h1 h2 => ?_
    simp only [exOf, Exit.then]
    split at h
    ·rename_i r1 hg1
     split at h
     ·cases h
     ·rename_i hready
      obtain ⟨hB1, L1, hL1, m1, m2, m3, m4, m5, m6, m7, m8⟩ := h1.inv.ob _ _ hg1
      have hb1 : G1.blk l = G.blk l := (h2.bl l hnf).2
      have hready' : L1.state = .ready := by rw [m1]; exact Classical.not_not.1 hready
      split at h
      ·cases h
      ·rename_i x z hz
       obtain ⟨p1, p2⟩ := put_other h1.inv hg1 (ob := .loop { r1 with st := .busy }) trivial rfl rfl hL1 hB1 rfl rfl (o' := .loop { L1 with state := .busy })
        (fun hext => ⟨hB1, _, World.putObj_heap_same (Array.getElem?_eq_some_iff.1 hL1).1, rfl, m2, relDL_ext hext m3, m4, m5, m6, m7, m8⟩)
       have hrun := run_beginRound (P := P) hL1 hready'
       rw [hb1] at hrun p1 p2
       refine ⟨_, hrun, ?_⟩
       rw [l6]
       have ext1 := h2.trans p2
       have hnf1 : (y.s.put l (.loop { r1 with st := .busy })).nofr l := ⟨_, St.get_put_same _ _ _, rfl⟩
       have hyds : y.ds = [] := evalC_ds hy
       ·have h3 : FrRel X G1 { e := y.e, ds := [], s := y.s.put l (.loop { r1 with st := .busy }) } a1 (W1.putObj (G.blk l) (.loop { L1 with state := .busy })) := by
         refine ⟨p1, relDL_ext p2 h1.tmps, by rw [h1.defers, hyds], fun k hk => by cases hk⟩
        refine evalC_ok (X := X) (r := some (G.blk l)) hE.toEnvTy hTc hT hTf hE.mixed _ l8 (by exact hz) h3 (.inr ⟨l, rfl, by rw [hb1], hnf1⟩) fun a2 W2 G2 q1 q2 => ?_
        split at h
        ·rename_i r2 hg2
         cases h
         obtain ⟨hB2, L2, hL2, n1, n2, n3, n4, n5, n6, n7, n8⟩ := q1.inv.ob _ _ hg2
         have hb2 : G2.blk l = G.blk l := (q2.bl l hnf1).2.trans hb1
         have fin : ∀ j : Option Code, ∃ v w', (Instr.endRound (G.blk l) j).run P W2 = .ok v w' ∧ PostT X G s W (P' (.bool j.isNone)) (z.s.put l (.loop { r2 with st := if j.isNone then .ready else .done, pend := j })) (.returned v) w' := fun j => by
          obtain ⟨t1, t2⟩ := put_other q1.inv hg2 (ob := .loop { r2 with st := if j.isNone then .ready else .done, pend := j }) trivial rfl rfl hL2 hB2 rfl rfl (o' := .loop { L2 with state := if j.isNone then .ready else .done, pending := j })
           (fun hext => ⟨hB2, _, World.putObj_heap_same (Array.getElem?_eq_some_iff.1 hL2).1, rfl, rfl, relDL_ext hext n3, n4, n5, n6, n7, n8⟩)
          have hrun := run_endRound (P := P) j hL2
          rw [hb2] at hrun t1 t2
          exact ⟨_, _, hrun, _, G2, rfl, t1, ext1.trans (q2.trans t2), P'_mk rfl⟩
         cases x with
         | normal => exact fin none
         | ret => exact fin (some .ret)
         | exit i => exact fin (some (.exit i))
        ·cases h
    ·cases h
   ·cases h
 ·cases h
end
end Go.Proofs.YtedcnhbblgmdnaaGreat.Ab
/- An evaluator of the model's code with slices as pure lists: it is the machine's. -/
namespace Go.Proofs.YtedcnhbblgmdnaaGreat.Ab
open Go.RowKit
set_option linter.unusedVariables false
set_option linter.unusedSimpArgs false
section
variable {X : Ctx} {G G' : Gh} {s s' : St} {W W' : World} {P : Program} {E : Env} {T : CallT}
theorem purC_free {c : C} {x : Pd} (h : purC s c = some (x, s')) : s.nx ≤ s'.nx ∧ Fresh s s' := by
 have rf : s.nx ≤ s.nx ∧ Fresh s s := ⟨Nat.le_refl _, Fresh.refl _⟩
 cases c with
 | mt r off n es =>
  simp only [purC] at h
  split at h
  ·rename_i cs fz hg
   split at h
   ·split at h
    ·cases h; exact fresh_putt (by rw [hg]; rfl)
    ·cases h
   ·cases h
  ·cases h
 | gs m id off n es =>
  simp only [purC] at h
  split at h
  ·rename_i hg
   split at h
   ·split at h
    ·cases h; exact fresh_putt (by rw [hg]; rfl)
    ·cases h
   ·cases h
  ·cases h
 | _ =>
  simp only [purC] at h
  split at h
  ·cases h; exact rf
  ·cases h
theorem purCs_free : ∀ {l : List C} {s s' : St} {ps : List Pd}, purCs s l = some (ps, s') → s.nx ≤ s'.nx ∧ Fresh s s'
 | [], s, s', ps, h => by simp only [purCs] at h; cases h; exact ⟨Nat.le_refl _, Fresh.refl _⟩
 | c :: r, s, s', ps, h => by
  simp only [purCs] at h
  split at h
  ·cases h
  ·rename_i x s1 hc
   split at h
   ·cases h
   ·rename_i xs s2 hcs
    cases h
    exact fresh_trans (purC_free hc) (purCs_free hcs)
theorem purV_free {v v' : V} (h : purV s v = some (v', s')) : s.nx ≤ s'.nx ∧ Fresh s s' := by
 cases v with
 | c x =>
  simp only [purV] at h
  split at h
  ·cases h
  ·rename_i hc; cases h; exact purC_free hc
 | agg xs =>
  simp only [purV] at h
  split at h
  ·cases h
  ·rename_i hc; cases h; exact purCs_free hc
theorem purVs_free : ∀ {l l' : List V} {s s' : St}, purVs s l = some (l', s') → s.nx ≤ s'.nx ∧ Fresh s s'
 | [], l', s, s', h => by simp only [purVs] at h; cases h; exact ⟨Nat.le_refl _, Fresh.refl _⟩
 | c :: r, l', s, s', h => by
  simp only [purVs] at h
  split at h
  ·cases h
  ·rename_i x s1 hc
   split at h
   ·cases h
   ·rename_i xs s2 hcs
    cases h
    exact fresh_trans (purV_free hc) (purVs_free hcs)
theorem purC_plain {c : C} (h : plainC c = true) : ∃ x, ∀ t : St, purC t c = some (x, t) := by
 cases c <;> first
  | (simp [plainC] at h; done)
  | exact ⟨_, fun t => rfl⟩
theorem purCs_plain : ∀ {l : List C}, l.all plainC = true → ∃ xs, ∀ t : St, purCs t l = some (xs, t)
 | [], _ => ⟨[], fun _ => rfl⟩
 | c :: r, h => by
  simp only [List.all_cons, Bool.and_eq_true] at h
  obtain ⟨x, hx⟩ := purC_plain h.1
  obtain ⟨xs, hxs⟩ := purCs_plain h.2
  exact ⟨x :: xs, fun t => by simp only [purCs, hx, hxs]⟩
theorem purV_plain {v : V} (h : plainV v = true) : ∃ x, ∀ t : St, purV t v = some (x, t) := by
 cases v with
 | c x => obtain ⟨y, hy⟩ := purC_plain h; exact ⟨.c (.p y), fun t => by simp only [purV, hy]⟩
 | agg xs => obtain ⟨y, hy⟩ := purCs_plain h; exact ⟨.agg (y.map .p), fun t => by simp only [purV, hy]⟩
theorem purVs_plain : ∀ {l : List V}, (∀ v ∈ l, plainV v = true) → ∃ xs, ∀ t : St, purVs t l = some (xs, t)
 | [], _ => ⟨[], fun _ => rfl⟩
 | c :: r, h => by
  obtain ⟨x, hx⟩ := purV_plain (h c (List.mem_cons_self ..))
  obtain ⟨xs, hxs⟩ := purVs_plain fun v hv => h v (List.mem_cons_of_mem _ hv)
  exact ⟨x :: xs, fun t => by simp only [purVs, hx, hxs]⟩
theorem runF_free (hE : EnvOK P E) : ∀ n, CallsFree (runF E n)
 | 0 => ⟨fun t args s d s' h => by simp [runF] at h⟩
 | n + 1 => ⟨fun t args s d s' h => by
  have ih := runF_free hE n
  cases t with
  | y l => exact roundD_free ih h
  | o g => exact bodyD_free ih h
  | f g =>
   simp only [runF] at h
   split at h
   ·rename_i hx hxt; exact (hE.xt g hx hxt).free _ _ _ _ h
   ·split at h
    ·exact bodyD_free ih h
    ·split at h
     ·exact bodyD_free ih h
     ·rename_i as s1 hp
      split at h
      ·cases h
      ·split at h
       ·cases h
       ·cases h; exact purVs_free hp⟩
theorem runF_plain (E : Env) : ∀ n, CallsPlain (runF E n) E
 | 0 => ⟨fun g args s d s' h1 h2 hp h => by simp [runF] at h⟩
 | n + 1 => ⟨fun g args s d s' h1 h2 hp h => by
  obtain ⟨xs, hxs⟩ := purVs_plain hp
  simp only [runF, h2, h1, Bool.false_eq_true, if_false, hxs] at h ⊢
  split at h
  ·cases h
  ·rename_i d2 s2 hb
   split at h
   ·cases h
   ·rename_i d3 s3 hd
    cases h
    exact ⟨rfl, fun t => by simp only [hb, hd]⟩⟩
theorem pure_call (hE : EnvOK P E) (hTc : CallsOK P E T) (hT : CallsPlain T E) (hTf : CallsFree T) {n g : Nat} {args as : List V} {vargs : Array Value} {d d' : D} {s1 s2 s3 : St} (hI : Inv X G s W) (ha : relVL G s W args vargs.toList)
  (hp : purVs s args = some (as, s1)) (hb : bodyD E T n g as { ob := [], nx := 0 } = some (d, s2)) (hd : purD s2 d = some (d', s3)) :
  (∀ W, (callFunc g vargs).run P W = .ok (.enter g vargs) W) ∧ CallsIn (FW none) 0 P g vargs W (PostT X G s W d' s1) := by
 obtain ⟨G1, i1, e1, r1, p1⟩ := purVs_ok hI hp ha
 let X' : Ctx := { B := W.heap.size, W0 := W, imm0 := G1.imm }
 let s0 : St := { ob := [], nx := 0 }
 have hnone : ∀ k, s0.get k = none := fun k => rfl
 have i0 : Inv X' G1 s0 W := ⟨Below.refl _ W, Nat.le_refl _, i1.immlt, fun b o h => .inl h, fun k o h => (by rw [hnone] at h; cases h), fun k o h => (by rw [hnone] at h; cases h), fun j k oj ok h => (by rw [hnone] at h; cases h)⟩
 have r0 : relVL G1 s0 W as vargs.toList := relVL_pure p1 (fun b o h => ⟨h, rfl⟩) r1
 obtain ⟨hin, hc⟩ := bodyD_ok hE hTc hT hTf i0 r0 hb
 refine ⟨hin, hc.mono fun e W2 hpost => ?_⟩
 obtain ⟨v, G2, rfl, i2, e2, r2⟩ := hpost
 obtain ⟨G3, i3, e3, r3, p3⟩ := purD_ok i2 hd r2
 have e23 := e2.trans e3
 let G4 : Gh := { imm := G3.imm, blk := G1.blk, cap := G1.cap }
 have hbel : Below W.heap.size W W2 := i3.below
 have hold : ∀ b o, b < W.heap.size → G3.imm b o → G1.imm b o := fun b o hb h => (i3.immnew b o h).resolve_right (Nat.not_le.2 hb)
 have e4 : Ext G1 s1 W G4 s1 W2 := ⟨e23.imm, Nat.le_refl _, fun k h => h, fun k es m' tg' h hf => ⟨m', tg', hf, Nat.le_refl _, fun _ => ⟨rfl, rfl⟩⟩, fun k h => ⟨h, rfl⟩, fun k es m' cs' fz' h hf => ⟨m', cs', fz', hf, Nat.le_refl _, fun _ => ⟨rfl, rfl⟩⟩⟩
 have i4 : Inv X G4 s1 W2 := by
  refine ⟨i1.below.trans (hbel.mono i1.bsz), Nat.le_trans i1.bsz hbel.size, i3.immlt, fun b o h => ?_, i1.lt, fun k o h => ?_, i1.inj⟩
  ·by_cases hb : b < W.heap.size
   ·exact i1.immnew b o (hold b o hb h)
   ·exact .inr (Nat.le_trans i1.bsz (Nat.not_lt.1 hb))
  ·have h0 := i1.ob k o h
   by_cases hl : o.live
   ·have hlt := relOb_lt h0 hl
    exact relOb_keep e4 rfl rfl (hbel.block _ hlt) (fun o h => hold _ o hlt h) h0
   ·exact relOb_dead hl
 exact ⟨v, G4, rfl, i4, e1.trans e4, relD_pure (G1 := G3) (G2 := G4) p3 (fun b o h => ⟨h, rfl⟩) r3⟩
theorem runF_ok (hE : EnvOK P E) : ∀ n, CallsOK P E (runF E n)
 | 0 => ⟨fun t args s d s' h => by simp [runF] at h, fun g args s d s' X G W vargs hI ha h => by simp [runF] at h, fun l args s d s' X G W vargs hI ha h => by simp [runF] at h⟩
 | n + 1 => by
  have ih := runF_ok hE n
  have ihf := runF_free hE n
  have ihp := runF_plain E n
  refine ⟨fun t args s d s' h => ((runF_free hE (n + 1)).free t args s d s' h).2, fun g args s d s' X G W vargs hI ha h => ?_, fun l args s d s' X G W vargs hI ha h => roundD_ok hE ih ihp ihf hI ha h⟩
  rcases h with h | h
  ·simp only [runF] at h
   split at h
   ·rename_i hx hxt; exact (hE.xt g hx hxt).calls _ _ _ _ X G W vargs hI ha h
   ·split at h
    ·exact bodyD_ok hE ih ihp ihf hI ha h
    ·split at h
     ·exact bodyD_ok hE ih ihp ihf hI ha h
     ·rename_i as s1 hp
      split at h
      ·cases h
      ·rename_i d2 s2 hb
       split at h
       ·cases h
       ·rename_i d3 s3 hd
        cases h
        exact pure_call hE ih ihp ihf hI ha hp hb hd
  ·exact bodyD_ok hE ih ihp ihf hI ha h
end
end Go.Proofs.YtedcnhbblgmdnaaGreat.Ab
