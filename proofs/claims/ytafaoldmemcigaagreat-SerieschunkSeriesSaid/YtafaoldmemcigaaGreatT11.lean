/- An evaluator of the model's code with slices as pure lists: walking loops over iterators, and the library's functions that are told. -/
import Derived.Test.YtafaoldmemcigaaGreatT7
namespace Go.Proofs.YtafaoldmemcigaaGreat.Ab
set_option linter.unusedVariables false
set_option linter.unusedSimpArgs false

section
variable {E : Env} {s s' : St}
theorem wpCall.xt {g : Nat} {h : List V → St → Option (D × St)} {args : List D} {a : List V} {d : D} {K : D → St → Prop} (hx : E.xt g = some h) (ha : vs? args = some a) (hr : h a s = some (d, s')) (hk : K d s') : wpCall E (.v (.c (.p (.fnc g)))) args s K :=
  ⟨1, d, s', by simp only [callD, ha, runF, hx, hr], hk⟩
/-- What is asked behind a loop over an iterator. -/
def leaveQ (Q : Ex → Fr → Prop) (pend : Option Code) (y : Fr) : Prop :=
  match pend with
  | none => Q .normal y
  | some .ret => Q .ret y
  | some (.exit i) => Q (.exit i) y
  | some _ => False
theorem Wc.range {ro : Option Nat} {f : Operand} {ps : Array Nat} {assign body : Code} {x : Fr} {Q : Ex → Fr → Prop} {g : Nat} {cap : List V} {ds : List Nat} {s1 : St} {fn : Func} {c : Code} (ht : targetOf (opd x.e f) = some (g, cap)) (hen : enterD x.s ro = some (ds, s1)) (hf : E.fn g = some fn) (hb : fn.body = some c)
    (h : Wc E none c { e := (V.c (.fn (.yield x.s.nx) [] []) :: cap).map .v ++ List.replicate (fn.ntmps - (V.c (.fn (.yield x.s.nx) [] []) :: cap).length) (.tup []), ds := [], s := s1.put x.s.nx (.loop { st := .ready, pend := none, e := x.e, ps := ps.toList, assign := assign, body := body }) }
      (bodyQ E fn fun _ s3 => ∃ pend s4, endLoopD s3 x.s.nx = some (pend, s4) ∧ leaveQ Q pend { e := x.e, ds := ds ++ x.ds, s := s4 })) : Wc E ro (.rangeFunc f ps assign body) x Q := by
  obtain ⟨n, d, s3, h1, pend, s4, h2, h3⟩ := Ev.body hf hb h
  have hrun : runF E (n + 1) (.o g) (V.c (.fn (.yield x.s.nx) [] []) :: cap) (s1.put x.s.nx (.loop { st := .ready, pend := none, e := x.e, ps := ps.toList, assign := assign, body := body })) = some (d, s3) := h1
  have ev : ∀ ex y, leaveD pend { e := x.e, ds := ds ++ x.ds, s := s4 } = some (ex, y) → evalC E (runF E (n + 1)) (n + 1) ro (.rangeFunc f ps assign body) x = some (ex, y) := fun ex y hl => by
    simp only [evalC, ht, hen, hrun, h2, hl]
  cases pend with
  | none => exact ⟨n + 1, _, _, ev _ _ rfl, h3⟩
  | some c =>
    cases c with
    | ret => exact ⟨n + 1, _, _, ev _ _ rfl, h3⟩
    | exit i => exact ⟨n + 1, _, _, ev _ _ rfl, h3⟩
    | _ => exact h3.elim
/-- How a round's end is told. -/
def jumpOf : Ex → Option Code
  | .normal => none
  | .ret => some .ret
  | .exit i => some (.exit i)
theorem wpCall.yield {l : Nat} {args : List D} {a : List V} {r : LoopR} {K : D → St → Prop} (ha : vs? args = some a) (hg : s.get l = some (.loop r)) (hl : r.ps.length = a.length)
    (h : Wc E (some l) r.assign { e := setAll r.e (r.ps.zip a), ds := [], s := s } fun ex y => ex = .normal ∧ ∃ r1, y.s.get l = some (.loop r1) ∧ r1.st = .ready ∧
      Wc E (some l) r.body { e := y.e, ds := [], s := y.s.put l (.loop { r1 with st := .busy }) } fun x z => ∃ r2, z.s.get l = some (.loop r2) ∧
        K (P' (.bool (jumpOf x).isNone)) (z.s.put l (.loop { r2 with st := if (jumpOf x).isNone then .ready else .done, pend := jumpOf x }))) : wpCall E (.v (.c (.fn (.yield l) [] []))) args s K := by
  obtain ⟨n, ex, y, h1, rfl, r1, h2, h3, m, x, z, h4, r2, h5, h6⟩ := h
  have l1 : n ≤ max n m := Nat.le_max_left _ _
  have l2 : m ≤ max n m := Nat.le_max_right _ _
  have e1 := evalC_mono (runF_le (E := E) l1) l1 h1
  have e2 := evalC_mono (runF_le (E := E) l2) l2 h4
  refine ⟨max n m + 1, _, _, ?_, h6⟩
  simp only [callD, ha, runF, roundD, hg]
  rw [if_neg (by simpa using hl)]
  simp only [e1, h2]
  rw [if_neg (by simp [h3])]
  simp only [e2, h5]
  cases x <;> rfl
end
attribute [go_sem] kinL kinS wpL kont wpLD kontD clsOf wpLT kontT touch List.reverse_cons List.reverse_nil gD dst1 putD opd getD_set List.length_set List.getD_cons_succ List.getD_cons_zero List.set_cons_succ List.set_cons_zero List.set_nil calD evalOp binD unD intI_add intI_sub intI_mul intI_quo intI_rem intI_and intI_or intI_xor intI_eql intI_neq intI_lss intI_leq intI_gtr intI_geq shiftI_shl shiftI_shr strI keep P' D.bool? D.int? D.c? D.v? D.p? List.cons_append List.nil_append List.replicate List.map_cons List.map_nil if_true if_false decide_true decide_false constD toC List.getElem?_toArray List.getElem?_cons_succ List.getElem?_cons_zero beq_self_eq_true Bool.false_eq_true Bool.not_true Bool.not_false Bool.true_beq Bool.false_beq cellsAt_ref takeV mkV allM lenD_lst lenD_own lenD_mt lenD_nils lenD_str lenK lenS srcD listOf_lst listOf_own listOf_nils minD maxD builtinD sliceD sliceC fieldAddrD fieldD indexD convD stepK_some buildD buildSliceD makeSliceD cs? vs? callD cellsV St.get_put St.nx_put St.get_adv St.nx_adv Nat.add_assoc loI goS Array.toList_map Option.map_some Option.map_none IntKind.bits List.length_cons List.length_nil List.size_toArray ne_eq not_true_eq_false not_false_eq_true or_self or_false false_or or_true true_or and_true true_and and_self and_false false_and gt_iff_lt ge_iff_le Nat.not_lt_zero Nat.zero_le Nat.zero_add Nat.add_zero fillD repl List.append_nil Nat.zero_mul Nat.mul_zero Nat.one_mul Nat.mul_one purS setR List.take_zero List.drop_zero List.take_succ_cons List.drop_succ_cons List.drop_nil List.take_nil Nat.lt_irrefl Nat.le_refl Int.toNat_natCast Bool.true_and Bool.and_true Bool.and_self Bool.and_false Bool.false_and Nat.le_add_left Int.natCast_nonneg reduceIte reduceCtorEq Int.reduceToNat Int.reduceEq Int.reduceNe Int.reduceMul Int.reduceAdd Int.reduceSub Int.reduceNeg Nat.reduceAdd Nat.reduceMul Nat.reduceLeDiff Nat.reduceEqDiff Nat.reduceBEq Int.reduceLT Int.reduceLE Nat.reduceSub Nat.reduceLT Nat.reduceGT
end Go.Proofs.YtafaoldmemcigaaGreat.Ab
