/- An evaluator of the model's code with slices as pure lists: its operations on values are the machine's. -/
import Derived.Test.YtafaoldmemcigaaGreatT0
import Derived.Tactics
import Derived.Laws.Cells
import Derived.Laws.Entries
namespace Go.Proofs.YtafaoldmemcigaaGreat.Ab
open Go.RowKit
set_option linter.unusedVariables false
set_option linter.unusedSimpArgs false

section
variable {G : Gh} {s : St} {W : World} {P : Program}

theorem toC_rel {v : Value} {c : C} (h : toC v = some c) : relC G s W c v := by
  unfold toC at h
  split at h <;> first
    | (cases h; simp only [relC, relPd]; done)
    | (cases h; simp only [relC, relPd]; exact ⟨_, rfl, rfl⟩)
    | (cases h; simp only [relC]; exact ⟨none, rfl⟩)
    | cases h
theorem allM_toC : ∀ {l : List Value} {cs : List C}, allM toC l = some cs → relCL G s W cs l
  | [], cs, h => by simp [allM] at h; subst h; rfl
  | v :: r, cs, h => by
    simp only [allM] at h
    split at h
    · cases h
    · rename_i y hy
      split at h
      · cases h
      · rename_i ys hys
        cases h
        exact ⟨v, r, rfl, toC_rel hy, allM_toC hys⟩
theorem constD_rel (v : Value) : relD G s W (constD v) v := by
  unfold constD
  split
  · rename_i c h; exact toC_rel (G := G) (s := s) (W := W) h
  · trivial
theorem opd_rel {e : List D} {a : Act} (h : relDL G s W e a.tmps.toList) (x : Operand) : relD G s W (opd e x) (a.eval x) := by
  cases x with
  | tmp t =>
    have := relDL_getD h t
    simpa [opd, Act.eval] using this
  | const v => exact constD_rel v
  | func f => simp only [opd, P', relD, relV, relC, relPd, Act.eval]
  | global g => trivial

/-! ### types -/
structure TOK (P : Program) (t : Nat) (i : TI) (inf : TypeInfo) (d : TypeDesc) : Prop where
  info : P.info? t = some inf
  und : P.underlying t = some d
  kn : knOf P d = some i.kn
  size : inf.size = i.size
  agg : isAggD d = i.agg
  bytes : inf.bytes = i.bytes
  zero : ∀ z, i.zero = some z → ∃ zv, inf.zero = some zv ∧ allM toC zv.cells.toList = some z

theorem tOK {t : Nat} {i : TI} {b : Bool} (h : tiOf P t = some { i with eq := b }) : ∃ inf d, TOK P t i inf d := by
  unfold tiOf at h
  split at h
  · rename_i inf d h1 h2
    split at h
    · rename_i k h3
      cases i
      simp only [Option.some.injEq, TI.mk.injEq] at h
      obtain ⟨rfl, rfl, rfl, h4, rfl, _⟩ := h
      refine ⟨inf, d, h1, h2, h3, rfl, rfl, rfl, fun z hz => ?_⟩
      subst hz
      cases hq : inf.zero with
      | none => rw [hq] at h4; cases h4
      | some zv => rw [hq] at h4; exact ⟨zv, rfl, h4⟩
    · cases h
  · cases h

variable {t : Nat} {i : TI} {inf : TypeInfo} {d : TypeDesc}
theorem TOK.sizeOf (h : TOK P t i inf d) : (sizeOf t).run P W = .ok i.size W := by simp [Go.sizeOf, typeInfo, h.info, h.size]
theorem TOK.typeInfo (h : TOK P t i inf d) : (typeInfo t).run P W = .ok inf W := by simp [Go.typeInfo, h.info]
theorem TOK.underlying (h : TOK P t i inf d) : (underlying t).run P W = .ok d W := run_underlying h.und W
theorem TOK.isAgg (h : TOK P t i inf d) : (isAgg t).run P W = .ok i.agg W := by
  rw [← h.agg]
  unfold Go.isAgg
  rw [Sem.run_bind, h.underlying]
  cases d <;> simp [isAggD]
theorem TOK.zeroValue (h : TOK P t i inf d) {z : List C} (hz : i.zero = some z) : ∃ zv, (zeroValue t).run P W = .ok zv W ∧ allM toC zv.cells.toList = some z := by
  obtain ⟨zv, h1, h2⟩ := h.zero z hz
  exact ⟨zv, by simp [Go.zeroValue, Go.typeInfo, h.info, h1], h2⟩
theorem TOK.slice (h : TOK P t i inf d) {e : Nat} (hk : i.kn = .slice e) : d = .slice e := by
  have := h.kn
  rw [hk] at this
  cases d <;> simp [knOf] at this <;> first | (subst this; rfl) | (split at this <;> simp at this)
theorem TOK.str (h : TOK P t i inf d) (hk : i.kn = .str) : d = .string := by
  have := h.kn
  rw [hk] at this
  cases d <;> simp [knOf] at this <;> first | rfl | (split at this <;> simp at this)
theorem TOK.array (h : TOK P t i inf d) {n e : Nat} (hk : i.kn = .array n e) : d = .array n e := by
  have := h.kn
  rw [hk] at this
  cases d <;> simp [knOf] at this <;> first | (obtain ⟨rfl, rfl⟩ := this; rfl) | (split at this <;> simp at this)
theorem TOK.boolT (h : TOK P t i inf d) (hk : i.kn = .bool) : d = .bool := by
  have := h.kn
  rw [hk] at this
  cases d <;> simp [knOf] at this <;> first | rfl | (split at this <;> simp at this)
theorem TOK.intT (h : TOK P t i inf d) {k : IntKind} (hk : i.kn = .int k) : d = .int k := by
  have := h.kn
  rw [hk] at this
  cases d <;> simp [knOf] at this <;> first | (subst this; rfl) | (split at this <;> simp at this)
theorem TOK.structT (h : TOK P t i inf d) {fs : List (Nat × Nat × Bool)} (hk : i.kn = .struct fs) : ∃ fl, d = .struct fl ∧ allM (fldOf P) fl.toList = some fs := by
  have := h.kn
  rw [hk] at this
  cases d <;> simp [knOf] at this <;> (split at this <;> simp at this)
  rename_i fl _ l hl
  subst this
  exact ⟨fl, rfl, hl⟩
theorem allM_get {α β : Type} {f : α → Option β} : ∀ {l : List α} {ys : List β}, allM f l = some ys → ∀ (i : Nat) y, ys[i]? = some y → ∃ x, l[i]? = some x ∧ f x = some y
  | [], ys, h, i, y, e => by simp [allM] at h; subst h; simp at e
  | x :: r, ys, h, i, y, e => by
    simp only [allM] at h
    split at h
    · cases h
    · rename_i z hz
      split at h
      · cases h
      · rename_i zs hzs
        cases h
        cases i with
        | zero => simp at e; subst e; exact ⟨x, rfl, hz⟩
        | succ i => simp at e; obtain ⟨u, hu, hf⟩ := allM_get hzs i y e; exact ⟨u, by simpa using hu, hf⟩
theorem allM_len {α β : Type} {f : α → Option β} : ∀ {l : List α} {ys : List β}, allM f l = some ys → ys.length = l.length
  | [], ys, h => by simp [allM] at h; subst h; rfl
  | x :: r, ys, h => by
    simp only [allM] at h
    split at h
    · cases h
    · split at h
      · cases h
      · rename_i zs hzs
        cases h
        simp [allM_len hzs]

/-! ### what a program's evaluator is asked -/
def eqV1 : Value → Value → Option Bool
  | .int k a, .int k' b => if k = k' then some (a == b) else none
  | .bool a, .bool b => some (a == b)
  | .string a, .string b => some (a.data.toList == b.data.toList)
  | _, _ => none
def eqVs : List Value → List Value → Option Bool
  | [], [] => some true
  | x :: r, y :: t => match eqV1 x y with
    | none => none
    | some b => match eqVs r t with
      | none => none
      | some c => some (b && c)
  | _, _ => none
theorem eqS_rel {I : Nat → Nat → Prop} {x y : Pd} {v w : Value} {b : Bool} (hx : relPd I W x v) (hy : relPd I W y w) (h : eqS x y = some b) : eqV1 v w = some b := by
  unfold eqS at h
  split at h
  · simp only [relPd] at hx hy; subst hx hy; exact h
  · simp only [relPd] at hx hy; subst hx hy; exact h
  · simp only [relPd] at hx hy
    obtain ⟨s1, rfl, rfl⟩ := hx
    obtain ⟨s2, rfl, rfl⟩ := hy
    exact h
  · cases h
theorem eqL_rel : ∀ {xs ys : List C} {vs ws : List Value} {b : Bool}, relCL G s W xs vs → relCL G s W ys ws → eqL xs ys = some b → eqVs vs ws = some b
  | [], [], vs, ws, b, hx, hy, h => by
    simp only [relCL] at hx hy; subst hx hy; simpa [eqL, eqVs] using h
  | .p x :: r, .p y :: t, vs, ws, b, hx, hy, h => by
    simp only [relCL] at hx hy
    obtain ⟨v, vt, rfl, hv, hr⟩ := hx
    obtain ⟨w, wt, rfl, hw, ht⟩ := hy
    simp only [eqL] at h
    split at h
    · cases h
    · rename_i b1 hb1
      split at h
      · cases h
      · rename_i c hc
        cases h
        have h1 := eqS_rel hv hw hb1
        have h2 := eqL_rel hr ht hc
        simp [eqVs, h1, h2]
  | [], y :: t, _, _, _, _, _, h => by simp [eqL] at h
  | x :: r, [], _, _, _, _, _, h => by cases x <;> simp [eqL] at h
  | .nils :: r, y :: t, _, _, _, _, _, h => by simp [eqL] at h
  | .own _ _ _ :: r, y :: t, _, _, _, _, _, h => by simp [eqL] at h
  | .mt _ _ _ _ :: r, y :: t, _, _, _, _, _, h => by simp [eqL] at h
  | .ref _ _ :: r, y :: t, _, _, _, _, _, h => by simp [eqL] at h
  | .rp _ _ :: r, y :: t, _, _, _, _, _, h => by simp [eqL] at h
  | .fn _ _ _ :: r, y :: t, _, _, _, _, _, h => by simp [eqL] at h
  | .p x :: r, .nils :: t, _, _, _, _, _, h => by simp [eqL] at h
  | .p x :: r, .own _ _ _ :: t, _, _, _, _, _, h => by simp [eqL] at h
  | .p x :: r, .mt _ _ _ _ :: t, _, _, _, _, _, h => by simp [eqL] at h
  | .p x :: r, .ref _ _ :: t, _, _, _, _, _, h => by simp [eqL] at h
  | .p x :: r, .rp _ _ :: t, _, _, _, _, _, h => by simp [eqL] at h
  | .p x :: r, .fn _ _ _ :: t, _, _, _, _, _, h => by simp [eqL] at h

theorem kinS_rel {I : Nat → Nat → Prop} {x y : Pd} {v w : Value} (hx : relPd I W x v) (hy : relPd I W y w) (h : kinS x y = true) : ∃ b, eqV1 v w = some b := by
  unfold kinS at h
  split at h
  · simp only [relPd] at hx hy; subst hx hy
    exact ⟨_, by simp only [eqV1]; rw [if_pos (by simpa using h)]⟩
  · simp only [relPd] at hx hy; subst hx hy; exact ⟨_, rfl⟩
  · simp only [relPd] at hx hy
    obtain ⟨s1, rfl, rfl⟩ := hx
    obtain ⟨s2, rfl, rfl⟩ := hy
    exact ⟨_, rfl⟩
  · cases h
theorem kinL_rel : ∀ {z xs : List C} {zs vs : List Value}, relCL G s W z zs → relCL G s W xs vs → kinL z xs = true → ∃ b, eqVs zs vs = some b
  | [], [], zs, vs, hx, hy, h => by
    simp only [relCL] at hx hy; subst hx hy; exact ⟨true, rfl⟩
  | [], y :: t, _, _, _, _, h => by simp [kinL] at h
  | x :: r, [], _, _, _, _, h => by cases x <;> simp [kinL] at h
  | x :: r, y :: t, zs, vs, hx, hy, h => by
    cases x <;> cases y <;> first | (simp [kinL] at h; done) | skip
    simp only [relCL] at hx hy
    obtain ⟨v, vt, rfl, hv, hr⟩ := hx
    obtain ⟨w, wt, rfl, hw, ht⟩ := hy
    simp only [kinL, Bool.and_eq_true] at h
    obtain ⟨b1, h1⟩ := kinS_rel hv hw h.1
    obtain ⟨b2, h2⟩ := kinL_rel hr ht h.2
    exact ⟨b1 && b2, by simp only [eqVs, h1, h2]⟩

/-- '==' at a type of structs or arrays of plain parts. -/
def EqOK (P : Program) (t : Nat) : Prop := ∀ (W : World) (zv : Value) (xs ys : Array Value) (b b0 : Bool), (zeroValue t).run P W = .ok zv W → eqVs zv.cells.toList xs.toList = some b0 → eqVs xs.toList ys.toList = some b →
  (∀ (op : BinOp) (x y : Operand), (eqGuard op t x y (.agg xs) (.agg ys)).run P W = .ok () W) ∧ (Op.equal t (.agg xs) (.agg ys)).run P W = .ok b W

structure EnvTy (P : Program) (E : Env) : Prop where
  ti : ∀ t i, E.ti t = some i → tiOf P t = some { i with eq := false }
  eq : ∀ t i, E.ti t = some i → i.eq = true → EqOK P t

theorem EnvTy.tok {E : Env} (h : EnvTy P E) {t : Nat} {i : TI} (ht : E.ti t = some i) : ∃ inf d, TOK P t i inf d := tOK (h.ti t i ht)

/-! ### numbers and strings -/
theorem bytes_toList (t : ByteArray) : t.toList = t.data.toList := by
  have h : ∀ (n i : Nat) (r : List UInt8), t.size - i = n → ByteArray.toList.loop t i r = r.reverse ++ t.data.toList.drop i := by
    intro n
    induction n with
    | zero =>
      intro i r hn
      unfold ByteArray.toList.loop
      rw [if_neg (by omega), List.drop_eq_nil_of_le (by simp; show t.data.size ≤ i; have : t.size = t.data.size := rfl; omega)]
      simp
    | succ n ih =>
      intro i r hn
      unfold ByteArray.toList.loop
      rw [if_pos (by omega), ih (i + 1) _ (by omega)]
      have hi : i < t.data.toList.length := by have : t.size = t.data.size := rfl; simp; omega
      rw [List.drop_eq_getElem_cons hi]
      simp [ByteArray.get!]
      have : i < t.data.size := by simpa using hi
      rw [getElem!_pos t.data i this]
  unfold ByteArray.toList
  rw [h _ 0 [] rfl]
  simp

theorem P'_int {k : IntKind} {n : Int} {v : Value} (h : relD G s W (P' (.int k n)) v) : v = .int k n := by simpa [P', relD, relV, relC, relPd] using h
theorem P'_bool {b : Bool} {v : Value} (h : relD G s W (P' (.bool b)) v) : v = .bool b := by simpa [P', relD, relV, relC, relPd] using h
theorem P'_str {l : List UInt8} {v : Value} (h : relD G s W (P' (.str l)) v) : ∃ t : ByteArray, v = .string t ∧ t.data.toList = l := by simpa [P', relD, relV, relC, relPd] using h
theorem P'_mk {x : Pd} {v : Value} (h : relPd G.imm W x v) : relD G s W (P' x) v := by simpa [P', relD, relV, relC] using h
theorem P'_mkInt (k : IntKind) (n : Int) : relD G s W (P' (.int k n)) (.int k n) := by simp [P', relD, relV, relC, relPd]
theorem P'_mkBool (b : Bool) : relD G s W (P' (.bool b)) (.bool b) := by simp [P', relD, relV, relC, relPd]
theorem P'_mkStr (t : ByteArray) : relD G s W (P' (.str t.data.toList)) (.string t) := by simp [P', relD, relV, relC, relPd]

theorem intI_run {op : BinOp} {k : IntKind} {a b : Int} {r : Pd} (h : intI op k a b = some r) (ht : op ≠ .shl ∧ op ≠ .shr) (t : Nat) :
    ∃ v, (Go.binOp op t (.int k a) (.int k b)).run P W = .ok v W ∧ relPd G.imm W r v := by
  cases op <;> simp only [intI] at h <;> first
    | (exact absurd rfl ht.1) | (exact absurd rfl ht.2)
    | (cases h; refine ⟨_, ?_, rfl⟩; simp [Go.binOp, Op.intArith, Op.intBits, Op.intCmp]; done)
    | (split at h
       · cases h
       · rename_i h0; cases h; refine ⟨_, ?_, rfl⟩; simp [Go.binOp, Op.intDiv, h0])
    | cases h
theorem shiftI_run {op : BinOp} {k k' : IntKind} {a b : Int} {r : Pd} (h : shiftI op k a b = some r) (t : Nat) :
    ∃ v, (Go.binOp op t (.int k a) (.int k' b)).run P W = .ok v W ∧ relPd G.imm W r v := by
  unfold shiftI at h
  split at h
  · cases h
  · rename_i h0
    cases op <;> simp only at h <;> cases h <;> refine ⟨_, ?_, rfl⟩ <;> simp [Go.binOp, Op.shift, h0]
theorem size_data (x : ByteArray) : x.size = x.data.toList.length := by simp
theorem strI_run {op : BinOp} {x y : ByteArray} {r : Pd} (h : strI op x.data.toList y.data.toList = some r) (t : Nat) :
    ∃ v, (Go.binOp op t (.string x) (.string y)).run P W = .ok v W ∧ relPd G.imm W r v := by
  by_cases ha : op = .add
  · subst ha
    simp only [strI] at h
    by_cases h0 : x.data.toList.length + y.data.toList.length > 9223372036854775807
    · rw [if_pos h0] at h; cases h
    · rw [if_neg h0] at h
      cases h
      refine ⟨.string (x ++ y), ?_, ⟨_, rfl, by simp [ByteArray.data_append]⟩⟩
      have hm : IntKind.i64.max = 9223372036854775807 := by decide
      have : ¬ (((x.size + y.size : Nat) : Int) > IntKind.i64.max) := by
        rw [hm, size_data, size_data]; omega
      simp only [Go.binOp, Op.stringOp]
      rw [if_neg this]
      rfl
  · cases op <;> simp only [strI] at h <;> first
      | exact absurd rfl ha
      | (cases h; refine ⟨_, ?_, rfl⟩; simp [Go.binOp, Op.stringOp, bytes_toList]; done)
      | cases h
end
end Go.Proofs.YtafaoldmemcigaaGreat.Ab
