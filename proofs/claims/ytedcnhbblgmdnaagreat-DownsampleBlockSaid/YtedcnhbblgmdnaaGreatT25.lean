/- A part of the proof. -/
import Derived.Test.YtedcnhbblgmdnaaGreatT20
import Derived.Test.YtedcnhbblgmdnaaGreatT24
import Derived.OpenShut
/- The arguments of the Downsample laws: sets of rollups. -/
namespace Go.Proofs.YtedcnhbblgmdnaaGreat.Ab
open Go.RowKit
set_option linter.unusedVariables false
section
variable {W : World} {H : Type} {enc : TypeId × Value → H}
theorem rdRSet : Rd enc Tryz.prog W 62 3 RSet.pd (fun x => x.rs.length ≤ reachBytes ∧ ∀ r ∈ x.rs, r.lb.length ≤ reachBytes) :=
 (Rd.struct (n := 3) Tryz.underlying62 (by kernel_rfl) (RdS.cons (n1 := 1) (n2 := 2) (Rd.int Tryz.underlying3) rfl (by kernel_rfl) (RdS.cons (n1 := 1) (n2 := 1) (Rd.int Tryz.underlying3) rfl (by kernel_rfl)
  (RdS.cons (n1 := 1) (n2 := 0) (Rd.slice rdRlp Tryz.underlying60 (by kernel_rfl) (by decide) (of_decide_eq_true (by kernel_rfl))) rfl (by kernel_rfl) RdS.nil)))).map
  (fun p => ⟨p.1, p.2.1, p.2.2.1⟩) (fun _ => rfl) (fun _ => rfl) (fun _ h => ⟨le_reach h.2.2.1.1 (of_decide_eq_true (by kernel_rfl)), fun r hr => (h.2.2.1.2 r hr).1⟩)
end
end Go.Proofs.YtedcnhbblgmdnaaGreat.Ab
/- The arguments of the Downsample laws: blocks. -/
namespace Go.Proofs.YtedcnhbblgmdnaaGreat.Ab
open Go.RowKit
set_option linter.unusedVariables false
section
variable {P : Program} {W : World} {H : Type} {enc : TypeId × Value → H} {A : Type} {I : Nat → Nat → Prop}
theorem relPL_chunks {f : A → List Pd} {n : Nat} (hf : ∀ a, (f a).length = n) : ∀ (l : List A) (cs : List Value), cs.length = l.length * n → (∀ i a, l[i]? = some a → relPL I W (f a) ((cs.drop (i * n)).take n)) → relPL I W (l.flatMap f) cs
 | [], cs, hl, _ => by
  have : cs = [] := List.length_eq_zero_iff.1 (by simpa using hl)
  subst this
  exact ⟨rfl, fun j y hj => by simp at hj⟩
 | a :: t, cs, hl, h => by
  have h0 := h 0 a rfl
  rw [Nat.zero_mul, List.drop_zero] at h0
  have h1 := relPL_chunks hf t (cs.drop n) (by rw [List.length_drop, hl, List.length_cons, Nat.add_mul]; omega) fun i b hb => by
   have := h (i + 1) b hb
   rw [List.drop_drop, show n + i * n = (i + 1) * n by rw [Nat.add_mul]; omega]
   exact this
  have := relPL_app h0 h1
  rw [List.take_append_drop] at this
  exact this
theorem Rd.array {t e n k : Nat} {f : A → List Pd} {B : A → Prop} (h : Rd enc P W e n f B) (ht : P.underlying t = some (.array k e)) (hc : P.cellsOf e = n) (hct : P.cellsOf t = k * n) :
  Rd enc P W t (k * n) (fun l : {l : List A // l.length = k} => l.1.flatMap f) (fun l => ∀ a ∈ l.1, B a) where
 len a := by
  have : ∀ l : List A, (l.flatMap f).length = l.length * n := fun l => by
   induction l with
   | nil => simp
   | cons b t ih => rw [List.flatMap_cons, List.length_append, h.len, ih, List.length_cons, Nat.add_mul]; omega
  rw [this, a.2]
 rd fuel cs x hx hs := by
  obtain ⟨xs, m, rfl, rfl, hl, hxl, hget⟩ := DataW.trod_array ht hx
  simp only [small, DataW.weights, ht] at hs
  obtain ⟨l, hll, hq⟩ := pickL (Q := fun i y => B y ∧ relPL (oldI W) W (f y) ((cs.drop (i * n)).take n)) k fun i hi => by
   have hg := hget i hi
   rw [hc, List.getElem?_eq_getElem (by omega)] at hg
   exact h.rd _ _ _ hg fun w hw => hs w (weightsAll_mem (List.mem_map.2 ⟨_, List.getElem_mem _, rfl⟩) hw)
  refine ⟨⟨l, hll⟩, fun a ha => ?_, relPL_chunks h.len l cs (by rw [hl, hct, hll]) fun i a ha => (hq i a ha).2⟩
  obtain ⟨i, hi, rfl⟩ := List.getElem_of_mem ha
  exact (hq i _ (List.getElem?_eq_getElem hi)).1
abbrev z8 (p : {l : List Int // l.length = 8}) (j : Nat) : Int := p.1[j]?.getD 0
theorem z8_flat {f : Int → List Pd} (p : {l : List Int // l.length = 8}) : p.1.flatMap f = f (z8 p 0) ++ (f (z8 p 1) ++ (f (z8 p 2) ++ (f (z8 p 3) ++ (f (z8 p 4) ++ (f (z8 p 5) ++ (f (z8 p 6) ++ f (z8 p 7))))))) := by
 obtain ⟨l, hl⟩ := p
 match l, hl with
 | [a0, a1, a2, a3, a4, a5, a6, a7], _ => simp only [List.flatMap_cons, List.flatMap_nil, List.append_nil]; rfl
theorem rdB8 : Rd enc Tryz.prog W 92 8 (fun p : {l : List Int // l.length = 8} => [pU (z8 p 0), pU (z8 p 1), pU (z8 p 2), pU (z8 p 3), pU (z8 p 4), pU (z8 p 5), pU (z8 p 6), pU (z8 p 7)]) (fun _ => True) :=
 (Rd.array (k := 8) (n := 1) (Rd.int Tryz.underlying91) Tryz.underlying92 (by kernel_rfl) (by kernel_rfl)).map (fun p => p) (fun p => (z8_flat (f := fun n => [pU n]) p).symm) (fun _ => rfl) (fun _ _ => trivial)
end
section
variable {W : World} {H : Type} {enc : TypeId × Value → H}
theorem rdZG : Rd enc Tryz.prog W 94 13 ZG.pd (fun _ => True) :=
 (Rd.struct (n := 13) Tryz.underlying94 (by kernel_rfl) (RdS.cons (n1 := 1) (n2 := 12) (Rd.int Tryz.underlying3) rfl (by kernel_rfl) (RdS.cons (n1 := 1) (n2 := 11) (Rd.int Tryz.underlying3) rfl (by kernel_rfl) (RdS.cons (n1 := 1) (n2 := 10) (Rd.int Tryz.underlying3) rfl (by kernel_rfl)
  (RdS.cons (n1 := 1) (n2 := 9) (Rd.int Tryz.underlying3) rfl (by kernel_rfl) (RdS.cons (n1 := 1) (n2 := 8) (Rd.int Tryz.underlying3) rfl (by kernel_rfl) (RdS.cons (n1 := 8) (n2 := 0) rdB8 rfl (by kernel_rfl) RdS.nil))))))).map
  (fun p => ⟨p.1, p.2.1, p.2.2.1, p.2.2.2.1, p.2.2.2.2.1, z8 p.2.2.2.2.2.1 0, z8 p.2.2.2.2.2.1 1, z8 p.2.2.2.2.2.1 2, z8 p.2.2.2.2.2.1 3, z8 p.2.2.2.2.2.1 4, z8 p.2.2.2.2.2.1 5, z8 p.2.2.2.2.2.1 6, z8 p.2.2.2.2.2.1 7⟩) (fun _ => rfl) (fun _ => rfl) (fun _ _ => trivial)
theorem rdChk : Rd enc Tryz.prog W 96 16 Chk.pd (fun x => x.lb.length ≤ reachBytes) :=
 (Rd.struct (n := 16) Tryz.underlying96 (by kernel_rfl) (RdS.cons (n1 := 1) (n2 := 15) (Rd.int Tryz.underlying3) rfl (by kernel_rfl) (RdS.cons (n1 := 1) (n2 := 14) (Rd.slice rdLb Tryz.underlying22 (by kernel_rfl) (by decide) (of_decide_eq_true (by kernel_rfl))) rfl (by kernel_rfl)
  (RdS.cons (n1 := 13) (n2 := 1) rdZG rfl (by kernel_rfl) (RdS.cons (n1 := 1) (n2 := 0) (Rd.str Tryz.underlying9) rfl (by kernel_rfl) RdS.nil))))).map
  (fun p => ⟨p.1, p.2.1, p.2.2.1, p.2.2.2.1⟩) (fun _ => rfl) (fun _ => rfl) (fun _ h => le_reach h.2.1.1 (of_decide_eq_true (by kernel_rfl)))
theorem rdBlk : Rd enc Tryz.prog W 67 4 Blk.pd (fun x => x.cs.length ≤ reachBytes ∧ ∀ c ∈ x.cs, c.lb.length ≤ reachBytes) :=
 (Rd.struct (n := 4) Tryz.underlying67 (by kernel_rfl) (RdS.cons (n1 := 1) (n2 := 3) (Rd.int Tryz.underlying3) rfl (by kernel_rfl) (RdS.cons (n1 := 1) (n2 := 2) (Rd.int Tryz.underlying3) rfl (by kernel_rfl) (RdS.cons (n1 := 1) (n2 := 1) (Rd.int Tryz.underlying3) rfl (by kernel_rfl)
  (RdS.cons (n1 := 1) (n2 := 0) (Rd.slice rdChk Tryz.underlying65 (by kernel_rfl) (by decide) (of_decide_eq_true (by kernel_rfl))) rfl (by kernel_rfl) RdS.nil))))).map
  (fun p => ⟨p.1, p.2.1, p.2.2.1, p.2.2.2.1⟩) (fun _ => rfl) (fun _ => rfl) (fun _ h => ⟨le_reach h.2.2.2.1.1 (of_decide_eq_true (by kernel_rfl)), fun c hc => h.2.2.2.1.2 c hc⟩)
end
end Go.Proofs.YtedcnhbblgmdnaaGreat.Ab
