/- A part of the proof: an evaluator of the code, its contracts, the law. No condition. -/
import Derived.Test.YtedcnhbblgmdnaaGreatT13
import Derived.Test.YtedcnhbblgmdnaaGreatT22
/- The argument of SerieschunkSeries: a series. -/
namespace Go.Proofs.YtedcnhbblgmdnaaGreat.Ab
open Go.RowKit
set_option linter.unusedVariables false
section
variable {W : World} {H : Type} {enc : TypeId × Value → H}
theorem rdLb : Rd enc Tryz.prog W 117 2 lbP (fun x => x.1.length ≤ reachBytes ∧ x.2.length ≤ reachBytes) :=
  (Rd.struct (n := 2) Tryz.underlying117 (by kernel_rfl) (RdS.cons (n1 := 1) (n2 := 1) (Rd.str Tryz.underlying9) rfl (by kernel_rfl) (RdS.cons (n1 := 1) (n2 := 0) (Rd.str Tryz.underlying9) rfl (by kernel_rfl) RdS.nil))).map (fun p => (p.1, p.2.1)) (fun _ => rfl) (fun _ => rfl) (fun _ h => ⟨h.1, h.2.1⟩)
theorem rdSm : Rd enc Tryz.prog W 39 2 p2 (fun x => (Lit.int .i64 x.1).wf = true ∧ (Lit.int .i64 x.2).wf = true) :=
  (Rd.struct (n := 2) Tryz.underlying39 (by kernel_rfl) (RdS.cons (n1 := 1) (n2 := 1) (Rd.int Tryz.underlying3) rfl (by kernel_rfl) (RdS.cons (n1 := 1) (n2 := 0) (Rd.int Tryz.underlying3) rfl (by kernel_rfl) RdS.nil))).map (fun p => (p.1, p.2.1)) (fun _ => rfl) (fun _ => rfl) (fun _ h => ⟨h.1, h.2.1⟩)
theorem rdBk : Rd enc Tryz.prog W 205 2 p2 (fun x => (Lit.int .i64 x.1).wf = true ∧ (Lit.int .i64 x.2).wf = true) :=
  (Rd.struct (n := 2) Tryz.underlying205 (by kernel_rfl) (RdS.cons (n1 := 1) (n2 := 1) (Rd.int Tryz.underlying3) rfl (by kernel_rfl) (RdS.cons (n1 := 1) (n2 := 0) (Rd.int Tryz.underlying3) rfl (by kernel_rfl) RdS.nil))).map (fun p => (p.1, p.2.1)) (fun _ => rfl) (fun _ => rfl) (fun _ h => ⟨h.1, h.2.1⟩)
theorem le_reach {n b : Nat} (h : n * b ≤ reachBytes) (hb : 0 < b) : n ≤ reachBytes := Nat.le_trans (Nat.le_mul_of_pos_right n hb) h
theorem rdHst : Rd enc Tryz.prog W 150 6 Hst.pd (fun x => x.bs.length ≤ reachBytes) :=
  (Rd.struct (n := 6) Tryz.underlying150 (by kernel_rfl) (RdS.cons (n1 := 1) (n2 := 5) (Rd.int Tryz.underlying3) rfl (by kernel_rfl) (RdS.cons (n1 := 1) (n2 := 4) (Rd.int Tryz.underlying3) rfl (by kernel_rfl) (RdS.cons (n1 := 1) (n2 := 3) (Rd.int Tryz.underlying3) rfl (by kernel_rfl)
    (RdS.cons (n1 := 1) (n2 := 2) (Rd.int Tryz.underlying3) rfl (by kernel_rfl) (RdS.cons (n1 := 1) (n2 := 1) (Rd.int Tryz.underlying3) rfl (by kernel_rfl) (RdS.cons (n1 := 1) (n2 := 0) (Rd.slice rdBk Tryz.underlying148 (by kernel_rfl) (by decide) (of_decide_eq_true (by kernel_rfl))) rfl (by kernel_rfl) RdS.nil))))))).map
    (fun p => ⟨p.1, p.2.1, p.2.2.1, p.2.2.2.1, p.2.2.2.2.1, p.2.2.2.2.2.1⟩) (fun _ => rfl) (fun _ => rfl) (fun _ h => le_reach h.2.2.2.2.2.1.1 (of_decide_eq_true (by kernel_rfl)))
theorem rdHSm : Rd enc Tryz.prog W 152 7 HSm.pd (fun x => x.h.bs.length ≤ reachBytes) :=
  (Rd.struct (n := 7) Tryz.underlying152 (by kernel_rfl) (RdS.cons (n1 := 1) (n2 := 6) (Rd.int Tryz.underlying3) rfl (by kernel_rfl) (RdS.cons (n1 := 6) (n2 := 0) rdHst rfl (by kernel_rfl) RdS.nil))).map
    (fun p => ⟨p.1, p.2.1⟩) (fun _ => rfl) (fun _ => rfl) (fun _ h => h.2.1)
theorem rdSer : Rd enc Tryz.prog W 26 4 Ser.pd (fun x => x.lb.length ≤ reachBytes ∧ x.hs.length ≤ reachBytes ∧ ∀ y ∈ x.hs, y.h.bs.length ≤ reachBytes) :=
  (Rd.struct (n := 4) Tryz.underlying26 (by kernel_rfl) (RdS.cons (n1 := 1) (n2 := 3) (Rd.slice rdLb Tryz.underlying22 (by kernel_rfl) (by decide) (of_decide_eq_true (by kernel_rfl))) rfl (by kernel_rfl)
    (RdS.cons (n1 := 1) (n2 := 2) (Rd.int Tryz.underlying3) rfl (by kernel_rfl) (RdS.cons (n1 := 1) (n2 := 1) (Rd.slice rdSm Tryz.underlying23 (by kernel_rfl) (by decide) (of_decide_eq_true (by kernel_rfl))) rfl (by kernel_rfl)
    (RdS.cons (n1 := 1) (n2 := 0) (Rd.slice rdHSm Tryz.underlying24 (by kernel_rfl) (by decide) (of_decide_eq_true (by kernel_rfl))) rfl (by kernel_rfl) RdS.nil))))).map
    (fun p => ⟨p.1, p.2.1, p.2.2.1, p.2.2.2.1⟩) (fun _ => rfl) (fun _ => rfl) (fun _ h => ⟨le_reach h.1.1 (of_decide_eq_true (by kernel_rfl)), le_reach h.2.2.2.1.1 (of_decide_eq_true (by kernel_rfl)), h.2.2.2.1.2⟩)
end
end Go.Proofs.YtedcnhbblgmdnaaGreat.Ab
