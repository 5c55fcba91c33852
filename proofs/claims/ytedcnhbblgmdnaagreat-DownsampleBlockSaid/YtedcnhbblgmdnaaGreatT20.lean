/- A part of the proof. -/
import Derived.Test.YtedcnhbblgmdnaaGreatT13
import Derived.Test.YtedcnhbblgmdnaaGreatT19
/- The argument of SerieschunkSeries: a series. -/
namespace Go.Proofs.YtedcnhbblgmdnaaGreat.Ab
open Go.RowKit
set_option linter.unusedVariables false
section
variable {W : World} {H : Type} {enc : TypeId × Value → H}
theorem rdLb : Rd enc Tryz.prog W 117 2 lbP (fun x => x.1.length ≤ reachBytes ∧ x.2.length ≤ reachBytes) :=
 (Rd.struct (n := 2) Tryz.underlying117 (by kernel_rfl) (RdS.cons (n1 := 1) (n2 := 1) (Rd.str Tryz.underlying9) rfl (by kernel_rfl) (RdS.cons (n1 := 1) (n2 := 0) (Rd.str Tryz.underlying9) rfl (by kernel_rfl) RdS.nil))).map (fun p => (p.1, p.2.1)) (fun _ => rfl) (fun _ => rfl) (fun _ h => ⟨h.1, h.2.1⟩)
theorem le_reach {n b : Nat} (h : n * b ≤ reachBytes) (hb : 0 < b) : n ≤ reachBytes := Nat.le_trans (Nat.le_mul_of_pos_right n hb) h
theorem rdBkt : Rd enc Tryz.prog W 41 10 Bkt.pd (fun _ => True) :=
 (Rd.struct (n := 10) Tryz.underlying41 (by kernel_rfl) (RdS.cons (n1 := 1) (n2 := 9) (Rd.int Tryz.underlying3) rfl (by kernel_rfl) (RdS.cons (n1 := 1) (n2 := 8) (Rd.int Tryz.underlying3) rfl (by kernel_rfl) (RdS.cons (n1 := 1) (n2 := 7) (Rd.int Tryz.underlying3) rfl (by kernel_rfl)
  (RdS.cons (n1 := 1) (n2 := 6) (Rd.int Tryz.underlying3) rfl (by kernel_rfl) (RdS.cons (n1 := 1) (n2 := 5) (Rd.int Tryz.underlying3) rfl (by kernel_rfl) (RdS.cons (n1 := 1) (n2 := 4) (Rd.int Tryz.underlying3) rfl (by kernel_rfl)
  (RdS.cons (n1 := 1) (n2 := 3) (Rd.int Tryz.underlying3) rfl (by kernel_rfl) (RdS.cons (n1 := 1) (n2 := 2) (Rd.int Tryz.underlying3) rfl (by kernel_rfl) (RdS.cons (n1 := 1) (n2 := 1) (Rd.int Tryz.underlying3) rfl (by kernel_rfl) (RdS.cons (n1 := 1) (n2 := 0) (Rd.int Tryz.underlying3) rfl (by kernel_rfl) RdS.nil))))))))))).map
  (fun p => ⟨p.1, p.2.1, p.2.2.1, p.2.2.2.1, p.2.2.2.2.1, p.2.2.2.2.2.1, p.2.2.2.2.2.2.1, p.2.2.2.2.2.2.2.1, p.2.2.2.2.2.2.2.2.1, p.2.2.2.2.2.2.2.2.2.1⟩) (fun _ => rfl) (fun _ => rfl) (fun _ _ => trivial)
theorem rdRlp : Rd enc Tryz.prog W 31 4 Rlp.pd (fun x => x.lb.length ≤ reachBytes ∧ x.bs.length ≤ reachBytes) :=
 (Rd.struct (n := 4) Tryz.underlying31 (by kernel_rfl) (RdS.cons (n1 := 1) (n2 := 3) (Rd.slice rdLb Tryz.underlying22 (by kernel_rfl) (by decide) (of_decide_eq_true (by kernel_rfl))) rfl (by kernel_rfl)
  (RdS.cons (n1 := 1) (n2 := 2) (Rd.int Tryz.underlying3) rfl (by kernel_rfl) (RdS.cons (n1 := 1) (n2 := 1) (Rd.int Tryz.underlying3) rfl (by kernel_rfl)
  (RdS.cons (n1 := 1) (n2 := 0) (Rd.slice rdBkt Tryz.underlying29 (by kernel_rfl) (by decide) (of_decide_eq_true (by kernel_rfl))) rfl (by kernel_rfl) RdS.nil))))).map
  (fun p => ⟨p.1, p.2.1, p.2.2.1, p.2.2.2.1⟩) (fun _ => rfl) (fun _ => rfl) (fun _ h => ⟨le_reach h.1.1 (of_decide_eq_true (by kernel_rfl)), le_reach h.2.2.2.1.1 (of_decide_eq_true (by kernel_rfl))⟩)
end
end Go.Proofs.YtedcnhbblgmdnaaGreat.Ab
