/- A part of the proof. -/
import Derived.Test.YtedcnhbblgmdnaaGreatT11
/- The environment of the seat is sound. -/
namespace Go.Proofs.YtedcnhbblgmdnaaGreat.Ab
theorem E0_ok : EnvOK Tryz.prog E0 := by
 refine mkEnv_ok (by kernel_rfl) (fun t ht => ?_) (fun g h hx => ?_)
 ·simp only [List.mem_cons, List.mem_nil_iff, or_false] at ht
  rcases ht with rfl | rfl | rfl | rfl | rfl
  ·exact eq94
  ·exact eq39
  ·exact eq117
  ·exact eq205
  ·exact eq41
 ·unfold bld at hx
  split at hx
  ·rename_i e; subst e; cases hx; exact bldK_ok
  ·split at hx
   ·rename_i e; subst e; cases hx; exact bldS_ok
   ·cases hx
end Go.Proofs.YtedcnhbblgmdnaaGreat.Ab
