/- A part of the proof: an evaluator of the code, its contracts, the law. No condition. -/
import Derived.Test.YtafaoldmemcigaaGreatT22
import Derived.Test.YtafaoldmemcigaaGreatT31
/- The arguments of SerieschunkDamage. -/
namespace Go.Proofs.YtafaoldmemcigaaGreat.Ab
open Go.RowKit
theorem u16_wf {n : Int} (h : (Lit.int .u16 n).wf = true) : ∃ q : Nat, n = (q : Int) ∧ q < 65536 := by
  simp [Lit.wf, IntKind.min, IntKind.max, IntKind.signed, IntKind.bits] at h
  exact ⟨n.toNat, by omega, by omega⟩
theorem law4' (x : Ser) (hh : x.hs.length < 2^60) (hlb : x.lb.length < 2^60) (n : Int) (hn : (Lit.int .u16 n).wf = true) (more : List UInt8) : ∃ s', Ev E0 (.o 4) [.agg (x.pd.map .p), .c (.p (.int .u16 n)), .c (.p (.str more))] s00 (P' (.bool true)) s' := by
  obtain ⟨q, rfl, hq⟩ := u16_wf hn
  exact law4 x hh hlb q hq more
end Go.Proofs.YtafaoldmemcigaaGreat.Ab
