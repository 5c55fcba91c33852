/- A part of the proof: an evaluator of the code, its contracts, the law. No condition. -/
import Derived.Test.YtafaoldmemcigaaGreatT12
namespace Go.Proofs.YtafaoldmemcigaaGreat.Ab
set_option maxHeartbeats 4000000
set_option maxRecDepth 10000
set_option linter.unusedSimpArgs false
set_option linter.unusedVariables false
/-- 26: varint.Append -/
def appV (s : List UInt8) (n : Int) : List UInt8 × Int := if n < 0 ∨ 1152921504606846976 < n then ([], 2) else (s ++ vb n.toNat, 0)
theorem pf26 (t : List UInt8) (n : Int) (ht : t.length ≤ 4611686018427387904) : Pf E0 26 [.c (.p (.str t)), .c (.p (.int .i64 n))] (.tup [.c (.p (.str (appV t n).1)), .c (.p (.int .i64 (appV t n).2))]) := by
  refine Pf.body (fn := Tryz.f26) (by kernel_rfl) rfl ?_; simp only [List.map_cons, List.map_nil, List.cons_append, List.nil_append, List.length_cons, List.length_nil, Tryz.ntmps26, List.replicate, Nat.reduceSub, Nat.reduceAdd]
  refine Wc.seq ?_
  refine Wc.reg fun K hK => ?_; simp only [go_sem, ti3, ti113, ti9, ti5, ti111, ti77, ti4, ti35]; refine hK _ _ ?_; clear hK K
  refine Wc.seq (Wc.seq ?_)
  by_cases h : n < 0
  · refine Wc.reg fun K hK => ?_; simp only [go_sem, ti3, ti113, ti9, ti5, ti111, ti77, ti4, ti35, h]; refine hK _ _ ?_; clear hK K
    refine Wc.cond (t := true) rfl (fun _ => ?_) (fun h => by cases h)
    refine Wc.seq ?_
    refine Wc.reg fun K hK => ?_; simp only [go_sem, ti3, ti113, ti9, ti5, ti111, ti77, ti4, ti35, h]; refine hK _ _ ?_; clear hK K
    have e : appV t n = ([], 2) := by unfold appV; rw [if_pos (.inl h)]
    rw [e]
    exact Wc.ret (Pf.ret [.tmp 4, .tmp 5] [.c (.p (.str [])), .c (.p (.int .i64 2))] rfl rfl (by simp only [resultsD, go_sem, ti3, ti113, ti9, ti5, ti111, ti77, ti4, ti35]) rfl)
  · refine Wc.reg fun K hK => ?_; simp only [go_sem, ti3, ti113, ti9, ti5, ti111, ti77, ti4, ti35, h]; refine hK _ _ ?_; clear hK K
    refine Wc.cond (t := decide (1152921504606846976 < n)) rfl (fun hc => ?_) (fun hc => ?_)
    · have hc' : 1152921504606846976 < n := by simpa using hc
      refine Wc.seq ?_
      refine Wc.reg fun K hK => ?_; simp only [go_sem, ti3, ti113, ti9, ti5, ti111, ti77, ti4, ti35, h]; refine hK _ _ ?_; clear hK K
      have e : appV t n = ([], 2) := by unfold appV; rw [if_pos (.inr hc')]
      rw [e]
      exact Wc.ret (Pf.ret [.tmp 4, .tmp 5] [.c (.p (.str [])), .c (.p (.int .i64 2))] rfl rfl (by simp only [resultsD, go_sem, ti3, ti113, ti9, ti5, ti111, ti77, ti4, ti35]) rfl)
    · have hc' : ¬ 1152921504606846976 < n := by simpa using hc
      have e : appV t n = (t ++ vb n.toNat, 0) := by unfold appV; rw [if_neg (by omega)]
      have e1 : IntKind.u64.wrap n = (n.toNat : Int) := by rw [wu64]; omega
      have hl := vb_len10 (n := n.toNat) (by omega)
      refine Wc.skip (Wc.seq ?_)
      refine Wc.reg fun K hK => ?_; simp only [go_sem, ti3, ti113, ti9, ti5, ti111, ti77, ti4, ti35, e1]
      refine call61 (L1 := []) (L2 := []) (M := []) (OA.nil (s00_oa.adv.adv.adv)) (by omega) (by omega) (by omega) fun x' s' hx hnx => ?_
      have hlo := (hx.own _ (List.mem_cons_self ..)).listOf
      simp only [List.nil_append, Nat.zero_add] at hlo
      have hlt : ¬ (9223372036854775807 < t.length + (vb n.toNat).length) := by omega
      simp only [go_sem, ti3, ti113, ti9, ti5, ti111, ti77, ti4, ti35, hlo, allM_bytes, hlt]; refine hK _ _ ?_; clear hK K
      rw [e]
      exact Wc.ret (Pf.ret [.tmp 4, .tmp 5] [.c (.p (.str (t ++ vb n.toNat))), .c (.p (.int .i64 0))] rfl rfl (by simp only [resultsD, go_sem, ti3, ti113, ti9, ti5, ti111, ti77, ti4, ti35]) rfl)
/-- 66: the reference's Append -/
theorem pf66 (t : List UInt8) (n : Int) (ht : t.length ≤ 4611686018427387904) : Pf E0 66 [.c (.p (.str t)), .c (.p (.int .i64 n))] (.tup [.c (.p (.str (appV t n).1)), .c (.p (.int .i64 (appV t n).2))]) := by
  refine Pf.body (fn := Tryz.f66) (by kernel_rfl) rfl ?_; simp only [List.map_cons, List.map_nil, List.cons_append, List.nil_append, List.length_cons, List.length_nil, Tryz.ntmps66, List.replicate, Nat.reduceSub, Nat.reduceAdd]
  refine Wc.seq ?_
  refine Wc.reg fun K hK => ?_; simp only [go_sem, ti3, ti113, ti9, ti5, ti111, ti77, ti4, ti35]; refine hK _ _ ?_; clear hK K
  refine Wc.seq (Wc.seq ?_)
  by_cases h : n < 0
  · refine Wc.reg fun K hK => ?_; simp only [go_sem, ti3, ti113, ti9, ti5, ti111, ti77, ti4, ti35, h]; refine hK _ _ ?_; clear hK K
    refine Wc.cond (t := true) rfl (fun _ => ?_) (fun h => by cases h)
    refine Wc.seq ?_
    refine Wc.reg fun K hK => ?_; simp only [go_sem, ti3, ti113, ti9, ti5, ti111, ti77, ti4, ti35, h]; refine hK _ _ ?_; clear hK K
    have e : appV t n = ([], 2) := by unfold appV; rw [if_pos (.inl h)]
    rw [e]
    exact Wc.ret (Pf.ret [.tmp 4, .tmp 5] [.c (.p (.str [])), .c (.p (.int .i64 2))] rfl rfl (by simp only [resultsD, go_sem, ti3, ti113, ti9, ti5, ti111, ti77, ti4, ti35]) rfl)
  · refine Wc.reg fun K hK => ?_; simp only [go_sem, ti3, ti113, ti9, ti5, ti111, ti77, ti4, ti35, h]; refine hK _ _ ?_; clear hK K
    refine Wc.cond (t := decide (1152921504606846976 < n)) rfl (fun hc => ?_) (fun hc => ?_)
    · have hc' : 1152921504606846976 < n := by simpa using hc
      refine Wc.seq ?_
      refine Wc.reg fun K hK => ?_; simp only [go_sem, ti3, ti113, ti9, ti5, ti111, ti77, ti4, ti35, h]; refine hK _ _ ?_; clear hK K
      have e : appV t n = ([], 2) := by unfold appV; rw [if_pos (.inr hc')]
      rw [e]
      exact Wc.ret (Pf.ret [.tmp 4, .tmp 5] [.c (.p (.str [])), .c (.p (.int .i64 2))] rfl rfl (by simp only [resultsD, go_sem, ti3, ti113, ti9, ti5, ti111, ti77, ti4, ti35]) rfl)
    · have hc' : ¬ 1152921504606846976 < n := by simpa using hc
      have e : appV t n = (t ++ vb n.toNat, 0) := by unfold appV; rw [if_neg (by omega)]
      have hl := vb_len10 (n := n.toNat) (by omega)
      refine Wc.skip (Wc.seq ?_)
      refine Wc.reg fun K hK => ?_; simp only [go_sem, ti3, ti113, ti9, ti5, ti111, ti77, ti4, ti35]
      refine wpCall.pf (pf76 n (by omega) (by omega)) (by kernel_rfl) (by kernel_rfl) rfl rfl ?_
      have hlt : ¬ (9223372036854775807 < t.length + (vb n.toNat).length) := by omega
      simp only [go_sem, ti3, ti113, ti9, ti5, ti111, ti77, ti4, ti35, hlt]; refine hK _ _ ?_; clear hK K
      rw [e]
      exact Wc.ret (Pf.ret [.tmp 4, .tmp 5] [.c (.p (.str (t ++ vb n.toNat))), .c (.p (.int .i64 0))] rfl rfl (by simp only [resultsD, go_sem, ti3, ti113, ti9, ti5, ti111, ti77, ti4, ti35]) rfl)
end Go.Proofs.YtafaoldmemcigaaGreat.Ab
namespace Go.Proofs.YtafaoldmemcigaaGreat.Ab
set_option maxHeartbeats 4000000
set_option maxRecDepth 10000
set_option linter.unusedSimpArgs false
set_option linter.unusedVariables false
abbrev pI (n : Int) : Pd := .int .i64 n
def encL (l : List Int) : List UInt8 := l.flatMap fun n => vb (zz n)
def encI (l : List Int) : List UInt8 × Int := if 20000 < l.length then ([], 4) else if l.all inR then (vb l.length ++ encL l, 0) else ([], 2)
theorem zz_lt {n : Int} (h : inR n = true) : zz n < 2^62 := by
  simp only [inR, Bool.and_eq_true, decide_eq_true_eq] at h
  unfold zz; split <;> omega
theorem i64n (n : Nat) (h : n < 2^62) : IntKind.i64.wrap ((n : Int) + 1) = ((n + 1 : Nat) : Int) := by rw [wi64]; omega
theorem take_snoc {α : Type} {l : List α} {i : Nat} {x : α} (h : l[i]? = some x) : l.take (i + 1) = l.take i ++ [x] := by
  rw [List.take_add_one, h]; rfl
theorem encL_take {l : List Int} {i : Nat} {x : Int} (h : l[i]? = some x) : encL (l.take (i + 1)) = encL (l.take i) ++ vb (zz x) := by
  rw [take_snoc h]; simp [encL]
/-- 53: varint.Encode -/
theorem pf53 (l : List Int) (hl : l.length < 2^40) : Pf E0 53 [.c (.p (.lst l.length (l.map pI)))] (.tup [.c (.p (.str (encI l).1)), .c (.p (.int .i64 (encI l).2))]) := by
  refine Pf.body (fn := Tryz.f53) (by kernel_rfl) rfl ?_; simp only [List.map_cons, List.map_nil, List.cons_append, List.nil_append, List.length_cons, List.length_nil, Tryz.ntmps53, List.replicate, Nat.reduceSub, Nat.reduceAdd]
  refine Wc.seq ?_
  refine Wc.reg fun K hK => ?_; simp only [go_sem, ti3, ti113, ti9, ti5, ti111, ti77, ti4, ti35]; refine hK _ _ ?_; clear hK K
  refine Wc.seq (Wc.seq ?_)
  refine Wc.reg fun K hK => ?_; simp only [go_sem, ti3, ti113, ti9, ti5, ti111, ti77, ti4, ti35]; refine hK _ _ ?_; clear hK K
  refine Wc.cond (t := decide ((20000 : Int) < l.length)) rfl (fun hc => ?_) (fun hc => ?_)
  · have hc' : (20000 : Int) < l.length := by simpa using hc
    have e : encI l = ([], 4) := by unfold encI; rw [if_pos (by omega)]
    refine Wc.seq ?_
    refine Wc.reg fun K hK => ?_; simp only [go_sem, ti3, ti113, ti9, ti5, ti111, ti77, ti4, ti35]; refine hK _ _ ?_; clear hK K
    rw [e]
    exact Wc.ret (Pf.ret [.tmp 2, .tmp 3] [.c (.p (.str [])), .c (.p (.int .i64 4))] rfl rfl (by simp only [resultsD, go_sem, ti3, ti113, ti9, ti5, ti111, ti77, ti4, ti35]) rfl)
  have hc' : ¬ (20000 : Int) < l.length := by simpa using hc
  have e0 : encI l = if l.all inR then (vb l.length ++ encL l, 0) else ([], 2) := by unfold encI; rw [if_neg (by omega)]
  have e1 : IntKind.u64.wrap (l.length : Int) = l.length := by rw [wu64]; omega
  have hvl := vb_len10 (n := l.length) (by omega)
  refine Wc.skip (Wc.seq ?_)
  refine Wc.reg fun K hK => ?_; simp only [go_sem, ti3, ti113, ti9, ti5, ti111, ti77, ti4, ti35, e1]
  refine call61 (L1 := []) (L2 := []) (M := []) (OA.nil (s00_oa.adv.adv.adv)) (by omega) (by omega) (by omega) fun b0 s0 hb0 hnx0 => ?_
  simp only [go_sem, ti3, ti113, ti9, ti5, ti111, ti77, ti4, ti35]; refine hK _ _ ?_; clear hK K
  refine Wc.seq (Wc.seq ?_)
  refine Wc.reg fun K hK => ?_; simp only [go_sem, ti3, ti113, ti9, ti5, ti111, ti77, ti4, ti35]; refine hK _ _ ?_; clear hK K
  refine Wc.block (Wc.loop (fun k y => ∃ (i : Nat) (b : D) (ib : Nat), k = l.length - i ∧ i ≤ l.length ∧ y.ds = [] ∧ y.e.length = 30 ∧ y.e.getD 14 .junk = P' (.lst l.length (l.map pI)) ∧ y.e.getD 15 .junk = P' (.int .i64 l.length) ∧ y.e.getD 16 .junk = P' (.int .i64 i) ∧ y.e.getD 4 .junk = b ∧
    OA y.s.nx y.s [(1, b, ib, (vb l.length ++ encL (l.take i)).map pdOfByte)] [] ∧ ib ≤ 10 + 10 * i ∧ (l.take i).all inR = true) ?_ (k := l.length) ?_)
  · rintro k ⟨e, ds, s1⟩ ⟨i, b, ib, rfl, hi, rfl, hlen, h14, h15, h16, h4, hb, hib, hall⟩
    simp only at hlen h14 h15 h16 h4 hb
    refine Wc.seq ?_
    refine Wc.reg fun K hK => ?_; simp only [go_sem, ti3, ti113, ti9, ti5, ti111, ti77, ti4, ti35, hlen, h14, h15, h16, h4]; refine hK _ _ ?_; clear hK K
    refine Wc.seq ?_
    refine Wc.cond (t := decide ((i : Int) < l.length)) (by simp only [go_sem, ti3, ti113, ti9, ti5, ti111, ti77, ti4, ti35, hlen]) (fun hc => ?_) (fun hc => ?_)
    · have hil : i < l.length := by have : (i : Int) < l.length := by simpa using hc
                                    omega
      obtain ⟨x, hx⟩ : ∃ x, l[i]? = some x := ⟨l[i], List.getElem?_eq_getElem hil⟩
      have hix := ixA ti77 rfl ti3 (j := i) (m := l.length) (cs := l.map pI) hil (by simp) (by decide)
      have hca := rpA (off := i) (drop_map pI hx) (by simp; omega)
      refine Wc.skip (Wc.seq (Wc.block (Wc.seq ?_)))
      refine Wc.reg fun K hK => ?_; simp only [go_sem, ti3, ti113, ti9, ti5, ti111, ti77, ti4, ti35, hlen, h14, h15, h16, h4, hix, hca]; refine hK _ _ ?_; clear hK K
      refine Wc.seq (Wc.seq ?_)
      refine Wc.reg fun K hK => ?_; simp only [go_sem, ti3, ti113, ti9, ti5, ti111, ti77, ti4, ti35, hlen, h14, h15, h16, h4]
      refine wpCall.pf (pf102 x) (by kernel_rfl) (by kernel_rfl) rfl rfl ?_
      simp only [go_sem, ti3, ti113, ti9, ti5, ti111, ti77, ti4, ti35, hlen, h14, h15, h16, h4]; refine hK _ _ ?_; clear hK K
      refine Wc.cond (t := !inR x) (by simp only [go_sem, ti3, ti113, ti9, ti5, ti111, ti77, ti4, ti35, hlen]) (fun hc => ?_) (fun hc => ?_)
      · have hx2 : inR x = false := by simpa using hc
        have e : encI l = ([], 2) := by
          rw [e0, if_neg]
          intro h
          rw [List.all_eq_true] at h
          have := h x (List.mem_of_getElem? hx)
          rw [hx2] at this; cases this
        refine Wc.seq ?_
        refine Wc.reg fun K hK => ?_; simp only [go_sem, ti3, ti113, ti9, ti5, ti111, ti77, ti4, ti35, hlen, h14, h15, h16, h4]; refine hK _ _ ?_; clear hK K
        rw [e]
        exact Wc.ret (Pf.ret [.tmp 2, .tmp 3] [.c (.p (.str [])), .c (.p (.int .i64 2))] rfl rfl (by simp only [resultsD, go_sem, ti3, ti113, ti9, ti5, ti111, ti77, ti4, ti35, hlen]) rfl)
      · have hx2 : inR x = true := by simpa using hc
        have hz := zz_lt hx2
        refine Wc.skip ?_
        refine Wc.reg fun K hK => ?_; simp only [go_sem, ti3, ti113, ti9, ti5, ti111, ti77, ti4, ti35, hlen, h14, h15, h16, h4]
        refine wpCall.pf (pf103 x hx2) (by kernel_rfl) (by kernel_rfl) rfl rfl ?_
        simp only [go_sem, ti3, ti113, ti9, ti5, ti111, ti77, ti4, ti35, hlen, h14, h15, h16, h4]
        refine call61 (L1 := []) (L2 := []) (M := []) (OA.adv (OA.adv (OA.adv (OA.adv hb)))) (by simp only [St.nx_adv]; omega) (by omega) (by omega) fun b' s' hb' hnx => ?_
        simp only [go_sem, ti3, ti113, ti9, ti5, ti111, ti77, ti4, ti35, hlen, h14, h15, h16, h4]; refine hK _ _ ?_; clear hK K
        refine Wc.reg fun K hK => ?_; simp only [go_sem, ti3, ti113, ti9, ti5, ti111, ti77, ti4, ti35, hlen, h14, h15, h16, h4, i64n i (by omega)]; refine hK _ _ ?_; clear hK K
        have hz10 := vb_len10 (n := zz x) (by omega)
        refine ⟨l.length - (i + 1), by omega, i + 1, b', ib + (vb (zz x)).length, rfl, by omega, rfl, by simp only [go_sem, ti3, ti113, ti9, ti5, ti111, ti77, ti4, ti35, hlen], by simp only [go_sem, ti3, ti113, ti9, ti5, ti111, ti77, ti4, ti35, hlen, h14, h15, h16, h4], by simp only [go_sem, ti3, ti113, ti9, ti5, ti111, ti77, ti4, ti35, hlen, h14, h15, h16, h4], by simp only [go_sem, ti3, ti113, ti9, ti5, ti111, ti77, ti4, ti35, hlen, h14, h15, h16, h4], by simp only [go_sem, ti3, ti113, ti9, ti5, ti111, ti77, ti4, ti35, hlen, h14, h15, h16, h4], ?_, by omega, ?_⟩
        · rw [encL_take hx, ← List.append_assoc, List.map_append]
          simpa only [St.nx_adv, List.nil_append] using (hb'.adv (n := 2)).mono (Nat.le_add_right _ 2)
        · rw [take_snoc hx, List.all_append, hall]; simp [hx2]
    · have hil : i = l.length := by have : ¬ (i : Int) < l.length := by simpa using hc
                                    omega
      subst hil
      rw [List.take_length] at hb hall
      refine Wc.exit ?_
      refine Wc.seq ?_
      have hlo := (hb.own _ (List.mem_cons_self ..)).lo
      have e : encI l = (vb l.length ++ encL l, 0) := by rw [e0, if_pos hall]
      have hle : (vb l.length ++ encL l).length = ib := by
        have := (hb.own _ (List.mem_cons_self ..)).1
        simpa using this
      refine Wc.reg fun K hK => ?_; simp only [go_sem, ti3, ti113, ti9, ti5, ti111, ti77, ti4, ti35, hlen, h14, h15, h16, h4, hlo, allM_bytes, hle]; refine hK _ _ ?_; clear hK K
      rw [e]
      exact Wc.ret (Pf.ret [.tmp 2, .tmp 3] [.c (.p (.str (vb l.length ++ encL l))), .c (.p (.int .i64 0))] rfl rfl (by simp only [resultsD, go_sem, ti3, ti113, ti9, ti5, ti111, ti77, ti4, ti35, hlen]) rfl)
  · refine ⟨0, b0, (vb l.length).length, rfl, by omega, rfl, rfl, rfl, rfl, rfl, rfl, ?_, by omega, rfl⟩
    simpa [encL, St.nx_adv] using (hb0.adv (n := 3)).mono (Nat.le_add_right _ 3)
end Go.Proofs.YtafaoldmemcigaaGreat.Ab
namespace Go.Proofs.YtafaoldmemcigaaGreat.Ab
set_option maxHeartbeats 4000000
set_option maxRecDepth 10000
set_option linter.unusedSimpArgs false
set_option linter.unusedVariables false
def appS (t : List UInt8) (n : Int) : List UInt8 × Int := if inR n then (t ++ vb (zz n), 0) else ([], 2)
/-- 72: the reference's AppendSigned -/
theorem pf72 (t : List UInt8) (n : Int) (ht : t.length ≤ 4611686018427387904) : Pf E0 72 [.c (.p (.str t)), .c (.p (.int .i64 n))] (.tup [.c (.p (.str (appS t n).1)), .c (.p (.int .i64 (appS t n).2))]) := by
  refine Pf.body (fn := Tryz.f72) (by kernel_rfl) rfl ?_; simp only [List.map_cons, List.map_nil, List.cons_append, List.nil_append, List.length_cons, List.length_nil, Tryz.ntmps72, List.replicate, Nat.reduceSub, Nat.reduceAdd]
  refine Wc.seq ?_
  refine Wc.reg fun K hK => ?_; simp only [go_sem, ti3, ti113, ti9, ti5, ti111, ti77, ti4, ti35]; refine hK _ _ ?_; clear hK K
  refine Wc.seq (Wc.seq ?_)
  by_cases h : n < -1152921504606846976
  · refine Wc.reg fun K hK => ?_; simp only [go_sem, ti3, ti113, ti9, ti5, ti111, ti77, ti4, ti35, h]; refine hK _ _ ?_; clear hK K
    refine Wc.cond (t := true) rfl (fun _ => ?_) (fun h => by cases h)
    refine Wc.seq ?_
    refine Wc.reg fun K hK => ?_; simp only [go_sem, ti3, ti113, ti9, ti5, ti111, ti77, ti4, ti35, h]; refine hK _ _ ?_; clear hK K
    have e : appS t n = ([], 2) := by unfold appS; rw [if_neg]; simp [inR]; omega
    rw [e]
    exact Wc.ret (Pf.ret [.tmp 4, .tmp 5] [.c (.p (.str [])), .c (.p (.int .i64 2))] rfl rfl (by simp only [resultsD, go_sem, ti3, ti113, ti9, ti5, ti111, ti77, ti4, ti35]) rfl)
  · refine Wc.reg fun K hK => ?_; simp only [go_sem, ti3, ti113, ti9, ti5, ti111, ti77, ti4, ti35, h]; refine hK _ _ ?_; clear hK K
    refine Wc.cond (t := decide (1152921504606846976 < n)) rfl (fun hc => ?_) (fun hc => ?_)
    · have hc' : 1152921504606846976 < n := by simpa using hc
      refine Wc.seq ?_
      refine Wc.reg fun K hK => ?_; simp only [go_sem, ti3, ti113, ti9, ti5, ti111, ti77, ti4, ti35, h]; refine hK _ _ ?_; clear hK K
      have e : appS t n = ([], 2) := by unfold appS; rw [if_neg]; simp [inR]; omega
      rw [e]
      exact Wc.ret (Pf.ret [.tmp 4, .tmp 5] [.c (.p (.str [])), .c (.p (.int .i64 2))] rfl rfl (by simp only [resultsD, go_sem, ti3, ti113, ti9, ti5, ti111, ti77, ti4, ti35]) rfl)
    · have hc' : ¬ 1152921504606846976 < n := by simpa using hc
      have hr : inR n = true := by simp [inR]; omega
      have e : appS t n = (t ++ vb (zz n), 0) := by unfold appS; rw [if_pos hr]
      have hz := zz_lt hr
      have hl := vb_len10 (n := zz n) (by omega)
      have hlt : ¬ (9223372036854775807 < t.length + (vb (zz n)).length) := by omega
      refine Wc.skip (Wc.seq (Wc.seq ?_))
      refine Wc.reg fun K hK => ?_; simp only [go_sem, ti3, ti113, ti9, ti5, ti111, ti77, ti4, ti35, h]; refine hK _ _ ?_; clear hK K
      refine Wc.cond (t := decide (n < 0)) rfl (fun hc => ?_) (fun hc => ?_)
      · have hn : n < 0 := by simpa using hc
        have e1 : IntKind.i64.wrap (IntKind.i64.wrap (-2 * n) - 1) = (zz n : Int) := by rw [wi64, wi64]; unfold zz; rw [if_neg (by omega)]; omega
        refine Wc.seq ?_
        refine Wc.reg fun K hK => ?_; simp only [go_sem, ti3, ti113, ti9, ti5, ti111, ti77, ti4, ti35, h, e1]
        have hp := pf76 (zz n : Int) (by omega) (by omega)
        rw [Int.toNat_natCast] at hp
        refine wpCall.pf hp (by kernel_rfl) (by kernel_rfl) rfl rfl ?_
        simp only [go_sem, ti3, ti113, ti9, ti5, ti111, ti77, ti4, ti35, hlt]; refine hK _ _ ?_; clear hK K
        rw [e]
        exact Wc.ret (Pf.ret [.tmp 4, .tmp 5] [.c (.p (.str (t ++ vb (zz n)))), .c (.p (.int .i64 0))] rfl rfl (by simp only [resultsD, go_sem, ti3, ti113, ti9, ti5, ti111, ti77, ti4, ti35]) rfl)
      · have hn : ¬ n < 0 := by simpa using hc
        have e1 : IntKind.i64.wrap (2 * n) = (zz n : Int) := by rw [wi64]; unfold zz; rw [if_pos (by omega)]; omega
        refine Wc.skip (Wc.seq ?_)
        refine Wc.reg fun K hK => ?_; simp only [go_sem, ti3, ti113, ti9, ti5, ti111, ti77, ti4, ti35, h, e1]
        have hp := pf76 (zz n : Int) (by omega) (by omega)
        rw [Int.toNat_natCast] at hp
        refine wpCall.pf hp (by kernel_rfl) (by kernel_rfl) rfl rfl ?_
        simp only [go_sem, ti3, ti113, ti9, ti5, ti111, ti77, ti4, ti35, hlt]; refine hK _ _ ?_; clear hK K
        rw [e]
        exact Wc.ret (Pf.ret [.tmp 4, .tmp 5] [.c (.p (.str (t ++ vb (zz n)))), .c (.p (.int .i64 0))] rfl rfl (by simp only [resultsD, go_sem, ti3, ti113, ti9, ti5, ti111, ti77, ti4, ti35]) rfl)
theorem encL_len (l : List Int) (h : l.all inR = true) : (encL l).length ≤ 10 * l.length := by
  induction l with
  | nil => simp [encL]
  | cons x r ih =>
    simp only [List.all_cons, Bool.and_eq_true] at h
    have := ih h.2
    have h2 := vb_len10 (n := zz x) (by have := zz_lt h.1; omega)
    simp only [encL, List.flatMap_cons, List.length_append, List.length_cons] at this ⊢
    omega
/-- 35: the reference's Encode -/
theorem pf35 (l : List Int) (hl : l.length < 2^40) : Pf E0 35 [.c (.p (.lst l.length (l.map pI)))] (.tup [.c (.p (.str (encI l).1)), .c (.p (.int .i64 (encI l).2))]) := by
  refine Pf.body (fn := Tryz.f35) (by kernel_rfl) rfl ?_; simp only [List.map_cons, List.map_nil, List.cons_append, List.nil_append, List.length_cons, List.length_nil, Tryz.ntmps35, List.replicate, Nat.reduceSub, Nat.reduceAdd]
  refine Wc.seq ?_
  refine Wc.reg fun K hK => ?_; simp only [go_sem, ti3, ti113, ti9, ti5, ti111, ti77, ti4, ti35]; refine hK _ _ ?_; clear hK K
  refine Wc.seq (Wc.seq ?_)
  refine Wc.reg fun K hK => ?_; simp only [go_sem, ti3, ti113, ti9, ti5, ti111, ti77, ti4, ti35]; refine hK _ _ ?_; clear hK K
  refine Wc.cond (t := decide ((20000 : Int) < l.length)) rfl (fun hc => ?_) (fun hc => ?_)
  · have hc' : (20000 : Int) < l.length := by simpa using hc
    have e : encI l = ([], 4) := by unfold encI; rw [if_pos (by omega)]
    refine Wc.seq ?_
    refine Wc.reg fun K hK => ?_; simp only [go_sem, ti3, ti113, ti9, ti5, ti111, ti77, ti4, ti35]; refine hK _ _ ?_; clear hK K
    rw [e]
    exact Wc.ret (Pf.ret [.tmp 2, .tmp 3] [.c (.p (.str [])), .c (.p (.int .i64 4))] rfl rfl (by simp only [resultsD, go_sem, ti3, ti113, ti9, ti5, ti111, ti77, ti4, ti35]) rfl)
  have hc' : ¬ (20000 : Int) < l.length := by simpa using hc
  have e0 : encI l = if l.all inR then (vb l.length ++ encL l, 0) else ([], 2) := by unfold encI; rw [if_neg (by omega)]
  have hvl := vb_len10 (n := l.length) (by omega)
  refine Wc.skip (Wc.seq ?_)
  refine Wc.reg fun K hK => ?_; simp only [go_sem, ti3, ti113, ti9, ti5, ti111, ti77, ti4, ti35]
  have hp := pf76 (l.length : Int) (by omega) (by omega)
  rw [Int.toNat_natCast] at hp
  refine wpCall.pf hp (by kernel_rfl) (by kernel_rfl) rfl rfl ?_
  simp only [go_sem, ti3, ti113, ti9, ti5, ti111, ti77, ti4, ti35]; refine hK _ _ ?_; clear hK K
  refine Wc.seq (Wc.seq ?_)
  refine Wc.reg fun K hK => ?_; simp only [go_sem, ti3, ti113, ti9, ti5, ti111, ti77, ti4, ti35]; refine hK _ _ ?_; clear hK K
  refine Wc.block (Wc.loop (fun k y => ∃ (i : Nat), k = l.length - i ∧ i ≤ l.length ∧ y.ds = [] ∧ y.e.length = 34 ∧ y.e.getD 0 .junk = P' (.lst l.length (l.map pI)) ∧ y.e.getD 5 .junk = P' (.int .i64 i) ∧ y.e.getD 4 .junk = P' (.str (vb l.length ++ encL (l.take i))) ∧
    (l.take i).all inR = true) ?_ (k := l.length) ?_)
  · rintro k ⟨e, ds, s1⟩ ⟨i, rfl, hi, rfl, hlen, h0, h5, h4, hall⟩
    simp only at hlen h0 h5 h4
    have hel := encL_len _ hall
    rw [List.length_take] at hel
    refine Wc.seq (Wc.seq ?_)
    refine Wc.reg fun K hK => ?_; simp only [go_sem, ti3, ti113, ti9, ti5, ti111, ti77, ti4, ti35, hlen, h0, h5, h4]; refine hK _ _ ?_; clear hK K
    refine Wc.cond (t := decide ((i : Int) < l.length)) (by simp only [go_sem, ti3, ti113, ti9, ti5, ti111, ti77, ti4, ti35, hlen]) (fun hc => ?_) (fun hc => ?_)
    · have hil : i < l.length := by have : (i : Int) < l.length := by simpa using hc
                                    omega
      obtain ⟨x, hx⟩ : ∃ x, l[i]? = some x := ⟨l[i], List.getElem?_eq_getElem hil⟩
      have hix := ixA ti77 rfl ti3 (j := i) (m := l.length) (cs := l.map pI) hil (by simp) (by decide)
      have hca := rpA (off := i) (drop_map pI hx) (by simp; omega)
      refine Wc.skip (Wc.seq (Wc.block (Wc.seq ?_)))
      refine Wc.reg fun K hK => ?_; simp only [go_sem, ti3, ti113, ti9, ti5, ti111, ti77, ti4, ti35, hlen, h0, h5, h4, hix, hca]
      refine wpCall.pf (pf72 (vb l.length ++ encL (l.take i)) x (by simp; omega)) (by kernel_rfl) (by kernel_rfl) rfl rfl ?_
      simp only [go_sem, ti3, ti113, ti9, ti5, ti111, ti77, ti4, ti35, hlen, h0, h5, h4]; refine hK _ _ ?_; clear hK K
      refine Wc.seq (Wc.seq ?_)
      refine Wc.reg fun K hK => ?_; simp only [go_sem, ti3, ti113, ti9, ti5, ti111, ti77, ti4, ti35, hlen, h0, h5, h4]; refine hK _ _ ?_; clear hK K
      cases hx2 : inR x with
      | false =>
        have ea : appS (vb l.length ++ encL (l.take i)) x = ([], 2) := by unfold appS; rw [hx2]; rfl
        have e : encI l = ([], 2) := by
          rw [e0, if_neg]
          intro h
          rw [List.all_eq_true] at h
          have := h x (List.mem_of_getElem? hx)
          rw [hx2] at this; cases this
        rw [ea]
        refine Wc.cond (t := true) (by simp only [go_sem, ti3, ti113, ti9, ti5, ti111, ti77, ti4, ti35, hlen]; rfl) (fun _ => ?_) (fun h => by cases h)
        refine Wc.seq ?_
        refine Wc.reg fun K hK => ?_; simp only [go_sem, ti3, ti113, ti9, ti5, ti111, ti77, ti4, ti35, hlen, h0, h5, h4]; refine hK _ _ ?_; clear hK K
        rw [e]
        exact Wc.ret (Pf.ret [.tmp 2, .tmp 3] [.c (.p (.str [])), .c (.p (.int .i64 2))] rfl rfl (by simp only [resultsD, go_sem, ti3, ti113, ti9, ti5, ti111, ti77, ti4, ti35, hlen]) rfl)
      | true =>
        have ea : appS (vb l.length ++ encL (l.take i)) x = (vb l.length ++ encL (l.take i) ++ vb (zz x), 0) := by unfold appS; rw [hx2]; rfl
        rw [ea]
        refine Wc.cond (t := false) (by simp only [go_sem, ti3, ti113, ti9, ti5, ti111, ti77, ti4, ti35, hlen]; rfl) (fun h => by cases h) (fun _ => ?_)
        refine Wc.skip ?_
        refine Wc.reg fun K hK => ?_; simp only [go_sem, ti3, ti113, ti9, ti5, ti111, ti77, ti4, ti35, hlen, h0, h5, h4]; refine hK _ _ ?_; clear hK K
        refine Wc.reg fun K hK => ?_; simp only [go_sem, ti3, ti113, ti9, ti5, ti111, ti77, ti4, ti35, hlen, h0, h5, h4, i64n i (by omega)]; refine hK _ _ ?_; clear hK K
        refine ⟨l.length - (i + 1), by omega, i + 1, rfl, by omega, rfl, by simp only [go_sem, ti3, ti113, ti9, ti5, ti111, ti77, ti4, ti35, hlen], by simp only [go_sem, ti3, ti113, ti9, ti5, ti111, ti77, ti4, ti35, hlen, h0, h5, h4], by simp only [go_sem, ti3, ti113, ti9, ti5, ti111, ti77, ti4, ti35, hlen, h0, h5, h4], by simp only [go_sem, ti3, ti113, ti9, ti5, ti111, ti77, ti4, ti35, hlen, h0, h5, h4, encL_take hx, List.append_assoc], ?_⟩
        rw [take_snoc hx, List.all_append, hall]; simp [hx2]
    · have hil : i = l.length := by have : ¬ (i : Int) < l.length := by simpa using hc
                                    omega
      subst hil
      rw [List.take_length] at h4 hall
      refine Wc.exit ?_
      refine Wc.seq ?_
      have e : encI l = (vb l.length ++ encL l, 0) := by rw [e0, if_pos hall]
      refine Wc.reg fun K hK => ?_; simp only [go_sem, ti3, ti113, ti9, ti5, ti111, ti77, ti4, ti35, hlen, h0, h5, h4]; refine hK _ _ ?_; clear hK K
      rw [e]
      exact Wc.ret (Pf.ret [.tmp 2, .tmp 3] [.c (.p (.str (vb l.length ++ encL l))), .c (.p (.int .i64 0))] rfl rfl (by simp only [resultsD, go_sem, ti3, ti113, ti9, ti5, ti111, ti77, ti4, ti35, hlen]) rfl)
  · exact ⟨0, rfl, by omega, rfl, rfl, rfl, rfl, by simp [encL, P'], rfl⟩
end Go.Proofs.YtafaoldmemcigaaGreat.Ab
namespace Go.Proofs.YtafaoldmemcigaaGreat.Ab
set_option maxHeartbeats 4000000
set_option maxRecDepth 10000
set_option linter.unusedSimpArgs false
set_option linter.unusedVariables false
def diffs : List Int → List Int
  | x :: y :: r => (y - x) :: diffs (y :: r)
  | _ => []
theorem diffs_take : ∀ {l : List Int} {i : Nat} {x y : Int}, 1 ≤ i → l[i]? = some x → l[i - 1]? = some y → diffs (l.take (i + 1)) = diffs (l.take i) ++ [x - y]
  | [], i, x, y, h1, hx, hy => by simp at hx
  | a :: r, 1, x, y, h1, hx, hy => by
    simp at hx hy
    subst hy
    cases r with
    | nil => simp at hx
    | cons b r => simp at hx; subst hx; simp [diffs]
  | a :: r, i + 2, x, y, h1, hx, hy => by
    cases r with
    | nil => simp at hx
    | cons b r =>
      have := diffs_take (l := b :: r) (i := i + 1) (by omega) (by simpa using hx) (by simpa using hy)
      simp only [List.take_succ_cons, diffs, List.cons_append] at this ⊢
      rw [this]
/-- 97: differences -/
theorem pf97 (l : List Int) (hl : l.length < 2^40) (hb : ∀ x ∈ l, -2305843009213693952 ≤ x ∧ x ≤ 2305843009213693952) : Pf E0 97 [.c (.p (.lst l.length (l.map pI)))] (P' (.lst (diffs l).length ((diffs l).map pI))) := by
  refine Pf.body (fn := Tryz.f97) (by kernel_rfl) rfl ?_; simp only [List.map_cons, List.map_nil, List.cons_append, List.nil_append, List.length_cons, List.length_nil, Tryz.ntmps97, List.replicate, Nat.reduceSub, Nat.reduceAdd]
  refine Wc.seq ?_
  refine Wc.reg fun K hK => ?_; simp only [go_sem, ti3, ti113, ti9, ti5, ti111, ti77, ti4, ti35]; refine hK _ _ ?_; clear hK K
  refine Wc.seq ?_
  refine Wc.reg fun K hK => ?_; simp only [go_sem, ti3, ti113, ti9, ti5, ti111, ti77, ti4, ti35]; refine hK _ _ ?_; clear hK K
  refine Wc.seq (Wc.seq ?_)
  refine Wc.reg fun K hK => ?_; simp only [go_sem, ti3, ti113, ti9, ti5, ti111, ti77, ti4, ti35]; refine hK _ _ ?_; clear hK K
  refine Wc.block (Wc.loop (fun k y => ∃ (i : Nat) (b : D), k = l.length - i ∧ 1 ≤ i ∧ (i ≤ l.length ∨ i = 1) ∧ y.ds = [] ∧ y.e.length = 25 ∧ y.e.getD 0 .junk = P' (.lst l.length (l.map pI)) ∧ y.e.getD 4 .junk = P' (.int .i64 i) ∧ y.e.getD 3 .junk = b ∧
    OA y.s.nx y.s [(1, b, i - 1, (diffs (l.take i)).map pI)] []) ?_ (k := l.length - 1) ?_)
  · rintro k ⟨e, ds, s1⟩ ⟨i, b, rfl, hi1, hi, rfl, hlen, h0, h4, h3, hb0⟩
    simp only at hlen h0 h4 h3 hb0
    refine Wc.seq (Wc.seq ?_)
    refine Wc.reg fun K hK => ?_; simp only [go_sem, ti3, ti113, ti9, ti5, ti111, ti77, ti4, ti35, hlen, h0, h4, h3]; refine hK _ _ ?_; clear hK K
    refine Wc.cond (t := decide ((i : Int) < l.length)) (by simp only [go_sem, ti3, ti113, ti9, ti5, ti111, ti77, ti4, ti35, hlen]) (fun hc => ?_) (fun hc => ?_)
    · have hil : i < l.length := by have : (i : Int) < l.length := by simpa using hc
                                    omega
      obtain ⟨x, hx⟩ : ∃ x, l[i]? = some x := ⟨l[i], List.getElem?_eq_getElem hil⟩
      obtain ⟨y, hy⟩ : ∃ y, l[i - 1]? = some y := ⟨l[i - 1], List.getElem?_eq_getElem (by omega)⟩
      have hbx := hb x (List.mem_of_getElem? hx)
      have hby := hb y (List.mem_of_getElem? hy)
      have hix := ixA ti77 rfl ti3 (j := i) (m := l.length) (cs := l.map pI) hil (by simp) (by decide)
      have hca := rpA (off := i) (drop_map pI hx) (by simp; omega)
      have hiy := ixA ti77 rfl ti3 (j := i - 1) (m := l.length) (cs := l.map pI) (by omega) (by simp) (by decide)
      have hcb := rpA (off := i - 1) (drop_map pI hy) (by simp; omega)
      have e1 : IntKind.i64.wrap ((i : Int) - 1) = ((i - 1 : Nat) : Int) := by rw [wi64]; omega
      have e2 : IntKind.i64.wrap (x - y) = x - y := by rw [wi64]; omega
      refine Wc.skip (Wc.seq (Wc.block ?_))
      refine Wc.regD fun K hK => ?_; simp only [go_sem, ti3, ti113, ti9, ti5, ti111, ti77, ti4, ti35, hlen, h0, h4, h3, hix, hca, hiy, hcb, e1, e2]
      refine OA.app (L1 := []) (L2 := []) (by_ := 8) (n := i - 1) (m := 1) (ys := [pI (x - y)]) (OA.put (hb0.adv.adv) (by omega)) (by omega) ⟨_, ti77, rfl⟩ ti3 rfl rfl rfl (by decide) (by decide) (by simp only [go_sem, ti3, ti113, ti9, ti5, ti111, ti77, ti4, ti35]) rfl (by omega) fun b' s' hb' hnx => ?_
      simp only [go_sem, ti3, ti113, ti9, ti5, ti111, ti77, ti4, ti35, hlen, h0, h4, h3]; refine hK _ _ ?_; clear hK K
      refine Wc.reg fun K hK => ?_; simp only [go_sem, ti3, ti113, ti9, ti5, ti111, ti77, ti4, ti35, hlen, h0, h4, h3, i64n i (by omega)]; refine hK _ _ ?_; clear hK K
      refine ⟨l.length - (i + 1), by omega, i + 1, b', rfl, by omega, .inl (by omega), rfl, by simp only [go_sem, ti3, ti113, ti9, ti5, ti111, ti77, ti4, ti35, hlen], by simp only [go_sem, ti3, ti113, ti9, ti5, ti111, ti77, ti4, ti35, hlen, h0, h4, h3], by simp only [go_sem, ti3, ti113, ti9, ti5, ti111, ti77, ti4, ti35, hlen, h0, h4, h3], by simp only [go_sem, ti3, ti113, ti9, ti5, ti111, ti77, ti4, ti35, hlen, h0, h4, h3], ?_⟩
      have e3 : i - 1 + 1 = i + 1 - 1 := by omega
      have e4 : (diffs (l.take (i + 1))).map pI = (diffs (l.take i)).map pI ++ [pI (x - y)] := by rw [diffs_take hi1 hx hy]; simp
      rw [e4, ← e3]
      have := (hb'.mono (b' := s'.nx) (by rw [hnx]; simp only [St.nx_put, St.nx_adv]; omega)).adv (n := 3)
      simpa only [St.nx_adv, List.nil_append] using this.mono (Nat.le_add_right _ 3)
    · have hil : l.length ≤ i := by have : ¬ (i : Int) < l.length := by simpa using hc
                                    omega
      rw [List.take_of_length_le hil] at hb0
      have hl2 : (diffs l).length = i - 1 := by
        have := (hb0.own _ (List.mem_cons_self ..)).1
        simpa using this
      obtain ⟨c, rfl⟩ := (hb0.own _ (List.mem_cons_self ..)).v
      refine Wc.exit ?_
      refine Wc.seq ?_
      refine Wc.reg fun K hK => ?_; simp only [go_sem, ti3, ti113, ti9, ti5, ti111, ti77, ti4, ti35, hlen, h0, h4, h3]; refine hK _ _ ?_; clear hK K
      rw [hl2]
      exact Wc.ret (Pf.retO [.tmp 2] c rfl rfl (by simp only [resultsD, go_sem, ti3, ti113, ti9, ti5, ti111, ti77, ti4, ti35, hlen]) (((hb0.adv (n := 1)).adv (n := 1)).own _ (List.mem_cons_self ..)))
  · refine ⟨1, _, rfl, by omega, .inr rfl, rfl, rfl, rfl, rfl, rfl, ?_⟩
    have : diffs (l.take 1) = [] := by cases l <;> rfl
    rw [this]
    exact (s00_oa.adv.adv.adv).nil.mono (Nat.le_of_ble_eq_true rfl)
/-- 73: differences -/
theorem pf73 (l : List Int) (hl : l.length < 2^40) (hb : ∀ x ∈ l, -2305843009213693952 ≤ x ∧ x ≤ 2305843009213693952) : Pf E0 73 [.c (.p (.lst l.length (l.map pI)))] (P' (.lst (diffs l).length ((diffs l).map pI))) := by
  refine Pf.body (fn := Tryz.f73) (by kernel_rfl) rfl ?_; simp only [List.map_cons, List.map_nil, List.cons_append, List.nil_append, List.length_cons, List.length_nil, Tryz.ntmps73, List.replicate, Nat.reduceSub, Nat.reduceAdd]
  refine Wc.seq ?_
  refine Wc.reg fun K hK => ?_; simp only [go_sem, ti3, ti113, ti9, ti5, ti111, ti77, ti4, ti35]; refine hK _ _ ?_; clear hK K
  refine Wc.seq ?_
  refine Wc.reg fun K hK => ?_; simp only [go_sem, ti3, ti113, ti9, ti5, ti111, ti77, ti4, ti35]; refine hK _ _ ?_; clear hK K
  refine Wc.seq (Wc.seq ?_)
  refine Wc.reg fun K hK => ?_; simp only [go_sem, ti3, ti113, ti9, ti5, ti111, ti77, ti4, ti35]; refine hK _ _ ?_; clear hK K
  refine Wc.block (Wc.loop (fun k y => ∃ (i : Nat) (b : D), k = l.length - i ∧ 1 ≤ i ∧ (i ≤ l.length ∨ i = 1) ∧ y.ds = [] ∧ y.e.length = 26 ∧ y.e.getD 0 .junk = P' (.lst l.length (l.map pI)) ∧ y.e.getD 4 .junk = P' (.int .i64 i) ∧ y.e.getD 3 .junk = b ∧
    OA y.s.nx y.s [(1, b, i - 1, (diffs (l.take i)).map pI)] []) ?_ (k := l.length - 1) ?_)
  · rintro k ⟨e, ds, s1⟩ ⟨i, b, rfl, hi1, hi, rfl, hlen, h0, h4, h3, hb0⟩
    simp only at hlen h0 h4 h3 hb0
    refine Wc.seq (Wc.seq ?_)
    refine Wc.reg fun K hK => ?_; simp only [go_sem, ti3, ti113, ti9, ti5, ti111, ti77, ti4, ti35, hlen, h0, h4, h3]; refine hK _ _ ?_; clear hK K
    refine Wc.cond (t := decide ((i : Int) < l.length)) (by simp only [go_sem, ti3, ti113, ti9, ti5, ti111, ti77, ti4, ti35, hlen]) (fun hc => ?_) (fun hc => ?_)
    · have hil : i < l.length := by have : (i : Int) < l.length := by simpa using hc
                                    omega
      obtain ⟨x, hx⟩ : ∃ x, l[i]? = some x := ⟨l[i], List.getElem?_eq_getElem hil⟩
      obtain ⟨y, hy⟩ : ∃ y, l[i - 1]? = some y := ⟨l[i - 1], List.getElem?_eq_getElem (by omega)⟩
      have hbx := hb x (List.mem_of_getElem? hx)
      have hby := hb y (List.mem_of_getElem? hy)
      have hix := ixA ti77 rfl ti3 (j := i) (m := l.length) (cs := l.map pI) hil (by simp) (by decide)
      have hca := rpA (off := i) (drop_map pI hx) (by simp; omega)
      have hiy := ixA ti77 rfl ti3 (j := i - 1) (m := l.length) (cs := l.map pI) (by omega) (by simp) (by decide)
      have hcb := rpA (off := i - 1) (drop_map pI hy) (by simp; omega)
      have e1 : IntKind.i64.wrap ((i : Int) - 1) = ((i - 1 : Nat) : Int) := by rw [wi64]; omega
      have e2 : IntKind.i64.wrap (x - y) = x - y := by rw [wi64]; omega
      refine Wc.skip (Wc.seq (Wc.block ?_))
      refine Wc.regD fun K hK => ?_; simp only [go_sem, ti3, ti113, ti9, ti5, ti111, ti77, ti4, ti35, hlen, h0, h4, h3, hix, hca, hiy, hcb, e1, e2]
      refine OA.app (L1 := []) (L2 := []) (by_ := 8) (n := i - 1) (m := 1) (ys := [pI (x - y)]) (OA.put (hb0.adv.adv) (by omega)) (by omega) ⟨_, ti77, rfl⟩ ti3 rfl rfl rfl (by decide) (by decide) (by simp only [go_sem, ti3, ti113, ti9, ti5, ti111, ti77, ti4, ti35]) rfl (by omega) fun b' s' hb' hnx => ?_
      simp only [go_sem, ti3, ti113, ti9, ti5, ti111, ti77, ti4, ti35, hlen, h0, h4, h3]; refine hK _ _ ?_; clear hK K
      refine Wc.reg fun K hK => ?_; simp only [go_sem, ti3, ti113, ti9, ti5, ti111, ti77, ti4, ti35, hlen, h0, h4, h3, i64n i (by omega)]; refine hK _ _ ?_; clear hK K
      refine ⟨l.length - (i + 1), by omega, i + 1, b', rfl, by omega, .inl (by omega), rfl, by simp only [go_sem, ti3, ti113, ti9, ti5, ti111, ti77, ti4, ti35, hlen], by simp only [go_sem, ti3, ti113, ti9, ti5, ti111, ti77, ti4, ti35, hlen, h0, h4, h3], by simp only [go_sem, ti3, ti113, ti9, ti5, ti111, ti77, ti4, ti35, hlen, h0, h4, h3], by simp only [go_sem, ti3, ti113, ti9, ti5, ti111, ti77, ti4, ti35, hlen, h0, h4, h3], ?_⟩
      have e3 : i - 1 + 1 = i + 1 - 1 := by omega
      have e4 : (diffs (l.take (i + 1))).map pI = (diffs (l.take i)).map pI ++ [pI (x - y)] := by rw [diffs_take hi1 hx hy]; simp
      rw [e4, ← e3]
      have := (hb'.mono (b' := s'.nx) (by rw [hnx]; simp only [St.nx_put, St.nx_adv]; omega)).adv (n := 3)
      simpa only [St.nx_adv, List.nil_append] using this.mono (Nat.le_add_right _ 3)
    · have hil : l.length ≤ i := by have : ¬ (i : Int) < l.length := by simpa using hc
                                    omega
      rw [List.take_of_length_le hil] at hb0
      have hl2 : (diffs l).length = i - 1 := by
        have := (hb0.own _ (List.mem_cons_self ..)).1
        simpa using this
      obtain ⟨c, rfl⟩ := (hb0.own _ (List.mem_cons_self ..)).v
      refine Wc.exit ?_
      refine Wc.seq ?_
      refine Wc.reg fun K hK => ?_; simp only [go_sem, ti3, ti113, ti9, ti5, ti111, ti77, ti4, ti35, hlen, h0, h4, h3]; refine hK _ _ ?_; clear hK K
      rw [hl2]
      exact Wc.ret (Pf.retO [.tmp 2] c rfl rfl (by simp only [resultsD, go_sem, ti3, ti113, ti9, ti5, ti111, ti77, ti4, ti35, hlen]) (((hb0.adv (n := 1)).adv (n := 1)).own _ (List.mem_cons_self ..)))
  · refine ⟨1, _, rfl, by omega, .inr rfl, rfl, rfl, rfl, rfl, rfl, ?_⟩
    have : diffs (l.take 1) = [] := by cases l <;> rfl
    rw [this]
    exact ((s00_oa.adv.adv).front (es := 1) (n := 0) (cs := []) (by omega) rfl).adv.mono (Nat.le_of_ble_eq_true rfl)
/-- 145: varint.AppendSigned -/
theorem pf145 (t : List UInt8) (n : Int) (ht : t.length ≤ 4611686018427387904) : Pf E0 145 [.c (.p (.str t)), .c (.p (.int .i64 n))] (.tup [.c (.p (.str (appS t n).1)), .c (.p (.int .i64 (appS t n).2))]) := by
  refine Pf.body (fn := Tryz.f145) (by kernel_rfl) rfl ?_; simp only [List.map_cons, List.map_nil, List.cons_append, List.nil_append, List.length_cons, List.length_nil, Tryz.ntmps145, List.replicate, Nat.reduceSub, Nat.reduceAdd]
  refine Wc.seq ?_
  refine Wc.reg fun K hK => ?_; simp only [go_sem, ti3, ti113, ti9, ti5, ti111, ti77, ti4, ti35]; refine hK _ _ ?_; clear hK K
  refine Wc.seq (Wc.seq ?_)
  refine Wc.reg fun K hK => ?_; simp only [go_sem, ti3, ti113, ti9, ti5, ti111, ti77, ti4, ti35]
  refine wpCall.pf (pf102 n) (by kernel_rfl) (by kernel_rfl) rfl rfl ?_
  simp only [go_sem, ti3, ti113, ti9, ti5, ti111, ti77, ti4, ti35]; refine hK _ _ ?_; clear hK K
  refine Wc.cond (t := !inR n) rfl (fun hc => ?_) (fun hc => ?_)
  · have hr : inR n = false := by simpa using hc
    have e : appS t n = ([], 2) := by unfold appS; rw [hr]; rfl
    refine Wc.seq ?_
    refine Wc.reg fun K hK => ?_; simp only [go_sem, ti3, ti113, ti9, ti5, ti111, ti77, ti4, ti35]; refine hK _ _ ?_; clear hK K
    rw [e]
    exact Wc.ret (Pf.ret [.tmp 4, .tmp 5] [.c (.p (.str [])), .c (.p (.int .i64 2))] rfl rfl (by simp only [resultsD, go_sem, ti3, ti113, ti9, ti5, ti111, ti77, ti4, ti35]) rfl)
  · have hr : inR n = true := by simpa using hc
    have e : appS t n = (t ++ vb (zz n), 0) := by unfold appS; rw [hr]; rfl
    have hz := zz_lt hr
    have hl := vb_len10 (n := zz n) (by omega)
    have hlt : ¬ (9223372036854775807 < t.length + (vb (zz n)).length) := by omega
    refine Wc.skip (Wc.seq ?_)
    refine Wc.reg fun K hK => ?_; simp only [go_sem, ti3, ti113, ti9, ti5, ti111, ti77, ti4, ti35]
    refine wpCall.pf (pf103 n hr) (by kernel_rfl) (by kernel_rfl) rfl rfl ?_
    simp only [go_sem, ti3, ti113, ti9, ti5, ti111, ti77, ti4, ti35]
    refine call61 (L1 := []) (L2 := []) (M := []) (OA.nil (s00_oa.adv.adv.adv)) (by omega) (by omega) (by omega) fun x' s' hx hnx => ?_
    have hlo := (hx.own _ (List.mem_cons_self ..)).listOf
    simp only [List.nil_append, Nat.zero_add] at hlo
    simp only [go_sem, ti3, ti113, ti9, ti5, ti111, ti77, ti4, ti35, hlo, allM_bytes, hlt]; refine hK _ _ ?_; clear hK K
    rw [e]
    exact Wc.ret (Pf.ret [.tmp 4, .tmp 5] [.c (.p (.str (t ++ vb (zz n)))), .c (.p (.int .i64 0))] rfl rfl (by simp only [resultsD, go_sem, ti3, ti113, ti9, ti5, ti111, ti77, ti4, ti35]) rfl)
/-- 127: unsigned -/
theorem pf127 (n : Int) : Pf E0 127 [.c (.p (.int .i64 n))] (P' (.str (appV [] n).1)) := by
  refine Pf.body (fn := Tryz.f127) (by kernel_rfl) rfl ?_; simp only [List.map_cons, List.map_nil, List.cons_append, List.nil_append, List.length_cons, List.length_nil, Tryz.ntmps127, List.replicate, Nat.reduceSub, Nat.reduceAdd]
  refine Wc.seq ?_
  refine Wc.reg fun K hK => ?_; simp only [go_sem, ti3, ti113, ti9, ti5, ti111, ti77, ti4, ti35]; refine hK _ _ ?_; clear hK K
  refine Wc.seq ?_
  refine Wc.reg fun K hK => ?_; simp only [go_sem, ti3, ti113, ti9, ti5, ti111, ti77, ti4, ti35]
  refine wpCall.pf (pf26 [] n (by decide)) (by kernel_rfl) (by kernel_rfl) rfl rfl ?_
  simp only [go_sem, ti3, ti113, ti9, ti5, ti111, ti77, ti4, ti35]; refine hK _ _ ?_; clear hK K
  refine Wc.seq ?_
  refine Wc.reg fun K hK => ?_; simp only [go_sem, ti3, ti113, ti9, ti5, ti111, ti77, ti4, ti35]; refine hK _ _ ?_; clear hK K
  exact Wc.ret (Pf.ret [.tmp 2] [.c (.p (.str (appV [] n).1))] rfl rfl (by simp only [resultsD, go_sem, ti3, ti113, ti9, ti5, ti111, ti77, ti4, ti35]) rfl)
/-- 128: signed -/
theorem pf128 (n : Int) : Pf E0 128 [.c (.p (.int .i64 n))] (P' (.str (appS [] n).1)) := by
  refine Pf.body (fn := Tryz.f128) (by kernel_rfl) rfl ?_; simp only [List.map_cons, List.map_nil, List.cons_append, List.nil_append, List.length_cons, List.length_nil, Tryz.ntmps128, List.replicate, Nat.reduceSub, Nat.reduceAdd]
  refine Wc.seq ?_
  refine Wc.reg fun K hK => ?_; simp only [go_sem, ti3, ti113, ti9, ti5, ti111, ti77, ti4, ti35]; refine hK _ _ ?_; clear hK K
  refine Wc.seq ?_
  refine Wc.reg fun K hK => ?_; simp only [go_sem, ti3, ti113, ti9, ti5, ti111, ti77, ti4, ti35]
  refine wpCall.pf (pf145 [] n (by decide)) (by kernel_rfl) (by kernel_rfl) rfl rfl ?_
  simp only [go_sem, ti3, ti113, ti9, ti5, ti111, ti77, ti4, ti35]; refine hK _ _ ?_; clear hK K
  refine Wc.seq ?_
  refine Wc.reg fun K hK => ?_; simp only [go_sem, ti3, ti113, ti9, ti5, ti111, ti77, ti4, ti35]; refine hK _ _ ?_; clear hK K
  exact Wc.ret (Pf.ret [.tmp 2] [.c (.p (.str (appS [] n).1))] rfl rfl (by simp only [resultsD, go_sem, ti3, ti113, ti9, ti5, ti111, ti77, ti4, ti35]) rfl)
end Go.Proofs.YtafaoldmemcigaaGreat.Ab
namespace Go.Proofs.YtafaoldmemcigaaGreat.Ab
set_option maxHeartbeats 4000000
set_option maxRecDepth 10000
set_option linter.unusedSimpArgs false
set_option linter.unusedVariables false
/-- The encoding of the runs of a list. -/
def runE : List Int → List UInt8
  | [] => []
  | x :: r => vb (zz x) ++ (vb ((r.takeWhile (· == x)).length + 1) ++ runE (r.dropWhile (· == x)))
termination_by l => l.length
decreasing_by
  have := (List.dropWhile_sublist (p := (· == x)) (l := r)).length_le
  simp only [List.length_cons]
  omega
theorem while_rep (x : Int) : ∀ (m : Nat) (r : List Int), (∀ y, r[0]? = some y → y ≠ x) → ((List.replicate m x ++ r).takeWhile (· == x)).length = m ∧ (List.replicate m x ++ r).dropWhile (· == x) = r
  | 0, [], _ => ⟨rfl, rfl⟩
  | 0, y :: r, h => by
    have : (y == x) = false := by simpa using h y rfl
    simp [List.takeWhile, List.dropWhile, this]
  | m + 1, r, h => by
    obtain ⟨h1, h2⟩ := while_rep x m r h
    simp only [List.replicate_succ, List.cons_append, List.takeWhile_cons, beq_self_eq_true, if_true, List.length_cons, List.dropWhile_cons]
    exact ⟨by rw [h1], h2⟩
theorem drop_rep {l : List Int} {x : Int} {i : Nat} : ∀ {m : Nat}, (∀ j, i ≤ j → j < i + m → l[j]? = some x) → l.drop i = List.replicate m x ++ l.drop (i + m)
  | 0, _ => by simp
  | m + 1, h => by
    have ih := drop_rep (l := l) (x := x) (i := i) (m := m) fun j h1 h2 => h j h1 (by omega)
    have h1 := h (i + m) (by omega) (by omega)
    have hlt := (List.getElem?_eq_some_iff.1 h1).1
    have hx := (List.getElem?_eq_some_iff.1 h1).2
    rw [ih, List.drop_eq_getElem_cons hlt, hx, List.replicate_succ', List.append_assoc]
    rfl
theorem run_step {l : List Int} {x : Int} {i k : Nat} (hik : i < k) (h : ∀ j, i ≤ j → j < k → l[j]? = some x) (hk : ∀ y, l[k]? = some y → y ≠ x) : runE (l.drop i) = vb (zz x) ++ (vb (k - i) ++ runE (l.drop k)) := by
  obtain ⟨m, rfl⟩ : ∃ m, k = i + (m + 1) := ⟨k - i - 1, by omega⟩
  have e := drop_rep (l := l) (x := x) (i := i) (m := m + 1) h
  rw [e, List.replicate_succ, List.cons_append, runE]
  obtain ⟨h1, h2⟩ := while_rep x m (l.drop (i + (m + 1))) (fun y hy => hk y (by simpa using hy))
  rw [h1, h2]
  have : i + (m + 1) - i = m + 1 := by omega
  rw [this]
/-- 74: the reference's runs -/
theorem pf74 (l : List Int) (hl : l.length < 2^40) (hr : l.all inR = true) : Pf E0 74 [.c (.p (.lst l.length (l.map pI)))] (P' (.str (runE l))) := by
  have hR : ∀ x ∈ l, inR x = true := List.all_eq_true.1 hr
  refine Pf.body (fn := Tryz.f74) (by kernel_rfl) rfl ?_; simp only [List.map_cons, List.map_nil, List.cons_append, List.nil_append, List.length_cons, List.length_nil, Tryz.ntmps74, List.replicate, Nat.reduceSub, Nat.reduceAdd]
  refine Wc.seq ?_
  refine Wc.reg fun K hK => ?_; simp only [go_sem, ti3, ti113, ti9, ti5, ti111, ti77, ti4, ti35]; refine hK _ _ ?_; clear hK K
  refine Wc.seq ?_
  refine Wc.reg fun K hK => ?_; simp only [go_sem, ti3, ti113, ti9, ti5, ti111, ti77, ti4, ti35]; refine hK _ _ ?_; clear hK K
  refine Wc.seq (Wc.seq ?_)
  refine Wc.reg fun K hK => ?_; simp only [go_sem, ti3, ti113, ti9, ti5, ti111, ti77, ti4, ti35]; refine hK _ _ ?_; clear hK K
  refine Wc.block (Wc.loop (fun k y => ∃ (i : Nat) (t : List UInt8), k = l.length - i ∧ i ≤ l.length ∧ y.ds = [] ∧ y.e.length = 47 ∧ y.e.getD 0 .junk = P' (.lst l.length (l.map pI)) ∧ y.e.getD 4 .junk = P' (.int .i64 i) ∧ y.e.getD 3 .junk = P' (.str t) ∧ t ++ runE (l.drop i) = runE l ∧ t.length ≤ 20 * i) ?_ (k := l.length) ?_)
  · rintro k ⟨e, ds, s1⟩ ⟨i, t, rfl, hi, rfl, hlen, h0, h4, h3, ht, htl⟩
    simp only at hlen h0 h4 h3
    refine Wc.seq (Wc.seq ?_)
    refine Wc.reg fun K hK => ?_; simp only [go_sem, ti3, ti113, ti9, ti5, ti111, ti77, ti4, ti35, hlen, h0, h4, h3]; refine hK _ _ ?_; clear hK K
    refine Wc.cond (t := decide ((i : Int) < l.length)) (by simp only [go_sem, ti3, ti113, ti9, ti5, ti111, ti77, ti4, ti35, hlen]) (fun hc => ?_) (fun hc => ?_)
    · have hil : i < l.length := by have : (i : Int) < l.length := by simpa using hc
                                    omega
      obtain ⟨x, hx⟩ : ∃ x, l[i]? = some x := ⟨l[i], List.getElem?_eq_getElem hil⟩
      have hxR := hR x (List.mem_of_getElem? hx)
      have hix := ixA ti77 rfl ti3 (j := i) (m := l.length) (cs := l.map pI) hil (by simp) (by decide)
      have hca := rpA (off := i) (drop_map pI hx) (by simp; omega)
      refine Wc.skip (Wc.block (Wc.seq ?_))
      refine Wc.reg fun K hK => ?_; simp only [go_sem, ti3, ti113, ti9, ti5, ti111, ti77, ti4, ti35, hlen, h0, h4, h3]; refine hK _ _ ?_; clear hK K
      refine Wc.seqA (fun y => ∃ k, i < k ∧ k ≤ l.length ∧ (∀ j, i ≤ j → j < k → l[j]? = some x) ∧ (∀ y, l[k]? = some y → y ≠ x) ∧ y.ds = [] ∧ y.e.length = 47 ∧ y.e.getD 0 .junk = P' (.lst l.length (l.map pI)) ∧ y.e.getD 4 .junk = P' (.int .i64 i) ∧ y.e.getD 3 .junk = P' (.str t) ∧ y.e.getD 5 .junk = P' (.int .i64 k)) ?_ ?_
      · refine Wc.block (Wc.loop (fun q y => ∃ (k : Nat), q = l.length - k ∧ i ≤ k ∧ k ≤ l.length ∧ (∀ j, i ≤ j → j < k → l[j]? = some x) ∧ y.ds = [] ∧ y.e.length = 47 ∧ y.e.getD 0 .junk = P' (.lst l.length (l.map pI)) ∧ y.e.getD 4 .junk = P' (.int .i64 i) ∧ y.e.getD 3 .junk = P' (.str t) ∧ y.e.getD 5 .junk = P' (.int .i64 k)) ?_ (k := l.length - i) ?_)
        · clear hlen h0 h4 h3 e s1
          rintro q ⟨e, ds, s1⟩ ⟨k, rfl, hik, hkl, hall, rfl, hlen, h0, h4, h3, h5⟩
          simp only at hlen h0 h4 h3 h5
          refine Wc.seq (Wc.seq ?_)
          by_cases hkl2 : k < l.length
          · obtain ⟨y, hy⟩ : ∃ y, l[k]? = some y := ⟨l[k], List.getElem?_eq_getElem hkl2⟩
            have hiy := ixA ti77 rfl ti3 (j := k) (m := l.length) (cs := l.map pI) hkl2 (by simp) (by decide)
            have hcb := rpA (off := k) (drop_map pI hy) (by simp; omega)
            have hd : ((k : Int) < (l.length : Int)) = True := by simp; omega
            refine Wc.regD fun K hK => ?_; simp only [go_sem, ti3, ti113, ti9, ti5, ti111, ti77, ti4, ti35, hlen, h0, h4, h3, h5, hix, hca, hiy, hcb, hd]; refine hK _ _ ?_; clear hK K
            refine Wc.cond (t := (y == x)) (by simp only [go_sem, ti3, ti113, ti9, ti5, ti111, ti77, ti4, ti35, hlen, hd]) (fun hc => ?_) (fun hc => ?_)
            · have hyx : y = x := by simpa using hc
              refine Wc.skip (Wc.block ?_)
              refine Wc.reg fun K hK => ?_; simp only [go_sem, ti3, ti113, ti9, ti5, ti111, ti77, ti4, ti35, hlen, h0, h4, h3, h5, i64n k (by omega)]; refine hK _ _ ?_; clear hK K
              refine ⟨l.length - (k + 1), by omega, k + 1, rfl, by omega, by omega, fun j h1 h2 => ?_, rfl, by simp only [go_sem, ti3, ti113, ti9, ti5, ti111, ti77, ti4, ti35, hlen], by simp only [go_sem, ti3, ti113, ti9, ti5, ti111, ti77, ti4, ti35, hlen, h0], by simp only [go_sem, ti3, ti113, ti9, ti5, ti111, ti77, ti4, ti35, hlen, h4], by simp only [go_sem, ti3, ti113, ti9, ti5, ti111, ti77, ti4, ti35, hlen, h3], by simp only [go_sem, ti3, ti113, ti9, ti5, ti111, ti77, ti4, ti35, hlen]⟩
              rcases Nat.lt_or_ge j k with h | h
              · exact hall j h1 h
              · have : j = k := by omega
                rw [this, hy, hyx]
            · have hyx : y ≠ x := by simpa using hc
              have hki : i ≠ k := fun e => by rw [← e, hx] at hy; cases hy; exact hyx rfl
              exact Wc.exit ⟨rfl, k, by omega, hkl, hall, fun z hz => (by rw [hy] at hz; cases hz; exact hyx), rfl, by simp only [go_sem, ti3, ti113, ti9, ti5, ti111, ti77, ti4, ti35, hlen], by simp only [go_sem, ti3, ti113, ti9, ti5, ti111, ti77, ti4, ti35, hlen, h0], by simp only [go_sem, ti3, ti113, ti9, ti5, ti111, ti77, ti4, ti35, hlen, h4], by simp only [go_sem, ti3, ti113, ti9, ti5, ti111, ti77, ti4, ti35, hlen, h3], by simp only [go_sem, ti3, ti113, ti9, ti5, ti111, ti77, ti4, ti35, hlen, h5]⟩
          · have hd : ((k : Int) < (l.length : Int)) = False := by simp; omega
            refine Wc.regD fun K hK => ?_; simp only [go_sem, ti3, ti113, ti9, ti5, ti111, ti77, ti4, ti35, hlen, h0, h4, h3, h5, hd]; refine hK _ _ ?_; clear hK K
            refine Wc.cond (t := false) (by simp only [go_sem, ti3, ti113, ti9, ti5, ti111, ti77, ti4, ti35, hlen, hd]) (fun hc => by cases hc) (fun hc => ?_)
            exact Wc.exit ⟨rfl, k, by omega, hkl, hall, fun z hz => (by rw [List.getElem?_eq_none (by omega)] at hz; cases hz), rfl, by simp only [go_sem, ti3, ti113, ti9, ti5, ti111, ti77, ti4, ti35, hlen], by simp only [go_sem, ti3, ti113, ti9, ti5, ti111, ti77, ti4, ti35, hlen, h0], by simp only [go_sem, ti3, ti113, ti9, ti5, ti111, ti77, ti4, ti35, hlen, h4], by simp only [go_sem, ti3, ti113, ti9, ti5, ti111, ti77, ti4, ti35, hlen, h3], by simp only [go_sem, ti3, ti113, ti9, ti5, ti111, ti77, ti4, ti35, hlen, h5]⟩
        · exact ⟨i, rfl, Nat.le_refl _, by omega, fun j h1 h2 => by omega, rfl, by simp only [go_sem, ti3, ti113, ti9, ti5, ti111, ti77, ti4, ti35, hlen], by simp only [go_sem, ti3, ti113, ti9, ti5, ti111, ti77, ti4, ti35, hlen, h0], by simp only [go_sem, ti3, ti113, ti9, ti5, ti111, ti77, ti4, ti35, hlen, h4], by simp only [go_sem, ti3, ti113, ti9, ti5, ti111, ti77, ti4, ti35, hlen, h3], by simp only [go_sem, ti3, ti113, ti9, ti5, ti111, ti77, ti4, ti35, hlen, h4]⟩
      · clear hlen h0 h4 h3 e s1
        rintro ⟨e, ds, s1⟩ ⟨k, hik, hkl, hall, hend, rfl, hlen, h0, h4, h3, h5⟩
        simp only at hlen h0 h4 h3 h5
        have hz := zz_lt hxR
        have z1 := vb_len10 (n := zz x) (by omega)
        have z2 := vb_len10 (n := k - i) (by omega)
        have ea : appS t x = (t ++ vb (zz x), 0) := by unfold appS; rw [hxR]; rfl
        have eb : appV (t ++ vb (zz x)) ((k - i : Nat) : Int) = (t ++ vb (zz x) ++ vb (k - i), 0) := by unfold appV; rw [if_neg (by omega), Int.toNat_natCast]
        have e1 : IntKind.i64.wrap ((k : Int) - i) = ((k - i : Nat) : Int) := by rw [wi64]; omega
        refine Wc.seq ?_
        refine Wc.reg fun K hK => ?_; simp only [go_sem, ti3, ti113, ti9, ti5, ti111, ti77, ti4, ti35, hlen, h0, h4, h3, h5, hix, hca]
        refine wpCall.pf (pf72 t x (by omega)) (by kernel_rfl) (by kernel_rfl) rfl rfl ?_
        simp only [go_sem, ti3, ti113, ti9, ti5, ti111, ti77, ti4, ti35, hlen, h0, h4, h3, h5, ea]; refine hK _ _ ?_; clear hK K
        refine Wc.seq ?_
        refine Wc.reg fun K hK => ?_; simp only [go_sem, ti3, ti113, ti9, ti5, ti111, ti77, ti4, ti35, hlen, h0, h4, h3, h5, e1, ea]
        refine wpCall.pf (pf66 (t ++ vb (zz x)) ((k - i : Nat) : Int) (by simp; omega)) (by kernel_rfl) (by kernel_rfl) rfl rfl ?_
        simp only [go_sem, ti3, ti113, ti9, ti5, ti111, ti77, ti4, ti35, hlen, h0, h4, h3, h5, eb]; refine hK _ _ ?_; clear hK K
        refine Wc.reg fun K hK => ?_; simp only [go_sem, ti3, ti113, ti9, ti5, ti111, ti77, ti4, ti35, hlen, h0, h4, h3, h5]; refine hK _ _ ?_; clear hK K
        refine ⟨l.length - k, by omega, k, t ++ vb (zz x) ++ vb (k - i), rfl, by omega, rfl, by simp only [go_sem, ti3, ti113, ti9, ti5, ti111, ti77, ti4, ti35, hlen], by simp only [go_sem, ti3, ti113, ti9, ti5, ti111, ti77, ti4, ti35, hlen, h0], by simp only [go_sem, ti3, ti113, ti9, ti5, ti111, ti77, ti4, ti35, hlen], by simp only [go_sem, ti3, ti113, ti9, ti5, ti111, ti77, ti4, ti35, hlen, eb], ?_, by simp; omega⟩
        rw [← ht, run_step hik hall hend]; simp only [List.append_assoc]
    · have hil : i = l.length := by have : ¬ (i : Int) < l.length := by simpa using hc
                                    omega
      have ht' : t = runE l := by rw [← ht, hil, List.drop_length, runE, List.append_nil]
      refine Wc.exit ?_
      refine Wc.seq ?_
      refine Wc.reg fun K hK => ?_; simp only [go_sem, ti3, ti113, ti9, ti5, ti111, ti77, ti4, ti35, hlen, h0, h4, h3]; refine hK _ _ ?_; clear hK K
      rw [← ht']
      exact Wc.ret (Pf.ret [.tmp 2] [.c (.p (.str t))] rfl rfl (by simp only [resultsD, go_sem, ti3, ti113, ti9, ti5, ti111, ti77, ti4, ti35, hlen]) rfl)
  · exact ⟨0, [], rfl, by omega, rfl, rfl, rfl, rfl, rfl, by simp, by simp⟩
end Go.Proofs.YtafaoldmemcigaaGreat.Ab
