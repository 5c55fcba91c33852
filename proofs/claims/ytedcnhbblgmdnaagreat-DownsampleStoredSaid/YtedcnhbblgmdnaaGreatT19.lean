/- A part of the proof: an evaluator of the code, its contracts, the law. No condition. -/
import Derived.Test.YtedcnhbblgmdnaaGreatT17
namespace Go.Proofs.YtedcnhbblgmdnaaGreat.Ab
set_option maxHeartbeats 4000000
set_option maxRecDepth 10000
set_option linter.unusedSimpArgs false
set_option linter.unusedVariables false
/-- 47: pack, in its caller's state -/
theorem call98 {s : St} {L : List (Nat × D × Nat × List Pd)} {M : List (Nat × Ob)} {x : D} {l : List Bkt} {cols : List (Col Bkt)} {K : D → St → Prop} (h : OA s.nx s L M) (hl : l.length < 2^40) (hxc : ∃ c, x = .v (.c c))
    (hlx : lenD E0 29 x = some (.v (.c (.p (.int .i64 (l.length : Int)))))) (hix : ∀ j : Nat, j < l.length → indexAddrD E0 29 x (.v (.c (.p (.int .i64 (j : Int))))) = some (.v (.c (.rp (l.flatMap Bkt.pd) (j * 10)))))
    (hcol : ∀ c ∈ cols, (∀ a : Bkt, Pf E0 c.g [.agg ((Bkt.pd a).map .p)] (P' (pI (c.get a)))) ∧ E0.xt c.g = none ∧ E0.opn c.g = false) (hcl : cols.length < 2^20)
    (hK0 : packE l cols = none → ∀ s', OA s'.nx s' L M → s.nx ≤ s'.nx → K (.tup [.c .nils, .c (.p (.bool false))]) s')
    (hK1 : ∀ ss, packE l cols = some ss → ∀ x' s', OA s'.nx s' ((1, .v (.c x'), ss.length, ss.map .str) :: L) M → s.nx ≤ s'.nx → K (.tup [.c x', .c (.p (.bool true))]) s') :
    wpCall E0 (.v (.c (.p (.fnc 98)))) [x, .v (.c (.p (.lst cols.length (cols.flatMap Col.pd))))] s K := by
  obtain ⟨cx, rfl⟩ := hxc
  refine wpCall.opn (fn := Tryz.f98) (by kernel_rfl) (by kernel_rfl) rfl (by kernel_rfl) rfl ?_; simp only [List.map_cons, List.map_nil, List.cons_append, List.nil_append, List.length_cons, List.length_nil, Tryz.ntmps98, List.replicate, Nat.reduceSub, Nat.reduceAdd]
  refine Wc.seq ?_
  refine Wc.reg fun K hK => ?_; simp only [go_sem, ti3, ti9, ti175, ti4, ti32, ti208, ti155, ti29, ti158, ti212, ti41, ti209]; refine hK _ _ ?_; clear hK K
  refine Wc.seq ?_
  refine Wc.reg fun K hK => ?_; simp only [go_sem, ti3, ti9, ti175, ti4, ti32, ti208, ti155, ti29, ti158, ti212, ti41, ti209]; refine hK _ _ ?_; clear hK K
  refine Wc.seq (Wc.seq ?_)
  refine Wc.reg fun K hK => ?_; simp only [go_sem, ti3, ti9, ti175, ti4, ti32, ti208, ti155, ti29, ti158, ti212, ti41, ti209, Int.natCast_zero]; refine hK _ _ ?_; clear hK K
  refine Wc.block (Wc.loop (fun k y => ∃ (i : Nat) (ss : List (List UInt8)) (c6 : C), k = cols.length - i ∧ i ≤ cols.length ∧ y.ds = [] ∧ y.e.length = 53 ∧ y.e.getD 0 .junk = .v (.c cx) ∧ y.e.getD 14 .junk = P' (.lst cols.length (cols.flatMap Col.pd)) ∧ y.e.getD 15 .junk = P' (pI cols.length) ∧ y.e.getD 16 .junk = P' (pI i) ∧ y.e.getD 6 .junk = .v (.c c6) ∧
    OA y.s.nx y.s ((1, .v (.c c6), ss.length, ss.map .str) :: L) M ∧ s.nx ≤ y.s.nx ∧ ss.length = i ∧ packE l cols = (packE l (cols.drop i)).map (ss ++ ·)) ?_ (k := cols.length) ?_)
  · rintro k ⟨e, ds, s1⟩ ⟨i, ss, c6, rfl, hi, rfl, hlen, h0, h14, h15, h16, h6, ho, hnx, hsl, hp⟩
    simp only at hlen h0 h14 h15 h16 h6 ho hnx
    refine Wc.seq ?_
    refine Wc.reg fun K hK => ?_; simp only [go_sem, ti3, ti9, ti175, ti4, ti32, ti208, ti155, ti29, ti158, ti212, ti41, ti209, hlen, h0, h14, h15, h16, h6]; refine hK _ _ ?_; clear hK K
    refine Wc.seq (Wc.cond (t := decide ((i : Int) < cols.length)) (by simp only [go_sem, ti3, ti9, ti175, ti4, ti32, ti208, ti155, ti29, ti158, ti212, ti41, ti209, hlen]) (fun hc => ?_) (fun hc => ?_))
    · have hil : i < cols.length := by have : (i : Int) < cols.length := by simpa using hc
                                       omega
      obtain ⟨c, hc1⟩ : ∃ c, cols[i]? = some c := ⟨cols[i], List.getElem?_eq_getElem hil⟩
      have hcm := List.mem_of_getElem? hc1
      obtain ⟨hpf, hxt, hopn⟩ := hcol c hcm
      have hic := ixA ti158 rfl ti212 (j := i) (m := cols.length) (cs := cols.flatMap Col.pd) hil (by rw [flat_len (k := 3) (fun _ => rfl)]) (by decide)
      have hca := rpA (off := i * 3) (drop_flat (f := Col.pd) (k := 3) (fun _ => rfl) hc1) (by rw [flat_len (k := 3) (fun _ => rfl)]; omega)
      have hpd : packE l (cols.drop i) = if (encF c.f (l.map c.get)).2 = 0 then (match packE l (cols.drop (i + 1)) with
          | some ss => some ((encF c.f (l.map c.get)).1 :: ss)
          | none => none) else none := by
        have := (List.getElem?_eq_some_iff.1 hc1).2
        rw [List.drop_eq_getElem_cons hil, this]; rfl
      refine Wc.skip (Wc.seq (Wc.block ?_))
      refine Wc.seqA (fun y => ∃ k8, y.ds = [] ∧ y.e.length = 53 ∧ y.e.getD 0 .junk = .v (.c cx) ∧ y.e.getD 14 .junk = P' (.lst cols.length (cols.flatMap Col.pd)) ∧ y.e.getD 15 .junk = P' (pI cols.length) ∧ y.e.getD 16 .junk = P' (pI i) ∧ y.e.getD 6 .junk = .v (.c c6) ∧ y.e.getD 8 .junk = .v (.c (.ref k8 0)) ∧
        OA y.s.nx y.s ((1, .v (.c c6), ss.length, ss.map .str) :: L) ((k8, .cells [.p (pI c.f), .p (.fnc c.g), .p (.fnc c.w)] false) :: M) ∧ s.nx ≤ y.s.nx) ?_ ?_
      · refine Wc.reg fun K hK => ?_; simp only [go_sem, ti3, ti9, ti175, ti4, ti32, ti208, ti155, ti29, ti158, ti212, ti41, ti209, hlen, h0, h14, h15, h16, h6, hic, hca]; refine hK _ _ ?_; clear hK K
        refine ⟨rfl, s1.nx + 3, rfl, by simp only [go_sem, ti3, ti9, ti175, ti4, ti32, ti208, ti155, ti29, ti158, ti212, ti41, ti209, hlen], by simp only [go_sem, ti3, ti9, ti175, ti4, ti32, ti208, ti155, ti29, ti158, ti212, ti41, ti209, hlen, h0], by simp only [go_sem, ti3, ti9, ti175, ti4, ti32, ti208, ti155, ti29, ti158, ti212, ti41, ti209, hlen, h14], by simp only [go_sem, ti3, ti9, ti175, ti4, ti32, ti208, ti155, ti29, ti158, ti212, ti41, ti209, hlen, h15], by simp only [go_sem, ti3, ti9, ti175, ti4, ti32, ti208, ti155, ti29, ti158, ti212, ti41, ti209, hlen, h16], by simp only [go_sem, ti3, ti9, ti175, ti4, ti32, ti208, ti155, ti29, ti158, ti212, ti41, ti209, hlen, h6], by simp only [go_sem, ti3, ti9, ti175, ti4, ti32, ti208, ti155, ti29, ti158, ti212, ti41, ti209, hlen], ?_, ?_⟩
        · have h2 := OA.set (M1 := []) (o' := .cells [.p (pI c.f), .p (.fnc c.g), .p (.fnc c.w)] false) ((ho.adv (n := 1)).adv (n := 4) |>.new (k := s1.nx + 3) (o := .cells [.p (.int .i64 0), .p .nilf, .p .nilf] false) (by omega) rfl) rfl
          simp only [St.put_put] at h2; exact h2.mono (by simp only [St.nx_put, St.nx_adv]; omega)
        · simp only [St.nx_put, St.nx_adv]; omega
      · clear hlen h0 h14 h15 h16 h6 ho hnx e s1
        rintro ⟨e, ds, s1⟩ ⟨k8, rfl, hlen, h0, h14, h15, h16, h6, h8, ho, hnx⟩
        simp only at hlen h0 h14 h15 h16 h6 h8 ho hnx
        refine Wc.seqA (fun y => ∃ c9, y.ds = [] ∧ y.e.length = 53 ∧ y.e.getD 0 .junk = .v (.c cx) ∧ y.e.getD 14 .junk = P' (.lst cols.length (cols.flatMap Col.pd)) ∧ y.e.getD 15 .junk = P' (pI cols.length) ∧ y.e.getD 16 .junk = P' (pI i) ∧ y.e.getD 6 .junk = .v (.c c6) ∧ y.e.getD 8 .junk = .v (.c (.ref k8 0)) ∧ y.e.getD 9 .junk = .v (.c c9) ∧ NumS l c.get 0 ((1, .v (.c c6), ss.length, ss.map .str) :: L) ((k8, .cells [.p (pI c.f), .p (.fnc c.g), .p (.fnc c.w)] false) :: M) c9 y.s ∧ s.nx ≤ y.s.nx) ?_ ?_
        · by_cases hl0 : l.length = 0
          · have hl1 : l = [] := List.length_eq_zero_iff.1 hl0
            subst hl1
            have hsz : (((8 : Nat) : Int) * 0 ≤ 140737488355328) = True := by simp
            simp only [List.length_nil, Int.natCast_zero] at hlx
            refine Wc.reg fun K hK => ?_; simp only [go_sem, ti3, ti9, ti175, ti4, ti32, ti208, ti155, ti29, ti158, ti212, ti41, ti209, hlen, h0, h14, h15, h16, h6, h8, hlx, hsz]; refine hK _ _ ?_; clear hK K
            refine ⟨rfl, .own 0 [] (s1.nx + 2), rfl, by simp only [go_sem, ti3, ti9, ti175, ti4, ti32, ti208, ti155, ti29, ti158, ti212, ti41, ti209, hlen], by simp only [go_sem, ti3, ti9, ti175, ti4, ti32, ti208, ti155, ti29, ti158, ti212, ti41, ti209, hlen, h0], by simp only [go_sem, ti3, ti9, ti175, ti4, ti32, ti208, ti155, ti29, ti158, ti212, ti41, ti209, hlen, h14], by simp only [go_sem, ti3, ti9, ti175, ti4, ti32, ti208, ti155, ti29, ti158, ti212, ti41, ti209, hlen, h15], by simp only [go_sem, ti3, ti9, ti175, ti4, ti32, ti208, ti155, ti29, ti158, ti212, ti41, ti209, hlen, h16], by simp only [go_sem, ti3, ti9, ti175, ti4, ti32, ti208, ti155, ti29, ti158, ti212, ti41, ti209, hlen, h6], by simp only [go_sem, ti3, ti9, ti175, ti4, ti32, ti208, ti155, ti29, ti158, ti212, ti41, ti209, hlen, h8], by simp only [go_sem, ti3, ti9, ti175, ti4, ti32, ti208, ti155, ti29, ti158, ti212, ti41, ti209, hlen], .inl ⟨rfl, ⟨_, rfl⟩, ?_⟩, ?_⟩
            · exact (OA.put (ho.adv (n := 4)) (k := s1.nx + 2) (by omega)).mono (by simp only [St.nx_put, St.nx_adv]; omega)
            · simp only [St.nx_put, St.nx_adv]; omega
          · have hsz : (((8 : Nat) : Int) * (l.length : Int) ≤ 140737488355328) = True := by simp; omega
            have hmx : ((l.length : Int) ≤ 9223372036854775807) = True := by simp only [eq_iff_iff, iff_true]; omega
            have hne : ((l.length : Int) = 0) = False := by simp only [eq_iff_iff, iff_false]; omega
            refine Wc.reg fun K hK => ?_; simp only [go_sem, ti3, ti9, ti175, ti4, ti32, ti208, ti155, ti29, ti158, ti212, ti41, ti209, hlen, h0, h14, h15, h16, h6, h8, hlx, hsz, hmx, hne, Int.le_refl]; refine hK _ _ ?_; clear hK K
            refine ⟨rfl, .mt (s1.nx + 2) 0 l.length 1, rfl, by simp only [go_sem, ti3, ti9, ti175, ti4, ti32, ti208, ti155, ti29, ti158, ti212, ti41, ti209, hlen], by simp only [go_sem, ti3, ti9, ti175, ti4, ti32, ti208, ti155, ti29, ti158, ti212, ti41, ti209, hlen, h0], by simp only [go_sem, ti3, ti9, ti175, ti4, ti32, ti208, ti155, ti29, ti158, ti212, ti41, ti209, hlen, h14], by simp only [go_sem, ti3, ti9, ti175, ti4, ti32, ti208, ti155, ti29, ti158, ti212, ti41, ti209, hlen, h15], by simp only [go_sem, ti3, ti9, ti175, ti4, ti32, ti208, ti155, ti29, ti158, ti212, ti41, ti209, hlen, h16], by simp only [go_sem, ti3, ti9, ti175, ti4, ti32, ti208, ti155, ti29, ti158, ti212, ti41, ti209, hlen, h6], by simp only [go_sem, ti3, ti9, ti175, ti4, ti32, ti208, ti155, ti29, ti158, ti212, ti41, ti209, hlen, h8], by simp only [go_sem, ti3, ti9, ti175, ti4, ti32, ti208, ti155, ti29, ti158, ti212, ti41, ti209, hlen], .inr ⟨_, rfl, ?_⟩, ?_⟩
            · rw [fillZ_0]
              exact (OA.new (ho.adv (n := 4)) (k := s1.nx + 2) (by omega) rfl).mono (by simp only [St.nx_put, St.nx_adv]; omega)
            · simp only [St.nx_put, St.nx_adv]; omega
        · clear hlen h0 h14 h15 h16 h6 h8 ho hnx e s1
          rintro ⟨e, ds, s1⟩ ⟨c9, rfl, hlen, h0, h14, h15, h16, h6, h8, h9, hN, hnx⟩
          simp only at hlen h0 h14 h15 h16 h6 h8 h9 hN hnx
          refine Wc.seqA (fun y => y.ds = [] ∧ y.e.length = 53 ∧ y.e.getD 0 .junk = .v (.c cx) ∧ y.e.getD 14 .junk = P' (.lst cols.length (cols.flatMap Col.pd)) ∧ y.e.getD 15 .junk = P' (pI cols.length) ∧ y.e.getD 16 .junk = P' (pI i) ∧ y.e.getD 6 .junk = .v (.c c6) ∧ y.e.getD 8 .junk = .v (.c (.ref k8 0)) ∧ y.e.getD 9 .junk = .v (.c c9) ∧ NumS l c.get l.length ((1, .v (.c c6), ss.length, ss.map .str) :: L) ((k8, .cells [.p (pI c.f), .p (.fnc c.g), .p (.fnc c.w)] false) :: M) c9 y.s ∧ s.nx ≤ y.s.nx) ?_ ?_
          · refine Wc.seq ?_
            refine Wc.reg fun K hK => ?_; simp only [go_sem, ti3, ti9, ti175, ti4, ti32, ti208, ti155, ti29, ti158, ti212, ti41, ti209, hlen, h0, h14, h15, h16, h6, h8, h9, hlx, Int.natCast_zero]; refine hK _ _ ?_; clear hK K
            refine Wc.block (Wc.loop (fun q y => ∃ j : Nat, q = l.length - j ∧ j ≤ l.length ∧ y.ds = [] ∧ y.e.length = 53 ∧ y.e.getD 0 .junk = .v (.c cx) ∧ y.e.getD 14 .junk = P' (.lst cols.length (cols.flatMap Col.pd)) ∧ y.e.getD 15 .junk = P' (pI cols.length) ∧ y.e.getD 16 .junk = P' (pI i) ∧ y.e.getD 6 .junk = .v (.c c6) ∧ y.e.getD 8 .junk = .v (.c (.ref k8 0)) ∧ y.e.getD 9 .junk = .v (.c c9) ∧ y.e.getD 23 .junk = .v (.c cx) ∧ y.e.getD 24 .junk = P' (pI l.length) ∧ y.e.getD 25 .junk = P' (pI j) ∧ NumS l c.get j ((1, .v (.c c6), ss.length, ss.map .str) :: L) ((k8, .cells [.p (pI c.f), .p (.fnc c.g), .p (.fnc c.w)] false) :: M) c9 y.s ∧ s.nx ≤ y.s.nx) ?_ (k := l.length) ?_)
            · clear hlen h0 h14 h15 h16 h6 h8 h9 hN hnx e s1
              rintro q ⟨e, ds, s1⟩ ⟨j, rfl, hj, rfl, hlen, h0, h14, h15, h16, h6, h8, h9, h23, h24, h25, hN, hnx⟩
              simp only at hlen h0 h14 h15 h16 h6 h8 h9 h23 h24 h25 hN hnx
              refine Wc.seq ?_
              refine Wc.reg fun K hK => ?_; simp only [go_sem, ti3, ti9, ti175, ti4, ti32, ti208, ti155, ti29, ti158, ti212, ti41, ti209, hlen, h0, h14, h15, h16, h6, h8, h9, h23, h24, h25]; refine hK _ _ ?_; clear hK K
              refine Wc.seq (Wc.cond (t := decide ((j : Int) < l.length)) (by simp only [go_sem, ti3, ti9, ti175, ti4, ti32, ti208, ti155, ti29, ti158, ti212, ti41, ti209, hlen]) (fun hc => ?_) (fun hc => ?_))
              · have hjl : j < l.length := by have : (j : Int) < l.length := by simpa using hc
                                              omega
                obtain ⟨a, ha⟩ : ∃ a, l[j]? = some a := ⟨l[j], List.getElem?_eq_getElem hjl⟩
                have hia := hix j hjl
                have hcb := rpA (off := j * 10) (drop_flat (f := Bkt.pd) (k := 10) (fun _ => rfl) ha) (by rw [flat_len (k := 10) (fun _ => rfl)]; omega)
                obtain ⟨k9, rfl, ho⟩ : ∃ k9, c9 = .mt k9 0 l.length 1 ∧ OA s1.nx s1 ((1, .v (.c c6), ss.length, ss.map .str) :: L) ((k9, .cells (fillZ l c.get j) false) :: (k8, .cells [.p (pI c.f), .p (.fnc c.g), .p (.fnc c.w)] false) :: M) := by
                  rcases hN with ⟨h1, _⟩ | h1
                  · subst h1; simp at hjl
                  · exact h1
                refine Wc.skip (Wc.seq (Wc.block (Wc.seqA (fun y => ∃ kx, y.ds = [] ∧ y.e.length = 53 ∧ y.e.getD 0 .junk = .v (.c cx) ∧ y.e.getD 14 .junk = P' (.lst cols.length (cols.flatMap Col.pd)) ∧ y.e.getD 15 .junk = P' (pI cols.length) ∧ y.e.getD 16 .junk = P' (pI i) ∧ y.e.getD 6 .junk = .v (.c c6) ∧ y.e.getD 8 .junk = .v (.c (.ref k8 0)) ∧ y.e.getD 9 .junk = .v (.c (.mt k9 0 l.length 1)) ∧ y.e.getD 23 .junk = .v (.c cx) ∧ y.e.getD 24 .junk = P' (pI l.length) ∧ y.e.getD 25 .junk = P' (pI j) ∧ y.e.getD 10 .junk = P' (pI j) ∧ y.e.getD 11 .junk = .v (.c (.ref kx 0)) ∧
                    OA y.s.nx y.s ((1, .v (.c c6), ss.length, ss.map .str) :: L) ((kx, .cells ((Bkt.pd a).map .p) false) :: (k9, .cells (fillZ l c.get j) false) :: (k8, .cells [.p (pI c.f), .p (.fnc c.g), .p (.fnc c.w)] false) :: M) ∧ s.nx ≤ y.s.nx) ?_ ?_)))
                · refine Wc.reg fun K hK => ?_; simp only [go_sem, ti3, ti9, ti175, ti4, ti32, ti208, ti155, ti29, ti158, ti212, ti41, ti209, hlen, h0, h14, h15, h16, h6, h8, h9, h23, h24, h25, hia, hcb]; refine hK _ _ ?_; clear hK K
                  refine ⟨rfl, s1.nx + 4, rfl, by simp only [go_sem, ti3, ti9, ti175, ti4, ti32, ti208, ti155, ti29, ti158, ti212, ti41, ti209, hlen], by simp only [go_sem, ti3, ti9, ti175, ti4, ti32, ti208, ti155, ti29, ti158, ti212, ti41, ti209, hlen, h0], by simp only [go_sem, ti3, ti9, ti175, ti4, ti32, ti208, ti155, ti29, ti158, ti212, ti41, ti209, hlen, h14], by simp only [go_sem, ti3, ti9, ti175, ti4, ti32, ti208, ti155, ti29, ti158, ti212, ti41, ti209, hlen, h15], by simp only [go_sem, ti3, ti9, ti175, ti4, ti32, ti208, ti155, ti29, ti158, ti212, ti41, ti209, hlen, h16], by simp only [go_sem, ti3, ti9, ti175, ti4, ti32, ti208, ti155, ti29, ti158, ti212, ti41, ti209, hlen, h6], by simp only [go_sem, ti3, ti9, ti175, ti4, ti32, ti208, ti155, ti29, ti158, ti212, ti41, ti209, hlen, h8], by simp only [go_sem, ti3, ti9, ti175, ti4, ti32, ti208, ti155, ti29, ti158, ti212, ti41, ti209, hlen, h9], by simp only [go_sem, ti3, ti9, ti175, ti4, ti32, ti208, ti155, ti29, ti158, ti212, ti41, ti209, hlen, h23], by simp only [go_sem, ti3, ti9, ti175, ti4, ti32, ti208, ti155, ti29, ti158, ti212, ti41, ti209, hlen, h24], by simp only [go_sem, ti3, ti9, ti175, ti4, ti32, ti208, ti155, ti29, ti158, ti212, ti41, ti209, hlen, h25], by simp only [go_sem, ti3, ti9, ti175, ti4, ti32, ti208, ti155, ti29, ti158, ti212, ti41, ti209, hlen], by simp only [go_sem, ti3, ti9, ti175, ti4, ti32, ti208, ti155, ti29, ti158, ti212, ti41, ti209, hlen], ?_, ?_⟩
                  · have h2 := OA.set (M1 := []) (o' := .cells ((Bkt.pd a).map .p) false) ((ho.adv (n := 1)).adv (n := 6) |>.new (k := s1.nx + 4) (o := .cells [.p (.int .i64 0), .p (.int .i64 0), .p (.int .i64 0), .p (.int .i64 0), .p (.int .i64 0), .p (.int .i64 0), .p (.int .i64 0), .p (.int .i64 0), .p (.int .i64 0), .p (.int .i64 0)] false) (by omega) rfl) rfl
                    simp only [St.put_put] at h2; exact h2.mono (by simp only [St.nx_put, St.nx_adv]; omega)
                  · simp only [St.nx_put, St.nx_adv]; omega
                · clear hlen h0 h14 h15 h16 h6 h8 h9 h23 h24 h25 ho hN hnx e s1
                  rintro ⟨e, ds, s1⟩ ⟨kx, rfl, hlen, h0, h14, h15, h16, h6, h8, h9, h23, h24, h25, h10, h11, ho, hnx⟩
                  simp only at hlen h0 h14 h15 h16 h6 h8 h9 h23 h24 h25 h10 h11 ho hnx
                  have gx := ho.at_ (kx, .cells ((Bkt.pd a).map .p) false) (by simp)
                  have g9 := ho.at_ (k9, .cells (fillZ l c.get j) false) (by simp)
                  have g8 := ho.at_ (k8, .cells [.p (pI c.f), .p (.fnc c.g), .p (.fnc c.w)] false) (by simp)
                  have hfl := fillZ_len l c.get hj
                  have hi9 := ixM ti175 rfl ti3 (r := k9) (off := 0) (j := j) (m := l.length) (es := 1) hjl rfl
                  have hj1 : (j + 1 ≤ l.length) = True := by simp; omega
                  have hj2 : ((j : Int) < (l.length : Int)) = True := by simp; omega
                  simp only at gx g9 g8
                  simp only [List.map_cons, List.map_nil] at gx
                  refine Wc.reg fun K hK => ?_; simp only [go_sem, ti3, ti9, ti175, ti4, ti32, ti208, ti155, ti29, ti158, ti212, ti41, ti209, hlen, h0, h14, h15, h16, h6, h8, h9, h23, h24, h25, h10, h11, gx, g9, g8, hi9, hfl, hj1, hj2]
                  refine wpCall.pf (hpf a) hxt hopn rfl rfl ?_
                  simp only [go_sem, ti3, ti9, ti175, ti4, ti32, ti208, ti155, ti29, ti158, ti212, ti41, ti209, hlen, h0, h14, h15, h16, h6, h8, h9, h23, h24, h25, h10, h11, gx, g9, g8, hi9, hfl, hj1, hj2]; refine hK _ _ ?_; clear hK K
                  refine Wc.reg fun K hK => ?_; simp only [go_sem, ti3, ti9, ti175, ti4, ti32, ti208, ti155, ti29, ti158, ti212, ti41, ti209, hlen, h0, h14, h15, h16, h6, h8, h9, h23, h24, h25, h10, h11, i64n j (by omega)]; refine hK _ _ ?_; clear hK K
                  refine ⟨l.length - (j + 1), by omega, j + 1, rfl, by omega, rfl, by simp only [go_sem, ti3, ti9, ti175, ti4, ti32, ti208, ti155, ti29, ti158, ti212, ti41, ti209, hlen], by simp only [go_sem, ti3, ti9, ti175, ti4, ti32, ti208, ti155, ti29, ti158, ti212, ti41, ti209, hlen, h0], by simp only [go_sem, ti3, ti9, ti175, ti4, ti32, ti208, ti155, ti29, ti158, ti212, ti41, ti209, hlen, h14], by simp only [go_sem, ti3, ti9, ti175, ti4, ti32, ti208, ti155, ti29, ti158, ti212, ti41, ti209, hlen, h15], by simp only [go_sem, ti3, ti9, ti175, ti4, ti32, ti208, ti155, ti29, ti158, ti212, ti41, ti209, hlen, h16], by simp only [go_sem, ti3, ti9, ti175, ti4, ti32, ti208, ti155, ti29, ti158, ti212, ti41, ti209, hlen, h6], by simp only [go_sem, ti3, ti9, ti175, ti4, ti32, ti208, ti155, ti29, ti158, ti212, ti41, ti209, hlen, h8], by simp only [go_sem, ti3, ti9, ti175, ti4, ti32, ti208, ti155, ti29, ti158, ti212, ti41, ti209, hlen, h9], by simp only [go_sem, ti3, ti9, ti175, ti4, ti32, ti208, ti155, ti29, ti158, ti212, ti41, ti209, hlen, h23], by simp only [go_sem, ti3, ti9, ti175, ti4, ti32, ti208, ti155, ti29, ti158, ti212, ti41, ti209, hlen, h24], by simp only [go_sem, ti3, ti9, ti175, ti4, ti32, ti208, ti155, ti29, ti158, ti212, ti41, ti209, hlen], ?_, ?_⟩
                  · have h2 := OA.set (M1 := [(kx, .cells ((Bkt.pd a).map .p) false)]) (o' := .cells ((fillZ l c.get j).take j ++ [.p (pI (c.get a))] ++ (fillZ l c.get j).drop (j + 1)) false) (ho.adv (n := 8)) rfl
                    have h3 := OA.sub (M := (kx, .cells ((Bkt.pd a).map .p) false) :: _) h2 (List.Sublist.refl _) (List.sublist_cons_self _ _)
                    rw [fillZ_set ha] at h3
                    have h4 : NumS l c.get (j + 1) ((1, .v (.c c6), ss.length, ss.map .str) :: L) ((k8, .cells [.p (pI c.f), .p (.fnc c.g), .p (.fnc c.w)] false) :: M) (.mt k9 0 l.length 1) ((s1.adv 8).put k9 (.cells (fillZ l c.get (j + 1)) false)) := .inr ⟨k9, rfl, h3.mono (by simp only [St.nx_put, St.nx_adv]; omega)⟩
                    have h5 := h4.adv (n := 2)
                    rw [← fillZ_set ha] at h5
                    exact h5
                  · simp only [St.nx_put, St.nx_adv]; omega
              · have hjl : j = l.length := by have : ¬ (j : Int) < l.length := by simpa using hc
                                              omega
                subst hjl
                exact Wc.exit ⟨rfl, rfl, by simp only [go_sem, ti3, ti9, ti175, ti4, ti32, ti208, ti155, ti29, ti158, ti212, ti41, ti209, hlen], by simp only [go_sem, ti3, ti9, ti175, ti4, ti32, ti208, ti155, ti29, ti158, ti212, ti41, ti209, hlen, h0], by simp only [go_sem, ti3, ti9, ti175, ti4, ti32, ti208, ti155, ti29, ti158, ti212, ti41, ti209, hlen, h14], by simp only [go_sem, ti3, ti9, ti175, ti4, ti32, ti208, ti155, ti29, ti158, ti212, ti41, ti209, hlen, h15], by simp only [go_sem, ti3, ti9, ti175, ti4, ti32, ti208, ti155, ti29, ti158, ti212, ti41, ti209, hlen, h16], by simp only [go_sem, ti3, ti9, ti175, ti4, ti32, ti208, ti155, ti29, ti158, ti212, ti41, ti209, hlen, h6], by simp only [go_sem, ti3, ti9, ti175, ti4, ti32, ti208, ti155, ti29, ti158, ti212, ti41, ti209, hlen, h8], by simp only [go_sem, ti3, ti9, ti175, ti4, ti32, ti208, ti155, ti29, ti158, ti212, ti41, ti209, hlen, h9], hN.adv, by simp only [St.nx_adv]; omega⟩
            · exact ⟨0, rfl, by omega, rfl, by simp only [go_sem, ti3, ti9, ti175, ti4, ti32, ti208, ti155, ti29, ti158, ti212, ti41, ti209, hlen], by simp only [go_sem, ti3, ti9, ti175, ti4, ti32, ti208, ti155, ti29, ti158, ti212, ti41, ti209, hlen, h0], by simp only [go_sem, ti3, ti9, ti175, ti4, ti32, ti208, ti155, ti29, ti158, ti212, ti41, ti209, hlen, h14], by simp only [go_sem, ti3, ti9, ti175, ti4, ti32, ti208, ti155, ti29, ti158, ti212, ti41, ti209, hlen, h15], by simp only [go_sem, ti3, ti9, ti175, ti4, ti32, ti208, ti155, ti29, ti158, ti212, ti41, ti209, hlen, h16], by simp only [go_sem, ti3, ti9, ti175, ti4, ti32, ti208, ti155, ti29, ti158, ti212, ti41, ti209, hlen, h6], by simp only [go_sem, ti3, ti9, ti175, ti4, ti32, ti208, ti155, ti29, ti158, ti212, ti41, ti209, hlen, h8], by simp only [go_sem, ti3, ti9, ti175, ti4, ti32, ti208, ti155, ti29, ti158, ti212, ti41, ti209, hlen, h9], by simp only [go_sem, ti3, ti9, ti175, ti4, ti32, ti208, ti155, ti29, ti158, ti212, ti41, ti209, hlen, h0], by simp only [go_sem, ti3, ti9, ti175, ti4, ti32, ti208, ti155, ti29, ti158, ti212, ti41, ti209, hlen, h0, hlx], by simp only [go_sem, ti3, ti9, ti175, ti4, ti32, ti208, ti155, ti29, ti158, ti212, ti41, ti209, hlen]; rfl, hN.adv, by simp only [St.nx_adv]; omega⟩
          · clear hlen h0 h14 h15 h16 h6 h8 h9 hN hnx e s1
            rintro ⟨e, ds, s1⟩ ⟨rfl, hlen, h0, h14, h15, h16, h6, h8, h9, hN, hnx⟩
            simp only at hlen h0 h14 h15 h16 h6 h8 h9 hN hnx
            have g8 : s1.get k8 = some (.cells [.p (pI c.f), .p (.fnc c.g), .p (.fnc c.w)] false) := by
              rcases hN with ⟨_, _, h3⟩ | ⟨k9, _, h3⟩
              · exact h3.at_ (k8, _) (by simp)
              · exact h3.at_ (k8, _) (by simp)
            obtain ⟨s2, hp1, ho2, hn2⟩ := (hN.adv (n := 9)).pur
            have hp2 : purVs (s1.adv 9) [.c (.p (pI c.f)), .c c9] = some ([.c (.p (pI c.f)), .c (.p (.lst (l.map c.get).length ((l.map c.get).map pI)))], s2) := purVs_pc hp1
            refine Wc.seq ?_
            refine Wc.reg fun K hK => ?_; simp only [go_sem, ti3, ti9, ti175, ti4, ti32, ti208, ti155, ti29, ti158, ti212, ti41, ti209, hlen, h0, h14, h15, h16, h6, h8, h9, g8]
            refine wpCall.pf (pf156 c.f (l.map c.get) (by simpa using hl)) (by kernel_rfl) (by kernel_rfl) rfl hp2 ?_
            simp only [go_sem, ti3, ti9, ti175, ti4, ti32, ti208, ti155, ti29, ti158, ti212, ti41, ti209, hlen, h0, h14, h15, h16, h6, h8, h9, g8]; refine hK _ _ ?_; clear hK K
            refine Wc.seq (Wc.seq ?_)
            refine Wc.reg fun K hK => ?_; simp only [go_sem, ti3, ti9, ti175, ti4, ti32, ti208, ti155, ti29, ti158, ti212, ti41, ti209, hlen, h0, h14, h15, h16, h6, h8, h9]; refine hK _ _ ?_; clear hK K
            refine Wc.cond (t := ((encF c.f (l.map c.get)).2 != 0)) (by simp only [go_sem, ti3, ti9, ti175, ti4, ti32, ti208, ti155, ti29, ti158, ti212, ti41, ti209, hlen]) (fun hc => ?_) (fun hc => ?_)
            · have hne : ¬ (encF c.f (l.map c.get)).2 = 0 := by simpa using hc
              rw [hpd, if_neg hne] at hp
              refine Wc.seq ?_
              refine Wc.reg fun K hK => ?_; simp only [go_sem, ti3, ti9, ti175, ti4, ti32, ti208, ti155, ti29, ti158, ti212, ti41, ti209, hlen]; refine hK _ _ ?_; clear hK K
              refine Wc.ret (Op.ret [.tmp 4, .tmp 5] [.c .nils, .c (.p (.bool false))] rfl rfl (by simp only [resultsD, go_sem, ti3, ti9, ti175, ti4, ti32, ti208, ti155, ti29, ti158, ti212, ti41, ti209, hlen]) (hK0 hp _ ?_ ?_))
              · exact (OA.sub (L := (1, .v (.c c6), ss.length, ss.map .str) :: L) (M := _ :: M) (ho2.mono (by simp only [St.nx_adv]; omega)) (List.sublist_cons_self _ _) (List.sublist_cons_self _ _)).adv.adv
              · simp only [St.nx_adv, hn2]; omega
            · have he : (encF c.f (l.map c.get)).2 = 0 := by simpa using hc
              rw [hpd, if_pos he] at hp
              refine Wc.skip ?_
              refine Wc.reg fun K hK => ?_; simp only [go_sem, ti3, ti9, ti175, ti4, ti32, ti208, ti155, ti29, ti158, ti212, ti41, ti209, hlen, h0, h14, h15, h16, h6, h8, h9]
              have ho3 := OA.sub (M := _ :: M) (M1 := M) (ho2.adv (n := 2) |>.mono (b' := s2.nx) (Nat.le_refl _)) (List.Sublist.refl _) (List.sublist_cons_self _ _)
              refine OA.app (L1 := []) (L2 := L) (by_ := 16) (n := ss.length) (m := 1) (ys := [.str (encF c.f (l.map c.get)).1]) (OA.put (ho3.adv (n := 5)) (k := s2.nx + 4) (by omega)) (by omega) ⟨_, ti155, rfl⟩ ti9 rfl rfl rfl (by decide) (by decide) (by simp only [go_sem, ti3, ti9, ti175, ti4, ti32, ti208, ti155, ti29, ti158, ti212, ti41, ti209]) rfl (by omega) fun b' s' hb' hnx' => ?_
              obtain ⟨cb, rfl⟩ := (hb'.own (1, b', ss.length + 1, _) (List.mem_cons_self ..)).v
              simp only [go_sem, ti3, ti9, ti175, ti4, ti32, ti208, ti155, ti29, ti158, ti212, ti41, ti209, hlen, h0, h14, h15, h16, h6, h8, h9]; refine hK _ _ ?_; clear hK K
              refine Wc.reg fun K hK => ?_; simp only [go_sem, ti3, ti9, ti175, ti4, ti32, ti208, ti155, ti29, ti158, ti212, ti41, ti209, hlen, h0, h14, h15, h16, h6, h8, h9, i64n i (by omega)]; refine hK _ _ ?_; clear hK K
              refine ⟨cols.length - (i + 1), by omega, i + 1, ss ++ [(encF c.f (l.map c.get)).1], cb, rfl, by omega, rfl, by simp only [go_sem, ti3, ti9, ti175, ti4, ti32, ti208, ti155, ti29, ti158, ti212, ti41, ti209, hlen], by simp only [go_sem, ti3, ti9, ti175, ti4, ti32, ti208, ti155, ti29, ti158, ti212, ti41, ti209, hlen, h0], by simp only [go_sem, ti3, ti9, ti175, ti4, ti32, ti208, ti155, ti29, ti158, ti212, ti41, ti209, hlen, h14], by simp only [go_sem, ti3, ti9, ti175, ti4, ti32, ti208, ti155, ti29, ti158, ti212, ti41, ti209, hlen, h15], by simp only [go_sem, ti3, ti9, ti175, ti4, ti32, ti208, ti155, ti29, ti158, ti212, ti41, ti209, hlen], by simp only [go_sem, ti3, ti9, ti175, ti4, ti32, ti208, ti155, ti29, ti158, ti212, ti41, ti209, hlen], ?_, ?_, by simp [hsl], ?_⟩
              · have h6 := (hb'.mono (b' := s'.nx) (by rw [hnx']; simp only [St.nx_put, St.nx_adv]; omega)).adv (n := 2)
                simpa only [List.length_append, List.length_cons, List.length_nil, List.map_append, List.map_cons, List.map_nil, List.nil_append, St.nx_adv] using h6.mono (Nat.le_add_right _ 2)
              · simp only [St.nx_adv, hnx', St.nx_put, hn2]; omega
              · rw [hp]
                cases packE l (cols.drop (i + 1)) <;> simp
    · have hil : i = cols.length := by have : ¬ (i : Int) < cols.length := by simpa using hc
                                       omega
      subst hil
      rw [List.drop_length] at hp
      simp only [packE, Option.map_some, List.append_nil] at hp
      refine Wc.exit (Wc.seq ?_)
      refine Wc.reg fun K hK => ?_; simp only [go_sem, ti3, ti9, ti175, ti4, ti32, ti208, ti155, ti29, ti158, ti212, ti41, ti209, hlen, h0, h14, h15, h16, h6]; refine hK _ _ ?_; clear hK K
      refine Wc.ret (Op.ret [.tmp 4, .tmp 5] [.c c6, .c (.p (.bool true))] rfl rfl (by simp only [resultsD, go_sem, ti3, ti9, ti175, ti4, ti32, ti208, ti155, ti29, ti158, ti212, ti41, ti209, hlen]) (hK1 ss hp c6 _ ?_ ?_))
      · exact ((ho.adv (n := 1)).adv (n := 3)).mono (by simp only [St.nx_adv]; omega)
      · simp only [St.nx_adv]; omega
  · exact ⟨0, [], .nils, rfl, by omega, rfl, rfl, rfl, rfl, rfl, rfl, rfl, OA.mono (((h.adv (n := 2)).adv (n := 1)).adv (n := 3)).nil (by simp only [St.nx_adv]; omega), by simp only [St.nx_adv]; omega, rfl, by simp⟩
end Go.Proofs.YtedcnhbblgmdnaaGreat.Ab
