/- A part of the proof. -/
import Derived.Test.YtedcnhbblgmdnaaGreatT18
namespace Go.Proofs.YtedcnhbblgmdnaaGreat.Ab
set_option maxHeartbeats 4000000
set_option maxRecDepth 10000
set_option linter.unusedSimpArgs false
set_option linter.unusedVariables false
theorem call98 {s : St} {L : List (Nat × D × Nat × List Pd)} {M : List (Nat × Ob)} {x : D} {l : List Bkt} {cols : List (Col Bkt)} {K : D → St → Prop} (h : OA s.nx s L M) (hl : l.length < 2^40) (hxc : ∃ c, x = .v (.c c))
  (hlx : lenD E0 29 x = some (.v (.c (.p (.int .i64 (l.length : Int)))))) (hix : ∀ j : Nat, j < l.length → indexAddrD E0 29 x (.v (.c (.p (.int .i64 (j : Int))))) = some (.v (.c (.rp (l.flatMap Bkt.pd) (j * 10)))))
  (hcol : ∀ c ∈ cols, (∀ a : Bkt, Pf E0 c.g [.agg ((Bkt.pd a).map .p)] (P' (pI (c.get a)))) ∧ E0.xt c.g = none ∧ E0.opn c.g = false) (hcl : cols.length < 2^20)
  (hK0 : packE l cols = none → ∀ s', OA s'.nx s' L M → s.nx ≤ s'.nx → K (.tup [.c .nils, .c (.p (.bool false))]) s')
  (hK1 : ∀ ss, packE l cols = some ss → ∀ x' s', OA s'.nx s' ((1, .v (.c x'), ss.length, ss.map .str) :: L) M → s.nx ≤ s'.nx → K (.tup [.c x', .c (.p (.bool true))]) s') :
  wpCall E0 (.v (.c (.p (.fnc 98)))) [x, .v (.c (.p (.lst cols.length (cols.flatMap Col.pd))))] s K := by
 obtain ⟨cx, rfl⟩ := hxc
 refine wpCall.opn (fn := Tryz.f98) (by kernel_rfl) (by kernel_rfl) rfl (by kernel_rfl) rfl ?_; simp only [List.map_cons, List.map_nil, List.cons_append, List.nil_append, List.length_cons, List.length_nil, Tryz.ntmps98, List.replicate, Nat.reduceSub, Nat.reduceAdd]
 refine gS fun K F => ?_; simp only [go_sem]; apply F; clear F K
 refine gS fun K F => ?_; simp only [go_sem]; apply F; clear F K
 refine Wc.seq (Wc.seq ?_)
 refine gR fun K F => ?_; simp only [go_sem, nZ]; apply F; clear F K
 refine Wc.block (Wc.loop (fun k y => ∃ (i : Nat) (ss : List (List UInt8)) (c6 : C), k = cols.length - i ∧ i ≤ cols.length ∧ y.ds = [] ∧ y.e.length = 53 ∧ y.e.getD 0 .junk = .v (.c cx) ∧ y.e.getD 14 .junk = P' (.lst cols.length (cols.flatMap Col.pd)) ∧ y.e.getD 15 .junk = P' (pI cols.length) ∧ y.e.getD 16 .junk = P' (pI i) ∧ y.e.getD 6 .junk = .v (.c c6) ∧
  OA y.s.nx y.s ((1, .v (.c c6), ss.length, ss.map .str) :: L) M ∧ s.nx ≤ y.s.nx ∧ ss.length = i ∧ packE l cols = (packE l (cols.drop i)).map (ss ++ ·)) ?_ (k := cols.length) ?_)
 ·rintro k ⟨e, ds, s1⟩ ⟨i, ss, c6, rfl, hi, rfl, hlen, h0, h14, h15, h16, h6, ho, hnx, hsl, hp⟩
  simp only at hlen h0 h14 h15 h16 h6 ho hnx
  refine gS fun K F => ?_; simp only [go_sem, hlen, h0, h14, h15, h16, h6]; apply F; clear F K
  refine Wc.seq (Wc.cond (t := decide ((i : Int) < cols.length)) (by simp only [go_sem, hlen]) (fun hc => ?_) (fun hc => ?_))
  ·have hil : i < cols.length := by have : (i : Int) < cols.length := by simpa using hc
                                    omega
   obtain ⟨c, hc1⟩ : ∃ c, cols[i]? = some c := ⟨cols[i], List.getElem?_eq_getElem hil⟩
   have hcm := List.mem_of_getElem? hc1
   obtain ⟨hpf, hxt, hopn⟩ := hcol c hcm
   have hic := ixA ti158 rfl ti212 (j := i) (m := cols.length) (cs := cols.flatMap Col.pd) hil (by rw [flat_len (k := 3) (fun _ => rfl)]) (by decide)
   have hca := rpA (off := i * 3) (drop_flat (f := Col.pd) (k := 3) (fun _ => rfl) hc1) (by rw [flat_len (k := 3) (fun _ => rfl)]; omega)
   have hpd : packE l (cols.drop i) = if (encF c.f (l.map c.get)).2 = 0 then (match packE l (cols.drop (i + 1)) with
     | some ss => some ((encF c.f (l.map c.get)).1 :: ss)
     | none => none) else none := by
    have := (List.getElem?_eq_some_iff.1 hc1).2
    rw [List.drop_eq_getElem_cons hil, this]; rfl
   refine Wc.skip (Wc.seq (Wc.block ?_))
   refine Wc.seqA (fun y => ∃ k8, y.ds = [] ∧ y.e.length = 53 ∧ y.e.getD 0 .junk = .v (.c cx) ∧ y.e.getD 14 .junk = P' (.lst cols.length (cols.flatMap Col.pd)) ∧ y.e.getD 15 .junk = P' (pI cols.length) ∧ y.e.getD 16 .junk = P' (pI i) ∧ y.e.getD 6 .junk = .v (.c c6) ∧ y.e.getD 8 .junk = .v (.c (.ref k8 0)) ∧
    OA y.s.nx y.s ((1, .v (.c c6), ss.length, ss.map .str) :: L) ((k8, .cells [.p (pI c.f), .p (.fnc c.g), .p (.fnc c.w)] false) :: M) ∧ s.nx ≤ y.s.nx) ?_ ?_
   ·refine gR fun K F => ?_; simp only [go_sem, hlen, h0, h14, h15, h16, h6, hic, hca]; apply F; clear F K
    refine ⟨rfl, s1.nx + 3, rfl, by simp only [go_sem, hlen], by simp only [go_sem, hlen, h0], by simp only [go_sem, hlen, h14], by simp only [go_sem, hlen, h15], by simp only [go_sem, hlen, h16], by simp only [go_sem, hlen, h6], by simp only [go_sem, hlen], ?_, ?_⟩
    ·have h2 := OA.set (M1 := []) (o' := .cells [.p (pI c.f), .p (.fnc c.g), .p (.fnc c.w)] false) ((ho.adv (n := 1)).adv (n := 4) |>.new (k := s1.nx + 3) (o := .cells [.p (.int .i64 0), .p .nilf, .p .nilf] false) (by omega) rfl) rfl
     simp only [St.put_put] at h2; exact h2.mono (by simp only [St.nx_put, St.nx_adv]; omega)
    ·simp only [St.nx_put, St.nx_adv]; omega
   ·clear hlen h0 h14 h15 h16 h6 ho hnx e s1
    rintro ⟨e, ds, s1⟩ ⟨k8, rfl, hlen, h0, h14, h15, h16, h6, h8, ho, hnx⟩
    simp only at hlen h0 h14 h15 h16 h6 h8 ho hnx
    refine Wc.seqA (fun y => ∃ c9, y.ds = [] ∧ y.e.length = 53 ∧ y.e.getD 0 .junk = .v (.c cx) ∧ y.e.getD 14 .junk = P' (.lst cols.length (cols.flatMap Col.pd)) ∧ y.e.getD 15 .junk = P' (pI cols.length) ∧ y.e.getD 16 .junk = P' (pI i) ∧ y.e.getD 6 .junk = .v (.c c6) ∧ y.e.getD 8 .junk = .v (.c (.ref k8 0)) ∧ y.e.getD 9 .junk = .v (.c c9) ∧ NumS l c.get 0 ((1, .v (.c c6), ss.length, ss.map .str) :: L) ((k8, .cells [.p (pI c.f), .p (.fnc c.g), .p (.fnc c.w)] false) :: M) c9 y.s ∧ s.nx ≤ y.s.nx) ?_ ?_
    ·by_cases hl0 : l.length = 0
     ·have hl1 : l = [] := List.length_eq_zero_iff.1 hl0
      subst hl1
      have hsz : (((8 : Nat) : Int) * 0 ≤ 140737488355328) = True := by simp
      simp only [List.length_nil, nZ] at hlx
      refine gR fun K F => ?_; simp only [go_sem, hlen, h0, h14, h15, h16, h6, h8, hlx, hsz]; apply F; clear F K
      refine ⟨rfl, .own 0 [] (s1.nx + 2), rfl, by simp only [go_sem, hlen], by simp only [go_sem, hlen, h0], by simp only [go_sem, hlen, h14], by simp only [go_sem, hlen, h15], by simp only [go_sem, hlen, h16], by simp only [go_sem, hlen, h6], by simp only [go_sem, hlen, h8], by simp only [go_sem, hlen], .inl ⟨rfl, ⟨_, rfl⟩, ?_⟩, ?_⟩
      ·exact (OA.put (ho.adv (n := 4)) (k := s1.nx + 2) (by omega)).mono (by simp only [St.nx_put, St.nx_adv]; omega)
      ·simp only [St.nx_put, St.nx_adv]; omega
     ·have hsz : (((8 : Nat) : Int) * (l.length : Int) ≤ 140737488355328) = True := by simp; omega
      have hmx : ((l.length : Int) ≤ 9223372036854775807) = True := by simp only [eq_iff_iff, iff_true]; omega
      have hne : ((l.length : Int) = 0) = False := by simp only [eq_iff_iff, iff_false]; omega
      refine gR fun K F => ?_; simp only [go_sem, hlen, h0, h14, h15, h16, h6, h8, hlx, hsz, hmx, hne, Int.le_refl]; apply F; clear F K
      refine ⟨rfl, .mt (s1.nx + 2) 0 l.length 1, rfl, by simp only [go_sem, hlen], by simp only [go_sem, hlen, h0], by simp only [go_sem, hlen, h14], by simp only [go_sem, hlen, h15], by simp only [go_sem, hlen, h16], by simp only [go_sem, hlen, h6], by simp only [go_sem, hlen, h8], by simp only [go_sem, hlen], .inr ⟨_, rfl, ?_⟩, ?_⟩
      ·rw [fillZ_0]
       exact (OA.new (ho.adv (n := 4)) (k := s1.nx + 2) (by omega) rfl).mono (by simp only [St.nx_put, St.nx_adv]; omega)
      ·simp only [St.nx_put, St.nx_adv]; omega
    ·clear hlen h0 h14 h15 h16 h6 h8 ho hnx e s1
     rintro ⟨e, ds, s1⟩ ⟨c9, rfl, hlen, h0, h14, h15, h16, h6, h8, h9, hN, hnx⟩
     simp only at hlen h0 h14 h15 h16 h6 h8 h9 hN hnx
     refine Wc.seqA (fun y => y.ds = [] ∧ y.e.length = 53 ∧ y.e.getD 0 .junk = .v (.c cx) ∧ y.e.getD 14 .junk = P' (.lst cols.length (cols.flatMap Col.pd)) ∧ y.e.getD 15 .junk = P' (pI cols.length) ∧ y.e.getD 16 .junk = P' (pI i) ∧ y.e.getD 6 .junk = .v (.c c6) ∧ y.e.getD 8 .junk = .v (.c (.ref k8 0)) ∧ y.e.getD 9 .junk = .v (.c c9) ∧ NumS l c.get l.length ((1, .v (.c c6), ss.length, ss.map .str) :: L) ((k8, .cells [.p (pI c.f), .p (.fnc c.g), .p (.fnc c.w)] false) :: M) c9 y.s ∧ s.nx ≤ y.s.nx) ?_ ?_
     ·refine gS fun K F => ?_; simp only [go_sem, hlen, h0, h14, h15, h16, h6, h8, h9, hlx, nZ]; apply F; clear F K
      refine Wc.block (Wc.loop (fun q y => ∃ j : Nat, q = l.length - j ∧ j ≤ l.length ∧ y.ds = [] ∧ y.e.length = 53 ∧ y.e.getD 0 .junk = .v (.c cx) ∧ y.e.getD 14 .junk = P' (.lst cols.length (cols.flatMap Col.pd)) ∧ y.e.getD 15 .junk = P' (pI cols.length) ∧ y.e.getD 16 .junk = P' (pI i) ∧ y.e.getD 6 .junk = .v (.c c6) ∧ y.e.getD 8 .junk = .v (.c (.ref k8 0)) ∧ y.e.getD 9 .junk = .v (.c c9) ∧ y.e.getD 23 .junk = .v (.c cx) ∧ y.e.getD 24 .junk = P' (pI l.length) ∧ y.e.getD 25 .junk = P' (pI j) ∧ NumS l c.get j ((1, .v (.c c6), ss.length, ss.map .str) :: L) ((k8, .cells [.p (pI c.f), .p (.fnc c.g), .p (.fnc c.w)] false) :: M) c9 y.s ∧ s.nx ≤ y.s.nx) ?_ (k := l.length) ?_)
      ·clear hlen h0 h14 h15 h16 h6 h8 h9 hN hnx e s1
       rintro q ⟨e, ds, s1⟩ ⟨j, rfl, hj, rfl, hlen, h0, h14, h15, h16, h6, h8, h9, h23, h24, h25, hN, hnx⟩
       simp only at hlen h0 h14 h15 h16 h6 h8 h9 h23 h24 h25 hN hnx
       refine gS fun K F => ?_; simp only [go_sem, hlen, h0, h14, h15, h16, h6, h8, h9, h23, h24, h25]; apply F; clear F K
       refine Wc.seq (Wc.cond (t := decide ((j : Int) < l.length)) (by simp only [go_sem, hlen]) (fun hc => ?_) (fun hc => ?_))
       ·have hjl : j < l.length := by have : (j : Int) < l.length := by simpa using hc
                                      omega
        obtain ⟨a, ha⟩ : ∃ a, l[j]? = some a := ⟨l[j], List.getElem?_eq_getElem hjl⟩
        have hia := hix j hjl
        have hcb := rpA (off := j * 10) (drop_flat (f := Bkt.pd) (k := 10) (fun _ => rfl) ha) (by rw [flat_len (k := 10) (fun _ => rfl)]; omega)
        obtain ⟨k9, rfl, ho⟩ : ∃ k9, c9 = .mt k9 0 l.length 1 ∧ OA s1.nx s1 ((1, .v (.c c6), ss.length, ss.map .str) :: L) ((k9, .cells (fillZ l c.get j) false) :: (k8, .cells [.p (pI c.f), .p (.fnc c.g), .p (.fnc c.w)] false) :: M) := by
         rcases hN with ⟨h1, _⟩ | h1
         ·subst h1; simp at hjl
         ·exact h1
        refine Wc.skip (Wc.seq (Wc.block (Wc.seqA (fun y => ∃ kx, y.ds = [] ∧ y.e.length = 53 ∧ y.e.getD 0 .junk = .v (.c cx) ∧ y.e.getD 14 .junk = P' (.lst cols.length (cols.flatMap Col.pd)) ∧ y.e.getD 15 .junk = P' (pI cols.length) ∧ y.e.getD 16 .junk = P' (pI i) ∧ y.e.getD 6 .junk = .v (.c c6) ∧ y.e.getD 8 .junk = .v (.c (.ref k8 0)) ∧ y.e.getD 9 .junk = .v (.c (.mt k9 0 l.length 1)) ∧ y.e.getD 23 .junk = .v (.c cx) ∧ y.e.getD 24 .junk = P' (pI l.length) ∧ y.e.getD 25 .junk = P' (pI j) ∧ y.e.getD 10 .junk = P' (pI j) ∧ y.e.getD 11 .junk = .v (.c (.ref kx 0)) ∧
          OA y.s.nx y.s ((1, .v (.c c6), ss.length, ss.map .str) :: L) ((kx, .cells ((Bkt.pd a).map .p) false) :: (k9, .cells (fillZ l c.get j) false) :: (k8, .cells [.p (pI c.f), .p (.fnc c.g), .p (.fnc c.w)] false) :: M) ∧ s.nx ≤ y.s.nx) ?_ ?_)))
        ·refine gR fun K F => ?_; simp only [go_sem, hlen, h0, h14, h15, h16, h6, h8, h9, h23, h24, h25, hia, hcb]; apply F; clear F K
         refine ⟨rfl, s1.nx + 4, rfl, by simp only [go_sem, hlen], by simp only [go_sem, hlen, h0], by simp only [go_sem, hlen, h14], by simp only [go_sem, hlen, h15], by simp only [go_sem, hlen, h16], by simp only [go_sem, hlen, h6], by simp only [go_sem, hlen, h8], by simp only [go_sem, hlen, h9], by simp only [go_sem, hlen, h23], by simp only [go_sem, hlen, h24], by simp only [go_sem, hlen, h25], by simp only [go_sem, hlen], by simp only [go_sem, hlen], ?_, ?_⟩
         ·have h2 := OA.set (M1 := []) (o' := .cells ((Bkt.pd a).map .p) false) ((ho.adv (n := 1)).adv (n := 6) |>.new (k := s1.nx + 4) (o := .cells [.p (.int .i64 0), .p (.int .i64 0), .p (.int .i64 0), .p (.int .i64 0), .p (.int .i64 0), .p (.int .i64 0), .p (.int .i64 0), .p (.int .i64 0), .p (.int .i64 0), .p (.int .i64 0)] false) (by omega) rfl) rfl
          simp only [St.put_put] at h2; exact h2.mono (by simp only [St.nx_put, St.nx_adv]; omega)
         ·simp only [St.nx_put, St.nx_adv]; omega
        ·clear hlen h0 h14 h15 h16 h6 h8 h9 h23 h24 h25 ho hN hnx e s1
         rintro ⟨e, ds, s1⟩ ⟨kx, rfl, hlen, h0, h14, h15, h16, h6, h8, h9, h23, h24, h25, h10, h11, ho, hnx⟩
         simp only at hlen h0 h14 h15 h16 h6 h8 h9 h23 h24 h25 h10 h11 ho hnx
         have gx := ho.at_ (kx, .cells ((Bkt.pd a).map .p) false) (by simp)
         have g9 := ho.at_ (k9, .cells (fillZ l c.get j) false) (by simp)
         have g8 := ho.at_ (k8, .cells [.p (pI c.f), .p (.fnc c.g), .p (.fnc c.w)] false) (by simp)
         have hfl := fillZ_len l c.get hj
         have hi9 := ixM ti175 rfl ti3 (r := k9) (off := 0) (j := j) (m := l.length) (es := 1) hjl rfl
         have hj1 : (j + 1 ≤ l.length) = True := by simp; omega
         have hj2 : ((j : Int) < (l.length : Int)) = True := by simp; omega
         simp only at gx g9 g8
         simp only [List.map_cons, List.map_nil] at gx
         refine gR fun K F => ?_; simp only [go_sem, hlen, h0, h14, h15, h16, h6, h8, h9, h23, h24, h25, h10, h11, gx, g9, g8, hi9, hfl, hj1, hj2]
         refine gP (hpf a) hxt hopn rfl rfl ?_
         simp only [go_sem, hlen, h0, h14, h15, h16, h6, h8, h9, h23, h24, h25, h10, h11, gx, g9, g8, hi9, hfl, hj1, hj2]; apply F; clear F K
         refine gR fun K F => ?_; simp only [go_sem, hlen, h0, h14, h15, h16, h6, h8, h9, h23, h24, h25, h10, h11, i64n j (by omega)]; apply F; clear F K
         refine ⟨l.length - (j + 1), by omega, j + 1, rfl, by omega, rfl, by simp only [go_sem, hlen], by simp only [go_sem, hlen, h0], by simp only [go_sem, hlen, h14], by simp only [go_sem, hlen, h15], by simp only [go_sem, hlen, h16], by simp only [go_sem, hlen, h6], by simp only [go_sem, hlen, h8], by simp only [go_sem, hlen, h9], by simp only [go_sem, hlen, h23], by simp only [go_sem, hlen, h24], by simp only [go_sem, hlen], ?_, ?_⟩
         ·have h2 := OA.set (M1 := [(kx, .cells ((Bkt.pd a).map .p) false)]) (o' := .cells ((fillZ l c.get j).take j ++ [.p (pI (c.get a))] ++ (fillZ l c.get j).drop (j + 1)) false) (ho.adv (n := 8)) rfl
          have h3 := OA.sub (M := (kx, .cells ((Bkt.pd a).map .p) false) :: _) h2 (List.Sublist.refl _) (List.sublist_cons_self _ _)
          rw [fillZ_set ha] at h3
          have h4 : NumS l c.get (j + 1) ((1, .v (.c c6), ss.length, ss.map .str) :: L) ((k8, .cells [.p (pI c.f), .p (.fnc c.g), .p (.fnc c.w)] false) :: M) (.mt k9 0 l.length 1) ((s1.adv 8).put k9 (.cells (fillZ l c.get (j + 1)) false)) := .inr ⟨k9, rfl, h3.mono (by simp only [St.nx_put, St.nx_adv]; omega)⟩
          have h5 := h4.adv (n := 2)
          rw [← fillZ_set ha] at h5
          exact h5
         ·simp only [St.nx_put, St.nx_adv]; omega
       ·have hjl : j = l.length := by have : ¬ (j : Int) < l.length := by simpa using hc
                                      omega
        subst hjl
        exact Wc.exit ⟨rfl, rfl, by simp only [go_sem, hlen], by simp only [go_sem, hlen, h0], by simp only [go_sem, hlen, h14], by simp only [go_sem, hlen, h15], by simp only [go_sem, hlen, h16], by simp only [go_sem, hlen, h6], by simp only [go_sem, hlen, h8], by simp only [go_sem, hlen, h9], hN.adv, by simp only [St.nx_adv]; omega⟩
      ·exact ⟨0, rfl, by omega, rfl, by simp only [go_sem, hlen], by simp only [go_sem, hlen, h0], by simp only [go_sem, hlen, h14], by simp only [go_sem, hlen, h15], by simp only [go_sem, hlen, h16], by simp only [go_sem, hlen, h6], by simp only [go_sem, hlen, h8], by simp only [go_sem, hlen, h9], by simp only [go_sem, hlen, h0], by simp only [go_sem, hlen, h0, hlx], by simp only [go_sem, hlen]; rfl, hN.adv, by simp only [St.nx_adv]; omega⟩
     ·clear hlen h0 h14 h15 h16 h6 h8 h9 hN hnx e s1
      rintro ⟨e, ds, s1⟩ ⟨rfl, hlen, h0, h14, h15, h16, h6, h8, h9, hN, hnx⟩
      simp only at hlen h0 h14 h15 h16 h6 h8 h9 hN hnx
      have g8 : s1.get k8 = some (.cells [.p (pI c.f), .p (.fnc c.g), .p (.fnc c.w)] false) := by
       rcases hN with ⟨_, _, h3⟩ | ⟨k9, _, h3⟩
       ·exact h3.at_ (k8, _) (by simp)
       ·exact h3.at_ (k8, _) (by simp)
      obtain ⟨s2, hp1, ho2, hn2⟩ := (hN.adv (n := 9)).pur
      have hp2 : purVs (s1.adv 9) [.c (.p (pI c.f)), .c c9] = some ([.c (.p (pI c.f)), .c (.p (.lst (l.map c.get).length ((l.map c.get).map pI)))], s2) := purVs_pc hp1
      refine gS fun K F => ?_; simp only [go_sem, hlen, h0, h14, h15, h16, h6, h8, h9, g8]
      refine gP (pf156 c.f (l.map c.get) (by simpa using hl)) (by kernel_rfl) (by kernel_rfl) rfl hp2 ?_
      simp only [go_sem, hlen, h0, h14, h15, h16, h6, h8, h9, g8]; apply F; clear F K
      refine Wc.seq (Wc.seq ?_)
      refine gR fun K F => ?_; simp only [go_sem, hlen, h0, h14, h15, h16, h6, h8, h9]; apply F; clear F K
      refine Wc.cond (t := ((encF c.f (l.map c.get)).2 != 0)) (by simp only [go_sem, hlen]) (fun hc => ?_) (fun hc => ?_)
      ·have hne : ¬ (encF c.f (l.map c.get)).2 = 0 := by simpa using hc
       rw [hpd, if_neg hne] at hp
       refine gS fun K F => ?_; simp only [go_sem, hlen]; apply F; clear F K
       refine Wc.ret (Op.ret [.tmp 4, .tmp 5] [.c .nils, .c (.p (.bool false))] rfl rfl (by simp only [resultsD, go_sem, hlen]) (hK0 hp _ ?_ ?_))
       ·exact (OA.sub (L := (1, .v (.c c6), ss.length, ss.map .str) :: L) (M := _ :: M) (ho2.mono (by simp only [St.nx_adv]; omega)) (List.sublist_cons_self _ _) (List.sublist_cons_self _ _)).adv.adv
       ·simp only [St.nx_adv, hn2]; omega
      ·have he : (encF c.f (l.map c.get)).2 = 0 := by simpa using hc
       rw [hpd, if_pos he] at hp
       refine Wc.skip ?_
       refine gR fun K F => ?_; simp only [go_sem, hlen, h0, h14, h15, h16, h6, h8, h9]
       have ho3 := OA.sub (M := _ :: M) (M1 := M) (ho2.adv (n := 2) |>.mono (b' := s2.nx) (Nat.le_refl _)) (List.Sublist.refl _) (List.sublist_cons_self _ _)
       refine OA.app (L1 := []) (L2 := L) (by_ := 16) (n := ss.length) (m := 1) (ys := [.str (encF c.f (l.map c.get)).1]) (OA.put (ho3.adv (n := 5)) (k := s2.nx + 4) (by omega)) (by omega) ⟨_, ti155, rfl⟩ ti9 rfl rfl rfl (by decide) (by decide) (by simp only [go_sem]) rfl (by omega) fun b' s' hb' hnx' => ?_
       obtain ⟨cb, rfl⟩ := (hb'.own (1, b', ss.length + 1, _) (List.mem_cons_self ..)).v
       simp only [go_sem, hlen, h0, h14, h15, h16, h6, h8, h9]; apply F; clear F K
       refine gR fun K F => ?_; simp only [go_sem, hlen, h0, h14, h15, h16, h6, h8, h9, i64n i (by omega)]; apply F; clear F K
       refine ⟨cols.length - (i + 1), by omega, i + 1, ss ++ [(encF c.f (l.map c.get)).1], cb, rfl, by omega, rfl, by simp only [go_sem, hlen], by simp only [go_sem, hlen, h0], by simp only [go_sem, hlen, h14], by simp only [go_sem, hlen, h15], by simp only [go_sem, hlen], by simp only [go_sem, hlen], ?_, ?_, by simp [hsl], ?_⟩
       ·have h6 := (hb'.mono (b' := s'.nx) (by rw [hnx']; simp only [St.nx_put, St.nx_adv]; omega)).adv (n := 2)
        simpa only [List.length_append, List.length_cons, List.length_nil, List.map_append, List.map_cons, List.map_nil, List.nil_append, St.nx_adv] using h6.mono (Nat.le_add_right _ 2)
       ·simp only [St.nx_adv, hnx', St.nx_put, hn2]; omega
       ·rw [hp]
        cases packE l (cols.drop (i + 1)) <;> simp
  ·have hil : i = cols.length := by have : ¬ (i : Int) < cols.length := by simpa using hc
                                    omega
   subst hil
   rw [List.drop_length] at hp
   simp only [packE, Option.map_some, List.append_nil] at hp
   refine Wc.exit (Wc.seq ?_)
   refine gR fun K F => ?_; simp only [go_sem, hlen, h0, h14, h15, h16, h6]; apply F; clear F K
   refine Wc.ret (Op.ret [.tmp 4, .tmp 5] [.c c6, .c (.p (.bool true))] rfl rfl (by simp only [resultsD, go_sem, hlen]) (hK1 ss hp c6 _ ?_ ?_))
   ·exact ((ho.adv (n := 1)).adv (n := 3)).mono (by simp only [St.nx_adv]; omega)
   ·simp only [St.nx_adv]; omega
 ·exact ⟨0, [], .nils, rfl, by omega, rfl, rfl, rfl, rfl, rfl, rfl, rfl, OA.mono (((h.adv (n := 2)).adv (n := 1)).adv (n := 3)).nil (by simp only [St.nx_adv]; omega), by simp only [St.nx_adv]; omega, rfl, by simp⟩
set_option maxHeartbeats 8000000
theorem pf157 (b : Bkt) : Pf E0 157 [.agg (b.pd.map .p)] (P' (pI (IntKind.i64.wrap (b.st + 1)))) := by
 refine Pf.body (fn := Tryz.f157) (by kernel_rfl) rfl ?_; simp only [List.map_cons, List.map_nil, List.cons_append, List.nil_append, List.length_cons, List.length_nil, Tryz.ntmps157, List.replicate, Nat.reduceSub, Nat.reduceAdd]
 refine gS fun K F => ?_; simp only [go_sem]; apply F; clear F K
 refine gS fun K F => ?_; simp only [go_sem]; apply F; clear F K
 exact Wc.ret (Pf.ret [.tmp 2] [.c (.p (pI (IntKind.i64.wrap (b.st + 1))))] rfl rfl (by simp only [resultsD, go_sem]) rfl)
theorem pf159 (b : Bkt) : Pf E0 159 [.agg (b.pd.map .p)] (P' (pI b.c)) := by
 refine Pf.body (fn := Tryz.f159) (by kernel_rfl) rfl ?_; simp only [List.map_cons, List.map_nil, List.cons_append, List.nil_append, List.length_cons, List.length_nil, Tryz.ntmps159, List.replicate, Nat.reduceSub, Nat.reduceAdd]
 refine gS fun K F => ?_; simp only [go_sem]; apply F; clear F K
 refine gS fun K F => ?_; simp only [go_sem]; apply F; clear F K
 exact Wc.ret (Pf.ret [.tmp 2] [.c (.p (pI b.c))] rfl rfl (by simp only [resultsD, go_sem]) rfl)
theorem pf161 (b : Bkt) : Pf E0 161 [.agg (b.pd.map .p)] (P' (pI b.s)) := by
 refine Pf.body (fn := Tryz.f161) (by kernel_rfl) rfl ?_; simp only [List.map_cons, List.map_nil, List.cons_append, List.nil_append, List.length_cons, List.length_nil, Tryz.ntmps161, List.replicate, Nat.reduceSub, Nat.reduceAdd]
 refine gS fun K F => ?_; simp only [go_sem]; apply F; clear F K
 refine gS fun K F => ?_; simp only [go_sem]; apply F; clear F K
 exact Wc.ret (Pf.ret [.tmp 2] [.c (.p (pI b.s))] rfl rfl (by simp only [resultsD, go_sem]) rfl)
theorem pf163 (b : Bkt) : Pf E0 163 [.agg (b.pd.map .p)] (P' (pI b.mn)) := by
 refine Pf.body (fn := Tryz.f163) (by kernel_rfl) rfl ?_; simp only [List.map_cons, List.map_nil, List.cons_append, List.nil_append, List.length_cons, List.length_nil, Tryz.ntmps163, List.replicate, Nat.reduceSub, Nat.reduceAdd]
 refine gS fun K F => ?_; simp only [go_sem]; apply F; clear F K
 refine gS fun K F => ?_; simp only [go_sem]; apply F; clear F K
 exact Wc.ret (Pf.ret [.tmp 2] [.c (.p (pI b.mn))] rfl rfl (by simp only [resultsD, go_sem]) rfl)
theorem pf165 (b : Bkt) : Pf E0 165 [.agg (b.pd.map .p)] (P' (pI b.mx)) := by
 refine Pf.body (fn := Tryz.f165) (by kernel_rfl) rfl ?_; simp only [List.map_cons, List.map_nil, List.cons_append, List.nil_append, List.length_cons, List.length_nil, Tryz.ntmps165, List.replicate, Nat.reduceSub, Nat.reduceAdd]
 refine gS fun K F => ?_; simp only [go_sem]; apply F; clear F K
 refine gS fun K F => ?_; simp only [go_sem]; apply F; clear F K
 exact Wc.ret (Pf.ret [.tmp 2] [.c (.p (pI b.mx))] rfl rfl (by simp only [resultsD, go_sem]) rfl)
theorem pf167 (b : Bkt) : Pf E0 167 [.agg (b.pd.map .p)] (P' (pI b.f)) := by
 refine Pf.body (fn := Tryz.f167) (by kernel_rfl) rfl ?_; simp only [List.map_cons, List.map_nil, List.cons_append, List.nil_append, List.length_cons, List.length_nil, Tryz.ntmps167, List.replicate, Nat.reduceSub, Nat.reduceAdd]
 refine gS fun K F => ?_; simp only [go_sem]; apply F; clear F K
 refine gS fun K F => ?_; simp only [go_sem]; apply F; clear F K
 exact Wc.ret (Pf.ret [.tmp 2] [.c (.p (pI b.f))] rfl rfl (by simp only [resultsD, go_sem]) rfl)
theorem pf169 (b : Bkt) : Pf E0 169 [.agg (b.pd.map .p)] (P' (pI b.l)) := by
 refine Pf.body (fn := Tryz.f169) (by kernel_rfl) rfl ?_; simp only [List.map_cons, List.map_nil, List.cons_append, List.nil_append, List.length_cons, List.length_nil, Tryz.ntmps169, List.replicate, Nat.reduceSub, Nat.reduceAdd]
 refine gS fun K F => ?_; simp only [go_sem]; apply F; clear F K
 refine gS fun K F => ?_; simp only [go_sem]; apply F; clear F K
 exact Wc.ret (Pf.ret [.tmp 2] [.c (.p (pI b.l))] rfl rfl (by simp only [resultsD, go_sem]) rfl)
theorem pf171 (b : Bkt) : Pf E0 171 [.agg (b.pd.map .p)] (P' (pI b.ft)) := by
 refine Pf.body (fn := Tryz.f171) (by kernel_rfl) rfl ?_; simp only [List.map_cons, List.map_nil, List.cons_append, List.nil_append, List.length_cons, List.length_nil, Tryz.ntmps171, List.replicate, Nat.reduceSub, Nat.reduceAdd]
 refine gS fun K F => ?_; simp only [go_sem]; apply F; clear F K
 refine gS fun K F => ?_; simp only [go_sem]; apply F; clear F K
 exact Wc.ret (Pf.ret [.tmp 2] [.c (.p (pI b.ft))] rfl rfl (by simp only [resultsD, go_sem]) rfl)
theorem pf173 (b : Bkt) : Pf E0 173 [.agg (b.pd.map .p)] (P' (pI b.lt)) := by
 refine Pf.body (fn := Tryz.f173) (by kernel_rfl) rfl ?_; simp only [List.map_cons, List.map_nil, List.cons_append, List.nil_append, List.length_cons, List.length_nil, Tryz.ntmps173, List.replicate, Nat.reduceSub, Nat.reduceAdd]
 refine gS fun K F => ?_; simp only [go_sem]; apply F; clear F K
 refine gS fun K F => ?_; simp only [go_sem]; apply F; clear F K
 exact Wc.ret (Pf.ret [.tmp 2] [.c (.p (pI b.lt))] rfl rfl (by simp only [resultsD, go_sem]) rfl)
theorem pf175 (b : Bkt) : Pf E0 175 [.agg (b.pd.map .p)] (P' (pI b.inc)) := by
 refine Pf.body (fn := Tryz.f175) (by kernel_rfl) rfl ?_; simp only [List.map_cons, List.map_nil, List.cons_append, List.nil_append, List.length_cons, List.length_nil, Tryz.ntmps175, List.replicate, Nat.reduceSub, Nat.reduceAdd]
 refine gS fun K F => ?_; simp only [go_sem]; apply F; clear F K
 refine gS fun K F => ?_; simp only [go_sem]; apply F; clear F K
 exact Wc.ret (Pf.ret [.tmp 2] [.c (.p (pI b.inc))] rfl rfl (by simp only [resultsD, go_sem]) rfl)
def bktCols : List (Col Bkt) := [⟨0, 157, 158, fun b => IntKind.i64.wrap (b.st + 1)⟩, ⟨1, 159, 160, (·.c)⟩, ⟨1, 161, 162, (·.s)⟩, ⟨1, 163, 164, (·.mn)⟩, ⟨1, 165, 166, (·.mx)⟩, ⟨1, 167, 168, (·.f)⟩, ⟨1, 169, 170, (·.l)⟩, ⟨1, 171, 172, (·.ft)⟩, ⟨1, 173, 174, (·.lt)⟩, ⟨1, 175, 176, (·.inc)⟩]
theorem pf99 : Pf E0 99 [] (P' (.lst bktCols.length (bktCols.flatMap Col.pd))) := by
 refine Pf.body (fn := Tryz.f99) (by kernel_rfl) rfl ?_; simp only [List.map_cons, List.map_nil, List.cons_append, List.nil_append, List.length_cons, List.length_nil, Tryz.ntmps99, List.replicate, Nat.reduceSub, Nat.reduceAdd]
 refine gS fun K F => ?_; simp only [go_sem]; apply F; clear F K
 refine gS fun K F => ?_; simp only [go_sem]; apply F; clear F K
 exact Wc.ret (Pf.ret [.tmp 0] _ rfl rfl (by simp only [resultsD, go_sem]; rfl) rfl)
theorem bktCols_ok : ∀ c ∈ bktCols, (∀ a : Bkt, Pf E0 c.g [.agg (a.pd.map .p)] (P' (pI (c.get a)))) ∧ E0.xt c.g = none ∧ E0.opn c.g = false := by
 intro c hc
 simp only [bktCols, List.mem_cons, List.mem_nil_iff, or_false] at hc
 rcases hc with rfl | rfl | rfl | rfl | rfl | rfl | rfl | rfl | rfl | rfl
 ·exact ⟨pf157, by kernel_rfl, by kernel_rfl⟩
 ·exact ⟨pf159, by kernel_rfl, by kernel_rfl⟩
 ·exact ⟨pf161, by kernel_rfl, by kernel_rfl⟩
 ·exact ⟨pf163, by kernel_rfl, by kernel_rfl⟩
 ·exact ⟨pf165, by kernel_rfl, by kernel_rfl⟩
 ·exact ⟨pf167, by kernel_rfl, by kernel_rfl⟩
 ·exact ⟨pf169, by kernel_rfl, by kernel_rfl⟩
 ·exact ⟨pf171, by kernel_rfl, by kernel_rfl⟩
 ·exact ⟨pf173, by kernel_rfl, by kernel_rfl⟩
 ·exact ⟨pf175, by kernel_rfl, by kernel_rfl⟩
structure Rlp where
 lb : List Lb
 k : Int
 w : Int
 bs : List Bkt
abbrev Rlp.pd (x : Rlp) : List Pd := [.lst x.lb.length (x.lb.flatMap lbP), pI x.k, pI x.w, .lst x.bs.length (x.bs.flatMap Bkt.pd)]
def bksOK (k w : Int) : Int → List Bkt → Bool
 | _, [] => true
 | p, b :: r => !(decide (b.st ≤ p) || decide (1099511627776 ≤ b.st) || (b.st.tmod w != 0)) && (bkA k w b && bksOK k w b.st r)
def rlpOK (x : Rlp) : Bool := !((lckA x.lb != 0) || ((x.k != 1) && (x.k != 2))) && (!(decide (x.w < 1) || decide (1099511627776 < x.w) || ((x.bs.length : Int) == 0) || decide ((2000 : Int) < x.bs.length)) && bksOK x.k x.w (-1) x.bs)
def prevS (l : List Bkt) (i : Nat) : Int := if i = 0 then -1 else ((l[i - 1]?).map (·.st)).getD (-1)
theorem bksOK_step {k w : Int} {l : List Bkt} {i : Nat} {b : Bkt} (h : l[i]? = some b) : bksOK k w (prevS l i) (l.drop i) = (!(decide (b.st ≤ prevS l i) || decide (1099511627776 ≤ b.st) || (b.st.tmod w != 0)) && (bkA k w b && bksOK k w (prevS l (i + 1)) (l.drop (i + 1)))) := by
 have hi := (List.getElem?_eq_some_iff.1 h).1
 have hx := (List.getElem?_eq_some_iff.1 h).2
 have hp : prevS l (i + 1) = b.st := by simp [prevS, h]
 rw [List.drop_eq_getElem_cons hi, hx, hp]
 rfl
theorem pf97 (x : Rlp) (hlb : x.lb.length < 2^40) (hls : ∀ y ∈ x.lb, y.1.length < 2^50 ∧ y.2.length < 2^50) : Pf E0 97 [.agg (x.pd.map .p)] (P' (.bool (rlpOK x))) := by
 have hfl : (x.bs.flatMap Bkt.pd).length = x.bs.length * 10 := flat_len (k := 10) (fun _ => rfl) _
 generalize hR : rlpOK x = R
 unfold rlpOK at hR
 refine Pf.body (fn := Tryz.f97) (by kernel_rfl) rfl ?_; simp only [List.map_cons, List.map_nil, List.cons_append, List.nil_append, List.length_cons, List.length_nil, Tryz.ntmps97, List.replicate, Nat.reduceSub, Nat.reduceAdd]
 refine gS fun K F => ?_; simp only [go_sem]; apply F; clear F K
 refine Wc.seqR (fun y => ((lckA x.lb != 0) || ((x.k != 1) && (x.k != 2))) = false ∧ y.ds = [] ∧ Fs y.e 74 [(1, .v (.c (.ref 0 0)))] ∧ OA y.s.nx y.s [] [(0, .cells (x.pd.map .p) false)]) ?_ ?_
 ·refine Wc.seq ?_
  have bad : ((lckA x.lb != 0) || ((x.k != 1) && (x.k != 2))) = true → false = R := fun h => by rw [← hR, h]; rfl
  cases z1 : (lckA x.lb != 0) with
  | true =>
   refine gR fun K F => ?_; simp only [go_sem]
   refine gP (pf134 x.lb hlb hls) (by kernel_rfl) (by kernel_rfl) rfl rfl ?_
   simp only [go_sem, z1]; apply F; clear F K
   refine gT (by simp only [go_sem, z1]) ?_
   refine gS fun K F => ?_; simp only [go_sem]; apply F; clear F K
   rw [← bad (by rw [z1]; rfl)]
   exact Wc.ret (Pf.ret [.tmp 2] [.c (.p (.bool false))] rfl rfl (by simp only [resultsD, go_sem]) rfl)
  | false =>
   cases z2 : (x.k != 1) with
   | false =>
    refine gR fun K F => ?_; simp only [go_sem]
    refine gP (pf134 x.lb hlb hls) (by kernel_rfl) (by kernel_rfl) rfl rfl ?_
    simp only [go_sem, z1, z2]; apply F; clear F K
    refine gF (by simp only [go_sem, z1, z2]) ?_
    exact ⟨rfl, rfl, by simp only [Fs, nZ, go_sem], by (try simp only [St.nx_put, St.nx_adv]); repeat (first | exact OA.mono s00_oa (by omega) | refine OA.newB ?_ (by omega) rfl | refine OA.advB ?_)⟩
   | true =>
    refine gR fun K F => ?_; simp only [go_sem]
    refine gP (pf134 x.lb hlb hls) (by kernel_rfl) (by kernel_rfl) rfl rfl ?_
    simp only [go_sem, z1, z2]; apply F; clear F K
    refine Wc.cond (t := (x.k != 2)) (by simp only [go_sem, z1, z2]) (fun hc => ?_) (fun hc => ?_)
    ·refine gS fun K F => ?_; simp only [go_sem]; apply F; clear F K
     rw [← bad (by rw [z1, z2, hc]; rfl)]
     exact Wc.ret (Pf.ret [.tmp 2] [.c (.p (.bool false))] rfl rfl (by simp only [resultsD, go_sem]) rfl)
    ·exact Wc.skip ⟨by rw [hc]; rfl, rfl, by simp only [Fs, nZ, go_sem], by (try simp only [St.nx_put, St.nx_adv]); repeat (first | exact OA.mono s00_oa (by omega) | refine OA.newB ?_ (by omega) rfl | refine OA.advB ?_)⟩
 rintro ⟨e, ds, s1⟩ ⟨c1, rfl, hF, ho⟩
 simp only [Fs] at hF ho
 have g0 := ho.at_ (0, .cells (x.pd.map .p) false) (by simp)
 simp only [List.map_cons, List.map_nil] at g0
 rw [c1] at hR
 refine Wc.seqR (fun y => ((decide (x.w < 1) || decide (1099511627776 < x.w) || ((x.bs.length : Int) == 0) || decide ((2000 : Int) < x.bs.length)) = false ∧ (1 ≤ x.w ∧ x.w ≤ 1099511627776 ∧ x.bs.length ≤ 2000)) ∧ y.ds = [] ∧ Fs y.e 74 [(1, .v (.c (.ref 0 0)))] ∧ OA y.s.nx y.s [] [(0, .cells (x.pd.map .p) false)]) ?_ ?_
 ·refine Wc.seq ?_
  have bad : (decide (x.w < 1) || decide (1099511627776 < x.w) || ((x.bs.length : Int) == 0) || decide ((2000 : Int) < x.bs.length)) = true → false = R := fun h => by rw [← hR, h]; rfl
  rcases Bool.eq_false_or_eq_true (decide (x.w < 1)) with z1 | z1
  ·refine gR fun K F => ?_; simp only [go_sem, hF, g0, z1]; apply F; clear F K
   refine gT (by simp only [go_sem, hF, g0, z1]) ?_
   refine gS fun K F => ?_; simp only [go_sem, hF]; apply F; clear F K
   rw [← bad (by simp only [z1]; rfl)]
   exact Wc.ret (Pf.ret [.tmp 2] [.c (.p (.bool false))] rfl rfl (by simp only [resultsD, go_sem, hF]) rfl)
  rcases Bool.eq_false_or_eq_true (decide (1099511627776 < x.w)) with z2 | z2
  ·refine gR fun K F => ?_; simp only [go_sem, hF, g0, z1, z2]; apply F; clear F K
   refine gT (by simp only [go_sem, hF, g0, z1, z2]) ?_
   refine gS fun K F => ?_; simp only [go_sem, hF]; apply F; clear F K
   rw [← bad (by simp only [z1, z2]; rfl)]
   exact Wc.ret (Pf.ret [.tmp 2] [.c (.p (.bool false))] rfl rfl (by simp only [resultsD, go_sem, hF]) rfl)
  rcases Bool.eq_false_or_eq_true ((x.bs.length : Int) == 0) with z3 | z3
  ·refine gR fun K F => ?_; simp only [go_sem, hF, g0, z1, z2, z3]; apply F; clear F K
   refine gT (by simp only [go_sem, hF, g0, z1, z2, z3]) ?_
   refine gS fun K F => ?_; simp only [go_sem, hF]; apply F; clear F K
   rw [← bad (by simp only [z1, z2, z3]; rfl)]
   exact Wc.ret (Pf.ret [.tmp 2] [.c (.p (.bool false))] rfl rfl (by simp only [resultsD, go_sem, hF]) rfl)
  rcases Bool.eq_false_or_eq_true (decide ((2000 : Int) < x.bs.length)) with z4 | z4
  ·refine gR fun K F => ?_; simp only [go_sem, hF, g0, z1, z2, z3, z4]; apply F; clear F K
   refine gT (by simp only [go_sem, hF, g0, z1, z2, z3, z4]) ?_
   refine gS fun K F => ?_; simp only [go_sem, hF]; apply F; clear F K
   rw [← bad (by simp only [z1, z2, z3, z4]; rfl)]
   exact Wc.ret (Pf.ret [.tmp 2] [.c (.p (.bool false))] rfl rfl (by simp only [resultsD, go_sem, hF]) rfl)
  refine gR fun K F => ?_; simp only [go_sem, hF, g0, z1, z2, z3, z4]; apply F; clear F K
  refine gF (by simp only [go_sem, hF, g0, z1, z2, z3, z4]) ?_
  exact ⟨⟨by simp only [z1, z2, z3, z4]; rfl, by have := of_decide_eq_false z1; omega, by have := of_decide_eq_false z2; omega, by have := of_decide_eq_false z4; omega⟩, rfl, by simp only [Fs, nZ, go_sem, hF], by (try simp only [St.nx_put, St.nx_adv]); repeat (first | exact OA.mono ho (by omega) | refine OA.newB ?_ (by omega) rfl | refine OA.advB ?_)⟩
 clear hF ho g0 e s1
 rintro ⟨e, ds, s1⟩ ⟨⟨c2, hw1, hw2, hbl⟩, rfl, hF, ho⟩
 simp only [Fs] at hF ho
 rw [c2] at hR
 have hR0 : bksOK x.k x.w (prevS x.bs 0) (x.bs.drop 0) = R := by rw [← hR]; rfl
 clear hR
 refine gS fun K F => ?_; simp only [go_sem, hF]; apply F; clear F K
 refine Wc.seqR (fun y => R = true ∧ y.ds = [] ∧ Fs y.e 74 []) ?_ ?_
 ·refine Wc.seq ?_
  have g0 := ho.at_ (0, .cells (x.pd.map .p) false) (by simp)
  simp only [List.map_cons, List.map_nil] at g0
  refine gR fun K F => ?_; simp only [go_sem, hF, g0, nZ]; apply F; clear F K
  refine Wc.block (Wc.loop (fun c y => ∃ i : Nat, c = x.bs.length - i ∧ i ≤ x.bs.length ∧ y.ds = [] ∧ Fs y.e 74 [(1, .v (.c (.ref 0 0))), (3, P' (pI (prevS x.bs i))), (41, P' (.lst x.bs.length (x.bs.flatMap Bkt.pd))), (42, P' (pI x.bs.length)), (43, P' (pI i))] ∧ OA y.s.nx y.s [] [(0, .cells (x.pd.map .p) false)] ∧ (-1 ≤ prevS x.bs i) ∧ bksOK x.k x.w (prevS x.bs i) (x.bs.drop i) = R) ?_ (k := x.bs.length) ?_)
  ·clear hF ho g0 hR0 e s1
   rintro c ⟨e, ds, s1⟩ ⟨i, rfl, hi, rfl, hF, ho, hpm, hRi⟩
   simp only [Fs] at hF ho
   refine gS fun K F => ?_; simp only [go_sem, hF]; apply F; clear F K
   refine Wc.seq (Wc.cond (t := decide ((i : Int) < x.bs.length)) (by simp only [go_sem, hF]) (fun hc => ?_) (fun hc => ?_))
   ·have hil : i < x.bs.length := by have := of_decide_eq_true hc; omega
    obtain ⟨b, hb⟩ : ∃ b, x.bs[i]? = some b := ⟨x.bs[i], List.getElem?_eq_getElem hil⟩
    have hix := ixA ti29 rfl ti41 (j := i) (m := x.bs.length) (cs := x.bs.flatMap Bkt.pd) hil hfl (by decide)
    have hca := rpA (off := i * 10) (drop_flat (f := Bkt.pd) (k := 10) (fun _ => rfl) hb) (by rw [hfl]; omega)
    have hpn : prevS x.bs (i + 1) = b.st := by simp [prevS, hb]
    rw [bksOK_step hb, hpn] at hRi
    refine Wc.skip (Wc.seq (Wc.block (Wc.seqA (fun y => ∃ k5, y.ds = [] ∧ Fs y.e 74 [(1, .v (.c (.ref 0 0))), (3, P' (pI (prevS x.bs i))), (41, P' (.lst x.bs.length (x.bs.flatMap Bkt.pd))), (42, P' (pI x.bs.length)), (43, P' (pI i)), (5, .v (.c (.ref k5 0)))] ∧ OA y.s.nx y.s [] [(k5, .cells (b.pd.map .p) false), (0, .cells (x.pd.map .p) false)]) ?_ ?_)))
    ·refine gR fun K F => ?_; simp only [go_sem, hF, hix, hca]; apply F; clear F K
     exact ⟨rfl, s1.nx + 3, rfl, by simp only [Fs, nZ, go_sem, hF], by (try simp only [St.nx_put, St.nx_adv]); repeat (first | exact OA.mono ho (by omega) | refine OA.newB ?_ (by omega) rfl | refine OA.advB ?_)⟩
    clear hF ho e s1
    rintro ⟨e, ds, s1⟩ ⟨k5, rfl, hF, ho⟩
    simp only [Fs] at hF ho
    have g5 := ho.at_ (k5, .cells (b.pd.map .p) false) (by simp)
    have g0 := ho.at_ (0, .cells (x.pd.map .p) false) (by simp)
    simp only [List.map_cons, List.map_nil] at g0 g5
    have hw0 : (x.w = 0) = False := by simp only [eq_iff_iff, iff_false]; omega
    refine Wc.seqR (fun y => ((decide (b.st ≤ prevS x.bs i) || decide (1099511627776 ≤ b.st) || (b.st.tmod x.w != 0)) = false ∧ 0 ≤ b.st ∧ b.st < 1099511627776) ∧ y.ds = [] ∧ Fs y.e 74 [(1, .v (.c (.ref 0 0))), (41, P' (.lst x.bs.length (x.bs.flatMap Bkt.pd))), (42, P' (pI x.bs.length)), (43, P' (pI i)), (5, .v (.c (.ref k5 0)))] ∧ OA y.s.nx y.s [] [(k5, .cells (b.pd.map .p) false), (0, .cells (x.pd.map .p) false)]) ?_ ?_
    ·refine Wc.seq ?_
     have bad : (decide (b.st ≤ prevS x.bs i) || decide (1099511627776 ≤ b.st) || (b.st.tmod x.w != 0)) = true → false = R := fun h => by rw [← hRi, h]; rfl
     rcases Bool.eq_false_or_eq_true (decide (b.st ≤ prevS x.bs i)) with z1 | z1
     ·refine gR fun K F => ?_; simp only [go_sem, hF, g0, g5, hw0, z1]; apply F; clear F K
      refine gT (by simp only [go_sem, hF, g0, g5, hw0, z1]) ?_
      refine gS fun K F => ?_; simp only [go_sem, hF]; apply F; clear F K
      rw [← bad (by simp only [z1]; rfl)]
      exact Wc.ret (Pf.ret [.tmp 2] [.c (.p (.bool false))] rfl rfl (by simp only [resultsD, go_sem, hF]) rfl)
     rcases Bool.eq_false_or_eq_true (decide (1099511627776 ≤ b.st)) with z2 | z2
     ·refine gR fun K F => ?_; simp only [go_sem, hF, g0, g5, hw0, z1, z2]; apply F; clear F K
      refine gT (by simp only [go_sem, hF, g0, g5, hw0, z1, z2]) ?_
      refine gS fun K F => ?_; simp only [go_sem, hF]; apply F; clear F K
      rw [← bad (by simp only [z1, z2]; rfl)]
      exact Wc.ret (Pf.ret [.tmp 2] [.c (.p (.bool false))] rfl rfl (by simp only [resultsD, go_sem, hF]) rfl)
     rcases Bool.eq_false_or_eq_true (b.st.tmod x.w != 0) with z3 | z3
     ·refine gR fun K F => ?_; simp only [go_sem, hF, g0, g5, hw0, z1, z2, z3]; apply F; clear F K
      refine gT (by simp only [go_sem, hF, g0, g5, hw0, z1, z2, z3]) ?_
      refine gS fun K F => ?_; simp only [go_sem, hF]; apply F; clear F K
      rw [← bad (by simp only [z1, z2, z3]; rfl)]
      exact Wc.ret (Pf.ret [.tmp 2] [.c (.p (.bool false))] rfl rfl (by simp only [resultsD, go_sem, hF]) rfl)
     refine gR fun K F => ?_; simp only [go_sem, hF, g0, g5, hw0, z1, z2, z3]; apply F; clear F K
     refine gF (by simp only [go_sem, hF, g0, g5, hw0, z1, z2, z3]) ?_
     exact ⟨⟨by simp only [z1, z2, z3]; rfl, by have := of_decide_eq_false z1; omega, by have := of_decide_eq_false z2; omega⟩, rfl, by simp only [Fs, nZ, go_sem, hF], by (try simp only [St.nx_put, St.nx_adv]); repeat (first | exact OA.mono ho (by omega) | refine OA.newB ?_ (by omega) rfl | refine OA.advB ?_)⟩
    clear hF ho g0 g5 e s1
    rintro ⟨e, ds, s1⟩ ⟨⟨c3, hb0, hb1⟩, rfl, hF, ho⟩
    simp only [Fs] at hF ho
    have g5 := ho.at_ (k5, .cells (b.pd.map .p) false) (by simp)
    have g0 := ho.at_ (0, .cells (x.pd.map .p) false) (by simp)
    simp only [List.map_cons, List.map_nil] at g0 g5
    rw [c3] at hRi
    refine Wc.seq (Wc.seq ?_)
    refine gR fun K F => ?_; simp only [go_sem, hF, g0, g5]
    refine gP (pf155 b x.k x.w ⟨hb0, hb1⟩ ⟨hw1, hw2⟩) (by kernel_rfl) (by kernel_rfl) rfl rfl ?_
    simp only [go_sem, hF, g0, g5]; apply F; clear F K
    refine Wc.cond (t := !(bkA x.k x.w b)) (by simp only [go_sem, hF]) (fun hc => ?_) (fun hc => ?_)
    ·have hbk : bkA x.k x.w b = false := by simpa using hc
     refine gS fun K F => ?_; simp only [go_sem, hF]; apply F; clear F K
     rw [← hRi, hbk]
     exact Wc.ret (Pf.ret [.tmp 2] [.c (.p (.bool false))] rfl rfl (by simp only [resultsD, go_sem, hF]) rfl)
    ·have hbk : bkA x.k x.w b = true := by simpa using hc
     rw [hbk] at hRi
     refine Wc.skip ?_
     refine gR fun K F => ?_; simp only [go_sem, hF, g5]; apply F; clear F K
     refine gR fun K F => ?_; simp only [go_sem, hF, i64n i (by omega)]; apply F; clear F K
     refine ⟨x.bs.length - (i + 1), by omega, i + 1, rfl, by omega, rfl, by rw [hpn]; exact by simp only [Fs, nZ, go_sem, hF], by (try simp only [St.nx_put, St.nx_adv]); repeat (first | exact OA.mono (ho.sub (List.Sublist.refl _) (List.sublist_cons_self _ _)) (by omega) | refine OA.newB ?_ (by omega) rfl | refine OA.advB ?_), by rw [hpn]; omega, by rw [hpn]; exact hRi⟩
   ·have hil : i = x.bs.length := by have := of_decide_eq_false hc; omega
    subst hil
    rw [List.drop_length] at hRi
    exact Wc.exit ⟨hRi.symm, rfl, by simp only [Fs, nZ, go_sem, hF]⟩
  ·exact ⟨0, rfl, by omega, rfl, by rw [show prevS x.bs 0 = -1 from rfl]; exact by simp only [Fs, nZ, go_sem, hF], by (try simp only [St.nx_put, St.nx_adv]); repeat (first | exact OA.mono ho (by omega) | refine OA.newB ?_ (by omega) rfl | refine OA.advB ?_), by simp [prevS], hR0⟩
 clear hF ho e s1
 rintro ⟨e, ds, s1⟩ ⟨hRt, rfl, hF⟩
 simp only [Fs] at hF
 subst hRt
 refine gS fun K F => ?_; simp only [go_sem, hF]; apply F; clear F K
 exact Wc.ret (Pf.ret [.tmp 2] [.c (.p (.bool true))] rfl rfl (by simp only [resultsD, go_sem, hF]) rfl)
end Go.Proofs.YtedcnhbblgmdnaaGreat.Ab
