/- A part of the proof: an evaluator of the code, its contracts, the law. No condition. -/
import Derived.Test.YtafaoldmemcigaaGreatT27
namespace Go.Proofs.YtafaoldmemcigaaGreat.Ab
set_option maxHeartbeats 8000000
set_option maxRecDepth 10000
set_option linter.unusedSimpArgs false
set_option linter.unusedVariables false
/-- 118: unpack, a walk -/
theorem uw118 {s : St} {L : List (Nat × D × Nat × List Pd)} {M : List (Nat × Ob)} {z : HSm} {cols : List (ColU HSm)} {ss : List (List UInt8)} {K : D → St → Prop} (h : OA s.nx s L M) (hz : ∃ zz, E0.ti 57 = some zz ∧ zz.zero = some (encZ z)) (hcl : cols.length < 2^20) (hsl : ss.length = cols.length)
    (hss : ∀ x ∈ ss, x.length < 2^40) (hcol : ∀ c ∈ cols, SetOK encZ c) (hel : ∀ a : HSm, (encZ a).length = 7)
    (hK0 : unpk z (cols.map ColU.r) ss = none → ∀ s', OA s'.nx s' L M → K (.tup [.c .nils, .c (.p (.bool false))]) s')
    (hK1 : ∀ l, unpk z (cols.map ColU.r) ss = some l → ∀ s' c6, SlS encZ 7 l L M c6 s' → K (.tup [.c c6, .c (.p (.bool true))]) s') :
    Wc E0 none (Tryz.f118.body.get rfl) { e := [V.c (.p (.lst ss.length (ss.map .str))), V.c (.p (.lst cols.length (cols.flatMap ColU.pd)))].map .v ++ List.replicate (Tryz.f118.ntmps - 2) (.tup []), ds := [], s := s } (bodyQ E0 Tryz.f118 K) := by
  show Wc E0 none _ _ _
  simp only [List.map_cons, List.map_nil, List.cons_append, List.nil_append, List.length_cons, List.length_nil, Tryz.ntmps118, List.replicate, Nat.reduceSub, Nat.reduceAdd]
  generalize hU : unpk z (cols.map ColU.r) ss = U at hK0 hK1
  refine Wc.seq ?_
  refine Wc.reg fun K hK => ?_; simp only [go_sem, ti3, ti9, ti77, ti4, ti35, ti105, ti48, ti24, ti57, ti96, ti136, ti134]; refine hK _ _ ?_; clear hK K
  refine Wc.seq ?_
  refine Wc.reg fun K hK => ?_; simp only [go_sem, ti3, ti9, ti77, ti4, ti35, ti105, ti48, ti24, ti57, ti96, ti136, ti134]; refine hK _ _ ?_; clear hK K
  refine Wc.seqR (fun y => ∃ (l : List HSm) (c6 : C), U = some l ∧ y.ds = [] ∧ Fs y.e 59 [(6, .v (.c c6))] ∧ SlS encZ 7 l L M c6 y.s) ?_ ?_
  · refine Wc.seq ?_
    refine Wc.reg fun K hK => ?_; simp only [go_sem, ti3, ti9, ti77, ti4, ti35, ti105, ti48, ti24, ti57, ti96, ti136, ti134, Int.natCast_zero]; refine hK _ _ ?_; clear hK K
    refine Wc.block (Wc.loop (fun k y => ∃ (i : Nat) (l : List HSm) (c6 : C), k = cols.length - i ∧ i ≤ cols.length ∧ y.ds = [] ∧ Fs y.e 59 [(0, P' (.lst ss.length (ss.map .str))), (13, P' (.lst cols.length (cols.flatMap ColU.pd))), (14, P' (pI cols.length)), (15, P' (pI i)), (6, .v (.c c6))] ∧ SlS encZ 7 l L M c6 y.s ∧ (i = 0 → l = []) ∧ (0 < i → U = unpkG ((cols.map ColU.r).drop i) (ss.drop i) l)) ?_ (k := cols.length) ?_)
    · rintro k ⟨e, ds, s1⟩ ⟨i, l, c6, rfl, hi, rfl, hF, ho, hi0, hUi⟩
      simp only [Fs] at hF ho
      refine Wc.seq ?_
      refine Wc.reg fun K hK => ?_; simp only [go_sem, ti3, ti9, ti77, ti4, ti35, ti105, ti48, ti24, ti57, ti96, ti136, ti134, hF]; refine hK _ _ ?_; clear hK K
      refine Wc.seq (Wc.cond (t := decide ((i : Int) < cols.length)) (by simp only [go_sem, ti3, ti9, ti77, ti4, ti35, ti105, ti48, ti24, ti57, ti96, ti136, ti134, hF]) (fun hc => ?_) (fun hc => ?_))
      · have hil : i < cols.length := by have : (i : Int) < cols.length := by simpa using hc
                                         omega
        obtain ⟨c, hc1⟩ : ∃ c, cols[i]? = some c := ⟨cols[i], List.getElem?_eq_getElem hil⟩
        obtain ⟨x, hx1⟩ : ∃ x, ss[i]? = some x := ⟨ss[i], List.getElem?_eq_getElem (by omega)⟩
        have hxl := hss x (List.mem_of_getElem? hx1)
        obtain ⟨hxt, hopn, hset⟩ := hcol c (List.mem_of_getElem? hc1)
        have hcr : (cols.map ColU.r).drop i = c.r :: (cols.map ColU.r).drop (i + 1) := by
          rw [← List.map_drop, List.drop_eq_getElem_cons hil, (List.getElem?_eq_some_iff.1 hc1).2, List.map_cons, List.map_drop]
        have hxr : ss.drop i = x :: ss.drop (i + 1) := by rw [List.drop_eq_getElem_cons (by omega), (List.getElem?_eq_some_iff.1 hx1).2]
        have hU1 : U = if (decF c.f x).2 ≠ 0 ∨ (decF c.f x).1.length ≠ (if i = 0 then List.replicate (decF c.f x).1.length z else l).length then none else unpkG ((cols.map ColU.r).drop (i + 1)) (ss.drop (i + 1)) (List.zipWith c.set (if i = 0 then List.replicate (decF c.f x).1.length z else l) (decF c.f x).1) := by
          by_cases h0 : i = 0
          · subst h0
            rw [List.drop_zero] at hcr hxr
            rw [← hU, hcr, hxr, if_pos rfl, unpk_first]
            rfl
          · rw [hUi (by omega), hcr, hxr, if_neg h0]
            rfl
        clear hUi hcr hxr
        have hic := ixA ti96 rfl ti136 (j := i) (m := cols.length) (cs := cols.flatMap ColU.pd) hil (by rw [flat_len (k := 3) (fun _ => rfl)]) (by decide)
        have hca := rpA (off := i * 3) (drop_flat (f := ColU.pd) (k := 3) (fun _ => rfl) hc1) (by rw [flat_len (k := 3) (fun _ => rfl)]; omega)
        have his := ixA ti48 rfl ti9 (j := i) (m := ss.length) (cs := ss.map .str) (by omega) (by simp) (by decide)
        have hcs := rpA (off := i) (drop_map Pd.str hx1) (by simp; omega)
        refine Wc.skip (Wc.seq (Wc.block ?_))
        refine Wc.seqA (fun y => ∃ k8, y.ds = [] ∧ Fs y.e 59 [(0, P' (.lst ss.length (ss.map .str))), (13, P' (.lst cols.length (cols.flatMap ColU.pd))), (14, P' (pI cols.length)), (15, P' (pI i)), (6, .v (.c c6)), (7, P' (pI i)), (8, .v (.c (.ref k8 0)))] ∧ SlS encZ 7 l L ((k8, .cells [.p (pI c.f), .p (.fnc c.g), .p (.fnc c.w)] false) :: M) c6 y.s) ?_ ?_
        · refine Wc.reg fun K hK => ?_; simp only [go_sem, ti3, ti9, ti77, ti4, ti35, ti105, ti48, ti24, ti57, ti96, ti136, ti134, hF, hic, hca]; refine hK _ _ ?_; clear hK K
          exact ⟨rfl, s1.nx + 1 + 3, rfl, by simp only [Fs, Int.natCast_zero, go_sem, ti3, ti9, ti77, ti4, ti35, ti105, ti48, ti24, ti57, ti96, ti136, ti134, hF], (ho.adv (n := 1)).newB (n := 6) (k := s1.nx + 1 + 3) (by simp only [St.nx_adv]; omega) (by simp only [St.nx_adv]; omega) rfl⟩
        clear hF ho e s1
        rintro ⟨e, ds, s1⟩ ⟨k8, rfl, hF, ho⟩
        simp only [Fs] at hF ho
        have g8 := ho.at8 (k8, .cells [.p (pI c.f), .p (.fnc c.g), .p (.fnc c.w)] false) (by simp)
        simp only at g8
        refine Wc.seq ?_
        refine Wc.regD fun K hK => ?_; simp only [go_sem, ti3, ti9, ti77, ti4, ti35, ti105, ti48, ti24, ti57, ti96, ti136, ti134, hF, g8, his, hcs]
        refine ⟨by simp [o122, x122, plainD, plainV, plainC], ?_⟩
        refine wpCall.pf (pf122 c.f x hxl) x122 o122 rfl rfl ?_
        simp only [go_sem, ti3, ti9, ti77, ti4, ti35, ti105, ti48, ti24, ti57, ti96, ti136, ti134, hF]; refine hK _ _ ?_; clear hK K
        have hoM : OA s1.nx s1 L M := ho.oa.sub (List.Sublist.refl _) (List.sublist_cons_self _ _)
        have hdl : (decF c.f x).1.length ≤ 20001 := decF_len _ _
        generalize hd : decF c.f x = d at *
        obtain ⟨d, er⟩ := d
        simp only at hU1 hdl
        refine Wc.seq (Wc.seq ?_)
        refine Wc.reg fun K hK => ?_; simp only [go_sem, ti3, ti9, ti77, ti4, ti35, ti105, ti48, ti24, ti57, ti96, ti136, ti134, hF]; refine hK _ _ ?_; clear hK K
        refine Wc.cond (t := (er != 0)) (by simp only [go_sem, ti3, ti9, ti77, ti4, ti35, ti105, ti48, ti24, ti57, ti96, ti136, ti134, hF]) (fun hc => ?_) (fun hc => ?_)
        · have h0 : er ≠ 0 := by simpa using hc
          rw [if_pos (.inl h0)] at hU1
          refine Wc.seq ?_
          refine Wc.reg fun K hK => ?_; simp only [go_sem, ti3, ti9, ti77, ti4, ti35, ti105, ti48, ti24, ti57, ti96, ti136, ti134, hF]; refine hK _ _ ?_; clear hK K
          exact Wc.ret (show bodyQ E0 Tryz.f118 K .ret _ from Op.ret [.tmp 4, .tmp 5] [.c .nils, .c (.p (.bool false))] rfl rfl (by simp only [resultsD, go_sem, ti3, ti9, ti77, ti4, ti35, ti105, ti48, ti24, ti57, ti96, ti136, ti134, hF]) (hK0 hU1 _ (by simp only [St.nx_put, St.nx_adv]; repeat (first | exact OA.mono hoM (by omega) | refine OA.newB ?_ (by omega) rfl | refine OA.advB ?_))))
        have h0 : er = 0 := by simpa using hc
        generalize hl0 : (if i = 0 then List.replicate d.length z else l) = l0 at hU1
        refine Wc.skip ?_
        refine Wc.seqA (fun y => ∃ c6, y.ds = [] ∧ Fs y.e 59 [(0, P' (.lst ss.length (ss.map .str))), (13, P' (.lst cols.length (cols.flatMap ColU.pd))), (14, P' (pI cols.length)), (15, P' (pI i)), (6, .v (.c c6)), (7, P' (pI i)), (8, .v (.c (.ref k8 0))), (9, P' (.lst d.length (d.map pI)))] ∧ SlS encZ 7 l0 L ((k8, .cells [.p (pI c.f), .p (.fnc c.g), .p (.fnc c.w)] false) :: M) c6 y.s) ?_ ?_
        · refine Wc.seq ?_
          refine Wc.reg fun K hK => ?_; simp only [go_sem, ti3, ti9, ti77, ti4, ti35, ti105, ti48, ti24, ti57, ti96, ti136, ti134, hF]; refine hK _ _ ?_; clear hK K
          refine Wc.cond (t := ((i : Int) == 0)) (by simp only [go_sem, ti3, ti9, ti77, ti4, ti35, ti105, ti48, ti24, ti57, ti96, ti136, ti134, hF]) (fun hc => ?_) (fun hc => ?_)
          · have hi00 : i = 0 := by have : (i : Int) = 0 := by simpa using hc
                                    omega
            rw [if_pos hi00] at hl0
            have hll := hi0 hi00
            subst hll
            have ho0 := ho.oa
            by_cases hd0 : d.length = 0
            · have hsz : (((72 : Nat) : Int) * 0 ≤ 140737488355328) = True := by simp
              have hdi : ((d.length : Nat) : Int) = 0 := by omega
              refine Wc.reg fun K hK => ?_; simp only [go_sem, ti3, ti9, ti77, ti4, ti35, ti105, ti48, ti24, ti57, ti96, ti136, ti134, hF, hdi, hsz]; refine hK _ _ ?_; clear hK K
              refine ⟨rfl, .own 0 [] (s1.nx + 16 + 2), rfl, by simp only [Fs, Int.natCast_zero, go_sem, ti3, ti9, ti77, ti4, ti35, ti105, ti48, ti24, ti57, ti96, ti136, ti134, hF, hdi], ?_⟩
              subst hl0
              rw [hd0]
              refine .inl ⟨rfl, .inr ⟨_, rfl⟩, (OA.put (k := s1.nx + 16 + 2) ho0.adv.adv.adv.adv (by omega)).mono (by simp only [St.nx_put, St.nx_adv]; omega)⟩
            · have hm1 : (((72 : Nat) : Int) * (d.length : Int) ≤ 140737488355328) = True := by simp only [eq_iff_iff, iff_true]; omega
              have hm2 : ((d.length : Int) ≤ 9223372036854775807) = True := by simp only [eq_iff_iff, iff_true]; omega
              have hm3 : ((d.length : Int) = 0) = False := by simp only [eq_iff_iff, iff_false]; omega
              refine Wc.reg fun K hK => ?_; simp only [go_sem, ti3, ti9, ti77, ti4, ti35, ti105, ti48, ti24, ti57, ti96, ti136, ti134, hF, hm1, hm2, hm3, Int.le_refl]; refine hK _ _ ?_; clear hK K
              refine ⟨rfl, .mt (s1.nx + 16 + 2) 0 d.length 7, rfl, by simp only [Fs, Int.natCast_zero, go_sem, ti3, ti9, ti77, ti4, ti35, ti105, ti48, ti24, ti57, ti96, ti136, ti134, hF], ?_⟩
              subst hl0
              obtain ⟨zz, hz1, hz2⟩ := hz
              rw [ti57] at hz1
              cases hz1
              simp only [Option.some.injEq] at hz2
              rw [hz2]
              refine .inr ⟨_, by rw [List.length_replicate], ?_, by intro e; have := congrArg List.length e; rw [List.length_replicate, List.length_nil] at this; exact hd0 this⟩
              rw [← repl_flat]
              exact by simp only [St.nx_put, St.nx_adv]; repeat (first | exact OA.mono ho0 (by omega) | refine OA.newB ?_ (by omega) rfl | refine OA.advB ?_)
          · have hi00 : ¬ i = 0 := by have : ¬ (i : Int) = 0 := by simpa using hc
                                      omega
            rw [if_neg hi00] at hl0
            subst hl0
            exact Wc.skip ⟨rfl, c6, rfl, by simp only [Fs, Int.natCast_zero, go_sem, ti3, ti9, ti77, ti4, ti35, ti105, ti48, ti24, ti57, ti96, ti136, ti134, hF], (by repeat (first | exact ho | refine SlS.adv ?_))⟩
        clear hF ho g8 hoM e s1 hi0
        rintro ⟨e, ds, s1⟩ ⟨c6, rfl, hF, ho⟩
        simp only [Fs] at hF ho
        have hoM : OA s1.nx s1 L M := ho.oa.sub (List.Sublist.refl _) (List.sublist_cons_self _ _)
        have hlen6 : lenD E0 24 (.v (.c c6)) = some (.v (.c (.p (.int .i64 (l0.length : Int))))) := ho.len ti24 rfl
        refine Wc.seq (Wc.seq ?_)
        refine Wc.reg fun K hK => ?_; simp only [go_sem, ti3, ti9, ti77, ti4, ti35, ti105, ti48, ti24, ti57, ti96, ti136, ti134, hF, hlen6]; refine hK _ _ ?_; clear hK K
        refine Wc.cond (t := ((d.length : Int) != (l0.length : Int))) (by simp only [go_sem, ti3, ti9, ti77, ti4, ti35, ti105, ti48, ti24, ti57, ti96, ti136, ti134, hF]) (fun hc => ?_) (fun hc => ?_)
        · have h1 : d.length ≠ l0.length := by have : ¬ (d.length : Int) = (l0.length : Int) := by simpa using hc
                                               omega
          rw [if_pos (.inr h1)] at hU1
          refine Wc.seq ?_
          refine Wc.reg fun K hK => ?_; simp only [go_sem, ti3, ti9, ti77, ti4, ti35, ti105, ti48, ti24, ti57, ti96, ti136, ti134, hF]; refine hK _ _ ?_; clear hK K
          exact Wc.ret (show bodyQ E0 Tryz.f118 K .ret _ from Op.ret [.tmp 4, .tmp 5] [.c .nils, .c (.p (.bool false))] rfl rfl (by simp only [resultsD, go_sem, ti3, ti9, ti77, ti4, ti35, ti105, ti48, ti24, ti57, ti96, ti136, ti134, hF]) (hK0 hU1 _ (by simp only [St.nx_put, St.nx_adv]; repeat (first | exact OA.mono hoM (by omega) | refine OA.newB ?_ (by omega) rfl | refine OA.advB ?_))))
        have h1 : d.length = l0.length := by have : (d.length : Int) = (l0.length : Int) := by simpa using hc
                                             omega
        rw [if_neg (by rintro (h | h) <;> contradiction)] at hU1
        refine Wc.skip ?_
        refine Wc.seq ?_
        refine Wc.reg fun K hK => ?_; simp only [go_sem, ti3, ti9, ti77, ti4, ti35, ti105, ti48, ti24, ti57, ti96, ti136, ti134, hF, Int.natCast_zero]; refine hK _ _ ?_; clear hK K
        refine Wc.block (Wc.loop (fun q y => ∃ j : Nat, q = d.length - j ∧ j ≤ d.length ∧ y.ds = [] ∧ Fs y.e 59 [(0, P' (.lst ss.length (ss.map .str))), (13, P' (.lst cols.length (cols.flatMap ColU.pd))), (14, P' (pI cols.length)), (15, P' (pI i)), (6, .v (.c c6)), (7, P' (pI i)), (8, .v (.c (.ref k8 0))), (42, P' (.lst d.length (d.map pI))), (43, P' (pI d.length)), (44, P' (pI j))] ∧ SlS encZ 7 (prog c.set l0 d j) L ((k8, .cells [.p (pI c.f), .p (.fnc c.g), .p (.fnc c.w)] false) :: M) c6 y.s) ?_ (k := d.length) ?_)
        · clear hF ho hoM hlen6 e s1
          rintro q ⟨e, ds, s1⟩ ⟨j, rfl, hj, rfl, hF, ho⟩
          simp only [Fs] at hF ho
          refine Wc.seq ?_
          refine Wc.reg fun K hK => ?_; simp only [go_sem, ti3, ti9, ti77, ti4, ti35, ti105, ti48, ti24, ti57, ti96, ti136, ti134, hF]; refine hK _ _ ?_; clear hK K
          refine Wc.seq (Wc.cond (t := decide ((j : Int) < d.length)) (by simp only [go_sem, ti3, ti9, ti77, ti4, ti35, ti105, ti48, ti24, ti57, ti96, ti136, ti134, hF]) (fun hc => ?_) (fun hc => ?_))
          · have hjl : j < d.length := by have : (j : Int) < d.length := by simpa using hc
                                          omega
            obtain ⟨n, hn⟩ : ∃ n, d[j]? = some n := ⟨d[j], List.getElem?_eq_getElem hjl⟩
            obtain ⟨a, ha⟩ : ∃ a, l0[j]? = some a := ⟨l0[j], List.getElem?_eq_getElem (by omega)⟩
            have hin := ixA ti77 rfl ti3 (j := j) (m := d.length) (cs := d.map pI) hjl (by simp) (by decide)
            have hcn := rpA (off := j) (drop_map pI hn) (by simp; omega)
            obtain ⟨p1, p2⟩ := prog_step c.set ha hn
            have hpl := prog_len c.set l0 d j h1
            have hpl2 := prog_len c.set l0 d (j + 1) h1
            obtain ⟨k6, rfl, ho6⟩ := ho.mt (by rw [p1]; simp)
            rw [p1, flat_mid] at ho6
            have g8 := ho6.at_ ((k8, .cells [.p (pI c.f), .p (.fnc c.g), .p (.fnc c.w)] false)) (by simp)
            simp only at g8
            have hi6 := ixM ti24 rfl ti57 (r := k6) (off := 0) (j := j) (m := (prog c.set l0 d j).length) (es := 7) (by omega) rfl
            have hpre : ((List.zipWith c.set (l0.take j) (d.take j)).flatMap encZ).length = j * 7 := by
              rw [flatC_len hel, List.length_zipWith, List.length_take, List.length_take]
              congr 1
              omega
            refine Wc.skip (Wc.seq (Wc.block (Wc.seq ?_)))
            refine Wc.reg fun K hK => ?_; simp only [go_sem, ti3, ti9, ti77, ti4, ti35, ti105, ti48, ti24, ti57, ti96, ti136, ti134, hF, hin, hcn]; refine hK _ _ ?_; clear hK K
            refine Wc.regT fun K hK => ?_; simp only [go_sem, ti3, ti9, ti77, ti4, ti35, ti105, ti48, ti24, ti57, ti96, ti136, ti134, hF, g8, hi6, hxt, hopn]
            refine hset (M1 := []) (OA.mono (ho6.adv.adv.adv) (by simp only [St.nx_adv]; omega)) hpre.symm fun s2 ho2 => ?_
            simp only [go_sem, ti3, ti9, ti77, ti4, ti35, ti105, ti48, ti24, ti57, ti96, ti136, ti134, hF, g8, hi6, hxt, hopn]
            refine ⟨by rfl, hK _ _ ?_⟩
            clear hK K
            refine Wc.reg fun K hK => ?_; simp only [go_sem, ti3, ti9, ti77, ti4, ti35, ti105, ti48, ti24, ti57, ti96, ti136, ti134, hF, i64n j (by omega)]; refine hK _ _ ?_; clear hK K
            refine ⟨d.length - (j + 1), by omega, j + 1, rfl, by omega, rfl, by simp only [Fs, Int.natCast_zero, go_sem, ti3, ti9, ti77, ti4, ti35, ti105, ti48, ti24, ti57, ti96, ti136, ti134, hF], .inr ⟨k6, ?_, ?_, ?_⟩⟩
            · rw [hpl, hpl2]
            · rw [p2, flat_mid]
              exact by simp only [St.nx_put, St.nx_adv]; repeat (first | exact OA.mono ho2 (by omega) | refine OA.newB ?_ (by omega) rfl | refine OA.advB ?_)
            · rw [p2]; simp
          · have hjl : j = d.length := by have : ¬ (j : Int) < d.length := by simpa using hc
                                          omega
            subst hjl
            rw [prog_all _ h1] at ho
            refine Wc.exit ?_
            refine Wc.reg fun K hK => ?_; simp only [go_sem, ti3, ti9, ti77, ti4, ti35, ti105, ti48, ti24, ti57, ti96, ti136, ti134, hF, i64n i (by omega)]; refine hK _ _ ?_; clear hK K
            exact ⟨cols.length - (i + 1), by omega, i + 1, _, c6, rfl, by omega, rfl, by simp only [Fs, Int.natCast_zero, go_sem, ti3, ti9, ti77, ti4, ti35, ti105, ti48, ti24, ti57, ti96, ti136, ti134, hF], (SlS.drop (x := (k8, .cells [.p (pI c.f), .p (.fnc c.g), .p (.fnc c.w)] false)) (by repeat (first | exact ho | refine SlS.adv ?_))), fun h => by omega, fun _ => hU1⟩
        · exact ⟨0, rfl, by omega, rfl, by simp only [Fs, Int.natCast_zero, go_sem, ti3, ti9, ti77, ti4, ti35, ti105, ti48, ti24, ti57, ti96, ti136, ti134, hF], by rw [prog_0]; exact (by repeat (first | exact ho | refine SlS.adv ?_))⟩
      · have hil : i = cols.length := by have : ¬ (i : Int) < cols.length := by simpa using hc
                                         omega
        subst hil
        refine Wc.exit ⟨l, c6, ?_, rfl, by simp only [Fs, Int.natCast_zero, go_sem, ti3, ti9, ti77, ti4, ti35, ti105, ti48, ti24, ti57, ti96, ti136, ti134, hF], ho.adv (n := 1)⟩
        by_cases h0 : cols.length = 0
        · rw [hi0 h0, ← hU]
          have : cols = [] := List.length_eq_zero_iff.1 h0
          subst this; rfl
        · rw [hUi (by omega), List.drop_of_length_le (by simp)]
          unfold unpkG; rfl
    · exact ⟨0, [], .nils, rfl, by omega, rfl, by simp only [Fs, Int.natCast_zero, go_sem, ti3, ti9, ti77, ti4, ti35, ti105, ti48, ti24, ti57, ti96, ti136, ti134], .inl ⟨rfl, .inl rfl, by simp only [St.nx_put, St.nx_adv]; repeat (first | exact OA.mono h (by omega) | refine OA.newB ?_ (by omega) rfl | refine OA.advB ?_)⟩, fun _ => rfl, fun h => by omega⟩
  rintro ⟨e, ds, s1⟩ ⟨l, c6, hUl, rfl, hF, ho⟩
  simp only [Fs] at hF ho
  refine Wc.seq ?_
  refine Wc.reg fun K hK => ?_; simp only [go_sem, ti3, ti9, ti77, ti4, ti35, ti105, ti48, ti24, ti57, ti96, ti136, ti134, hF]; refine hK _ _ ?_; clear hK K
  exact Wc.ret (show bodyQ E0 Tryz.f118 K .ret _ from Op.ret [.tmp 4, .tmp 5] [.c c6, .c (.p (.bool true))] rfl rfl (by simp only [resultsD, go_sem, ti3, ti9, ti77, ti4, ti35, ti105, ti48, ti24, ti57, ti96, ti136, ti134, hF]) (hK1 l hUl _ c6 (ho.adv (n := 3))))
end Go.Proofs.YtafaoldmemcigaaGreat.Ab
namespace Go.Proofs.YtafaoldmemcigaaGreat.Ab
set_option maxHeartbeats 8000000
set_option maxRecDepth 10000
set_option linter.unusedSimpArgs false
set_option linter.unusedVariables false
/-- 120: unpack, a walk -/
theorem uw120 {s : St} {L : List (Nat × D × Nat × List Pd)} {M : List (Nat × Ob)} {z : I2} {cols : List (ColU I2)} {ss : List (List UInt8)} {K : D → St → Prop} (h : OA s.nx s L M) (hz : ∃ zz, E0.ti 83 = some zz ∧ zz.zero = some (encP z)) (hcl : cols.length < 2^20) (hsl : ss.length = cols.length)
    (hss : ∀ x ∈ ss, x.length < 2^40) (hcol : ∀ c ∈ cols, SetOK encP c) (hel : ∀ a : I2, (encP a).length = 2)
    (hK0 : unpk z (cols.map ColU.r) ss = none → ∀ s', OA s'.nx s' L M → K (.tup [.c .nils, .c (.p (.bool false))]) s')
    (hK1 : ∀ l, unpk z (cols.map ColU.r) ss = some l → ∀ s' c6, SlS encP 2 l L M c6 s' → K (.tup [.c c6, .c (.p (.bool true))]) s') :
    Wc E0 none (Tryz.f120.body.get rfl) { e := [V.c (.p (.lst ss.length (ss.map .str))), V.c (.p (.lst cols.length (cols.flatMap ColU.pd)))].map .v ++ List.replicate (Tryz.f120.ntmps - 2) (.tup []), ds := [], s := s } (bodyQ E0 Tryz.f120 K) := by
  show Wc E0 none _ _ _
  simp only [List.map_cons, List.map_nil, List.cons_append, List.nil_append, List.length_cons, List.length_nil, Tryz.ntmps120, List.replicate, Nat.reduceSub, Nat.reduceAdd]
  generalize hU : unpk z (cols.map ColU.r) ss = U at hK0 hK1
  refine Wc.seq ?_
  refine Wc.reg fun K hK => ?_; simp only [go_sem, ti3, ti9, ti77, ti4, ti35, ti105, ti48, ti53, ti83, ti99, ti142, ti140]; refine hK _ _ ?_; clear hK K
  refine Wc.seq ?_
  refine Wc.reg fun K hK => ?_; simp only [go_sem, ti3, ti9, ti77, ti4, ti35, ti105, ti48, ti53, ti83, ti99, ti142, ti140]; refine hK _ _ ?_; clear hK K
  refine Wc.seqR (fun y => ∃ (l : List I2) (c6 : C), U = some l ∧ y.ds = [] ∧ Fs y.e 59 [(6, .v (.c c6))] ∧ SlS encP 2 l L M c6 y.s) ?_ ?_
  · refine Wc.seq ?_
    refine Wc.reg fun K hK => ?_; simp only [go_sem, ti3, ti9, ti77, ti4, ti35, ti105, ti48, ti53, ti83, ti99, ti142, ti140, Int.natCast_zero]; refine hK _ _ ?_; clear hK K
    refine Wc.block (Wc.loop (fun k y => ∃ (i : Nat) (l : List I2) (c6 : C), k = cols.length - i ∧ i ≤ cols.length ∧ y.ds = [] ∧ Fs y.e 59 [(0, P' (.lst ss.length (ss.map .str))), (13, P' (.lst cols.length (cols.flatMap ColU.pd))), (14, P' (pI cols.length)), (15, P' (pI i)), (6, .v (.c c6))] ∧ SlS encP 2 l L M c6 y.s ∧ (i = 0 → l = []) ∧ (0 < i → U = unpkG ((cols.map ColU.r).drop i) (ss.drop i) l)) ?_ (k := cols.length) ?_)
    · rintro k ⟨e, ds, s1⟩ ⟨i, l, c6, rfl, hi, rfl, hF, ho, hi0, hUi⟩
      simp only [Fs] at hF ho
      refine Wc.seq ?_
      refine Wc.reg fun K hK => ?_; simp only [go_sem, ti3, ti9, ti77, ti4, ti35, ti105, ti48, ti53, ti83, ti99, ti142, ti140, hF]; refine hK _ _ ?_; clear hK K
      refine Wc.seq (Wc.cond (t := decide ((i : Int) < cols.length)) (by simp only [go_sem, ti3, ti9, ti77, ti4, ti35, ti105, ti48, ti53, ti83, ti99, ti142, ti140, hF]) (fun hc => ?_) (fun hc => ?_))
      · have hil : i < cols.length := by have : (i : Int) < cols.length := by simpa using hc
                                         omega
        obtain ⟨c, hc1⟩ : ∃ c, cols[i]? = some c := ⟨cols[i], List.getElem?_eq_getElem hil⟩
        obtain ⟨x, hx1⟩ : ∃ x, ss[i]? = some x := ⟨ss[i], List.getElem?_eq_getElem (by omega)⟩
        have hxl := hss x (List.mem_of_getElem? hx1)
        obtain ⟨hxt, hopn, hset⟩ := hcol c (List.mem_of_getElem? hc1)
        have hcr : (cols.map ColU.r).drop i = c.r :: (cols.map ColU.r).drop (i + 1) := by
          rw [← List.map_drop, List.drop_eq_getElem_cons hil, (List.getElem?_eq_some_iff.1 hc1).2, List.map_cons, List.map_drop]
        have hxr : ss.drop i = x :: ss.drop (i + 1) := by rw [List.drop_eq_getElem_cons (by omega), (List.getElem?_eq_some_iff.1 hx1).2]
        have hU1 : U = if (decF c.f x).2 ≠ 0 ∨ (decF c.f x).1.length ≠ (if i = 0 then List.replicate (decF c.f x).1.length z else l).length then none else unpkG ((cols.map ColU.r).drop (i + 1)) (ss.drop (i + 1)) (List.zipWith c.set (if i = 0 then List.replicate (decF c.f x).1.length z else l) (decF c.f x).1) := by
          by_cases h0 : i = 0
          · subst h0
            rw [List.drop_zero] at hcr hxr
            rw [← hU, hcr, hxr, if_pos rfl, unpk_first]
            rfl
          · rw [hUi (by omega), hcr, hxr, if_neg h0]
            rfl
        clear hUi hcr hxr
        have hic := ixA ti99 rfl ti142 (j := i) (m := cols.length) (cs := cols.flatMap ColU.pd) hil (by rw [flat_len (k := 3) (fun _ => rfl)]) (by decide)
        have hca := rpA (off := i * 3) (drop_flat (f := ColU.pd) (k := 3) (fun _ => rfl) hc1) (by rw [flat_len (k := 3) (fun _ => rfl)]; omega)
        have his := ixA ti48 rfl ti9 (j := i) (m := ss.length) (cs := ss.map .str) (by omega) (by simp) (by decide)
        have hcs := rpA (off := i) (drop_map Pd.str hx1) (by simp; omega)
        refine Wc.skip (Wc.seq (Wc.block ?_))
        refine Wc.seqA (fun y => ∃ k8, y.ds = [] ∧ Fs y.e 59 [(0, P' (.lst ss.length (ss.map .str))), (13, P' (.lst cols.length (cols.flatMap ColU.pd))), (14, P' (pI cols.length)), (15, P' (pI i)), (6, .v (.c c6)), (7, P' (pI i)), (8, .v (.c (.ref k8 0)))] ∧ SlS encP 2 l L ((k8, .cells [.p (pI c.f), .p (.fnc c.g), .p (.fnc c.w)] false) :: M) c6 y.s) ?_ ?_
        · refine Wc.reg fun K hK => ?_; simp only [go_sem, ti3, ti9, ti77, ti4, ti35, ti105, ti48, ti53, ti83, ti99, ti142, ti140, hF, hic, hca]; refine hK _ _ ?_; clear hK K
          exact ⟨rfl, s1.nx + 1 + 3, rfl, by simp only [Fs, Int.natCast_zero, go_sem, ti3, ti9, ti77, ti4, ti35, ti105, ti48, ti53, ti83, ti99, ti142, ti140, hF], (ho.adv (n := 1)).newB (n := 6) (k := s1.nx + 1 + 3) (by simp only [St.nx_adv]; omega) (by simp only [St.nx_adv]; omega) rfl⟩
        clear hF ho e s1
        rintro ⟨e, ds, s1⟩ ⟨k8, rfl, hF, ho⟩
        simp only [Fs] at hF ho
        have g8 := ho.at8 (k8, .cells [.p (pI c.f), .p (.fnc c.g), .p (.fnc c.w)] false) (by simp)
        simp only at g8
        refine Wc.seq ?_
        refine Wc.regD fun K hK => ?_; simp only [go_sem, ti3, ti9, ti77, ti4, ti35, ti105, ti48, ti53, ti83, ti99, ti142, ti140, hF, g8, his, hcs]
        refine ⟨by simp [o122, x122, plainD, plainV, plainC], ?_⟩
        refine wpCall.pf (pf122 c.f x hxl) x122 o122 rfl rfl ?_
        simp only [go_sem, ti3, ti9, ti77, ti4, ti35, ti105, ti48, ti53, ti83, ti99, ti142, ti140, hF]; refine hK _ _ ?_; clear hK K
        have hoM : OA s1.nx s1 L M := ho.oa.sub (List.Sublist.refl _) (List.sublist_cons_self _ _)
        have hdl : (decF c.f x).1.length ≤ 20001 := decF_len _ _
        generalize hd : decF c.f x = d at *
        obtain ⟨d, er⟩ := d
        simp only at hU1 hdl
        refine Wc.seq (Wc.seq ?_)
        refine Wc.reg fun K hK => ?_; simp only [go_sem, ti3, ti9, ti77, ti4, ti35, ti105, ti48, ti53, ti83, ti99, ti142, ti140, hF]; refine hK _ _ ?_; clear hK K
        refine Wc.cond (t := (er != 0)) (by simp only [go_sem, ti3, ti9, ti77, ti4, ti35, ti105, ti48, ti53, ti83, ti99, ti142, ti140, hF]) (fun hc => ?_) (fun hc => ?_)
        · have h0 : er ≠ 0 := by simpa using hc
          rw [if_pos (.inl h0)] at hU1
          refine Wc.seq ?_
          refine Wc.reg fun K hK => ?_; simp only [go_sem, ti3, ti9, ti77, ti4, ti35, ti105, ti48, ti53, ti83, ti99, ti142, ti140, hF]; refine hK _ _ ?_; clear hK K
          exact Wc.ret (show bodyQ E0 Tryz.f120 K .ret _ from Op.ret [.tmp 4, .tmp 5] [.c .nils, .c (.p (.bool false))] rfl rfl (by simp only [resultsD, go_sem, ti3, ti9, ti77, ti4, ti35, ti105, ti48, ti53, ti83, ti99, ti142, ti140, hF]) (hK0 hU1 _ (by simp only [St.nx_put, St.nx_adv]; repeat (first | exact OA.mono hoM (by omega) | refine OA.newB ?_ (by omega) rfl | refine OA.advB ?_))))
        have h0 : er = 0 := by simpa using hc
        generalize hl0 : (if i = 0 then List.replicate d.length z else l) = l0 at hU1
        refine Wc.skip ?_
        refine Wc.seqA (fun y => ∃ c6, y.ds = [] ∧ Fs y.e 59 [(0, P' (.lst ss.length (ss.map .str))), (13, P' (.lst cols.length (cols.flatMap ColU.pd))), (14, P' (pI cols.length)), (15, P' (pI i)), (6, .v (.c c6)), (7, P' (pI i)), (8, .v (.c (.ref k8 0))), (9, P' (.lst d.length (d.map pI)))] ∧ SlS encP 2 l0 L ((k8, .cells [.p (pI c.f), .p (.fnc c.g), .p (.fnc c.w)] false) :: M) c6 y.s) ?_ ?_
        · refine Wc.seq ?_
          refine Wc.reg fun K hK => ?_; simp only [go_sem, ti3, ti9, ti77, ti4, ti35, ti105, ti48, ti53, ti83, ti99, ti142, ti140, hF]; refine hK _ _ ?_; clear hK K
          refine Wc.cond (t := ((i : Int) == 0)) (by simp only [go_sem, ti3, ti9, ti77, ti4, ti35, ti105, ti48, ti53, ti83, ti99, ti142, ti140, hF]) (fun hc => ?_) (fun hc => ?_)
          · have hi00 : i = 0 := by have : (i : Int) = 0 := by simpa using hc
                                    omega
            rw [if_pos hi00] at hl0
            have hll := hi0 hi00
            subst hll
            have ho0 := ho.oa
            by_cases hd0 : d.length = 0
            · have hsz : (((16 : Nat) : Int) * 0 ≤ 140737488355328) = True := by simp
              have hdi : ((d.length : Nat) : Int) = 0 := by omega
              refine Wc.reg fun K hK => ?_; simp only [go_sem, ti3, ti9, ti77, ti4, ti35, ti105, ti48, ti53, ti83, ti99, ti142, ti140, hF, hdi, hsz]; refine hK _ _ ?_; clear hK K
              refine ⟨rfl, .own 0 [] (s1.nx + 16 + 2), rfl, by simp only [Fs, Int.natCast_zero, go_sem, ti3, ti9, ti77, ti4, ti35, ti105, ti48, ti53, ti83, ti99, ti142, ti140, hF, hdi], ?_⟩
              subst hl0
              rw [hd0]
              refine .inl ⟨rfl, .inr ⟨_, rfl⟩, (OA.put (k := s1.nx + 16 + 2) ho0.adv.adv.adv.adv (by omega)).mono (by simp only [St.nx_put, St.nx_adv]; omega)⟩
            · have hm1 : (((16 : Nat) : Int) * (d.length : Int) ≤ 140737488355328) = True := by simp only [eq_iff_iff, iff_true]; omega
              have hm2 : ((d.length : Int) ≤ 9223372036854775807) = True := by simp only [eq_iff_iff, iff_true]; omega
              have hm3 : ((d.length : Int) = 0) = False := by simp only [eq_iff_iff, iff_false]; omega
              refine Wc.reg fun K hK => ?_; simp only [go_sem, ti3, ti9, ti77, ti4, ti35, ti105, ti48, ti53, ti83, ti99, ti142, ti140, hF, hm1, hm2, hm3, Int.le_refl]; refine hK _ _ ?_; clear hK K
              refine ⟨rfl, .mt (s1.nx + 16 + 2) 0 d.length 2, rfl, by simp only [Fs, Int.natCast_zero, go_sem, ti3, ti9, ti77, ti4, ti35, ti105, ti48, ti53, ti83, ti99, ti142, ti140, hF], ?_⟩
              subst hl0
              obtain ⟨zz, hz1, hz2⟩ := hz
              rw [ti83] at hz1
              cases hz1
              simp only [Option.some.injEq] at hz2
              rw [hz2]
              refine .inr ⟨_, by rw [List.length_replicate], ?_, by intro e; have := congrArg List.length e; rw [List.length_replicate, List.length_nil] at this; exact hd0 this⟩
              rw [← repl_flat]
              exact by simp only [St.nx_put, St.nx_adv]; repeat (first | exact OA.mono ho0 (by omega) | refine OA.newB ?_ (by omega) rfl | refine OA.advB ?_)
          · have hi00 : ¬ i = 0 := by have : ¬ (i : Int) = 0 := by simpa using hc
                                      omega
            rw [if_neg hi00] at hl0
            subst hl0
            exact Wc.skip ⟨rfl, c6, rfl, by simp only [Fs, Int.natCast_zero, go_sem, ti3, ti9, ti77, ti4, ti35, ti105, ti48, ti53, ti83, ti99, ti142, ti140, hF], (by repeat (first | exact ho | refine SlS.adv ?_))⟩
        clear hF ho g8 hoM e s1 hi0
        rintro ⟨e, ds, s1⟩ ⟨c6, rfl, hF, ho⟩
        simp only [Fs] at hF ho
        have hoM : OA s1.nx s1 L M := ho.oa.sub (List.Sublist.refl _) (List.sublist_cons_self _ _)
        have hlen6 : lenD E0 53 (.v (.c c6)) = some (.v (.c (.p (.int .i64 (l0.length : Int))))) := ho.len ti53 rfl
        refine Wc.seq (Wc.seq ?_)
        refine Wc.reg fun K hK => ?_; simp only [go_sem, ti3, ti9, ti77, ti4, ti35, ti105, ti48, ti53, ti83, ti99, ti142, ti140, hF, hlen6]; refine hK _ _ ?_; clear hK K
        refine Wc.cond (t := ((d.length : Int) != (l0.length : Int))) (by simp only [go_sem, ti3, ti9, ti77, ti4, ti35, ti105, ti48, ti53, ti83, ti99, ti142, ti140, hF]) (fun hc => ?_) (fun hc => ?_)
        · have h1 : d.length ≠ l0.length := by have : ¬ (d.length : Int) = (l0.length : Int) := by simpa using hc
                                               omega
          rw [if_pos (.inr h1)] at hU1
          refine Wc.seq ?_
          refine Wc.reg fun K hK => ?_; simp only [go_sem, ti3, ti9, ti77, ti4, ti35, ti105, ti48, ti53, ti83, ti99, ti142, ti140, hF]; refine hK _ _ ?_; clear hK K
          exact Wc.ret (show bodyQ E0 Tryz.f120 K .ret _ from Op.ret [.tmp 4, .tmp 5] [.c .nils, .c (.p (.bool false))] rfl rfl (by simp only [resultsD, go_sem, ti3, ti9, ti77, ti4, ti35, ti105, ti48, ti53, ti83, ti99, ti142, ti140, hF]) (hK0 hU1 _ (by simp only [St.nx_put, St.nx_adv]; repeat (first | exact OA.mono hoM (by omega) | refine OA.newB ?_ (by omega) rfl | refine OA.advB ?_))))
        have h1 : d.length = l0.length := by have : (d.length : Int) = (l0.length : Int) := by simpa using hc
                                             omega
        rw [if_neg (by rintro (h | h) <;> contradiction)] at hU1
        refine Wc.skip ?_
        refine Wc.seq ?_
        refine Wc.reg fun K hK => ?_; simp only [go_sem, ti3, ti9, ti77, ti4, ti35, ti105, ti48, ti53, ti83, ti99, ti142, ti140, hF, Int.natCast_zero]; refine hK _ _ ?_; clear hK K
        refine Wc.block (Wc.loop (fun q y => ∃ j : Nat, q = d.length - j ∧ j ≤ d.length ∧ y.ds = [] ∧ Fs y.e 59 [(0, P' (.lst ss.length (ss.map .str))), (13, P' (.lst cols.length (cols.flatMap ColU.pd))), (14, P' (pI cols.length)), (15, P' (pI i)), (6, .v (.c c6)), (7, P' (pI i)), (8, .v (.c (.ref k8 0))), (42, P' (.lst d.length (d.map pI))), (43, P' (pI d.length)), (44, P' (pI j))] ∧ SlS encP 2 (prog c.set l0 d j) L ((k8, .cells [.p (pI c.f), .p (.fnc c.g), .p (.fnc c.w)] false) :: M) c6 y.s) ?_ (k := d.length) ?_)
        · clear hF ho hoM hlen6 e s1
          rintro q ⟨e, ds, s1⟩ ⟨j, rfl, hj, rfl, hF, ho⟩
          simp only [Fs] at hF ho
          refine Wc.seq ?_
          refine Wc.reg fun K hK => ?_; simp only [go_sem, ti3, ti9, ti77, ti4, ti35, ti105, ti48, ti53, ti83, ti99, ti142, ti140, hF]; refine hK _ _ ?_; clear hK K
          refine Wc.seq (Wc.cond (t := decide ((j : Int) < d.length)) (by simp only [go_sem, ti3, ti9, ti77, ti4, ti35, ti105, ti48, ti53, ti83, ti99, ti142, ti140, hF]) (fun hc => ?_) (fun hc => ?_))
          · have hjl : j < d.length := by have : (j : Int) < d.length := by simpa using hc
                                          omega
            obtain ⟨n, hn⟩ : ∃ n, d[j]? = some n := ⟨d[j], List.getElem?_eq_getElem hjl⟩
            obtain ⟨a, ha⟩ : ∃ a, l0[j]? = some a := ⟨l0[j], List.getElem?_eq_getElem (by omega)⟩
            have hin := ixA ti77 rfl ti3 (j := j) (m := d.length) (cs := d.map pI) hjl (by simp) (by decide)
            have hcn := rpA (off := j) (drop_map pI hn) (by simp; omega)
            obtain ⟨p1, p2⟩ := prog_step c.set ha hn
            have hpl := prog_len c.set l0 d j h1
            have hpl2 := prog_len c.set l0 d (j + 1) h1
            obtain ⟨k6, rfl, ho6⟩ := ho.mt (by rw [p1]; simp)
            rw [p1, flat_mid] at ho6
            have g8 := ho6.at_ ((k8, .cells [.p (pI c.f), .p (.fnc c.g), .p (.fnc c.w)] false)) (by simp)
            simp only at g8
            have hi6 := ixM ti53 rfl ti83 (r := k6) (off := 0) (j := j) (m := (prog c.set l0 d j).length) (es := 2) (by omega) rfl
            have hpre : ((List.zipWith c.set (l0.take j) (d.take j)).flatMap encP).length = j * 2 := by
              rw [flatC_len hel, List.length_zipWith, List.length_take, List.length_take]
              congr 1
              omega
            refine Wc.skip (Wc.seq (Wc.block (Wc.seq ?_)))
            refine Wc.reg fun K hK => ?_; simp only [go_sem, ti3, ti9, ti77, ti4, ti35, ti105, ti48, ti53, ti83, ti99, ti142, ti140, hF, hin, hcn]; refine hK _ _ ?_; clear hK K
            refine Wc.regT fun K hK => ?_; simp only [go_sem, ti3, ti9, ti77, ti4, ti35, ti105, ti48, ti53, ti83, ti99, ti142, ti140, hF, g8, hi6, hxt, hopn]
            refine hset (M1 := []) (OA.mono (ho6.adv.adv.adv) (by simp only [St.nx_adv]; omega)) hpre.symm fun s2 ho2 => ?_
            simp only [go_sem, ti3, ti9, ti77, ti4, ti35, ti105, ti48, ti53, ti83, ti99, ti142, ti140, hF, g8, hi6, hxt, hopn]
            refine ⟨by rfl, hK _ _ ?_⟩
            clear hK K
            refine Wc.reg fun K hK => ?_; simp only [go_sem, ti3, ti9, ti77, ti4, ti35, ti105, ti48, ti53, ti83, ti99, ti142, ti140, hF, i64n j (by omega)]; refine hK _ _ ?_; clear hK K
            refine ⟨d.length - (j + 1), by omega, j + 1, rfl, by omega, rfl, by simp only [Fs, Int.natCast_zero, go_sem, ti3, ti9, ti77, ti4, ti35, ti105, ti48, ti53, ti83, ti99, ti142, ti140, hF], .inr ⟨k6, ?_, ?_, ?_⟩⟩
            · rw [hpl, hpl2]
            · rw [p2, flat_mid]
              exact by simp only [St.nx_put, St.nx_adv]; repeat (first | exact OA.mono ho2 (by omega) | refine OA.newB ?_ (by omega) rfl | refine OA.advB ?_)
            · rw [p2]; simp
          · have hjl : j = d.length := by have : ¬ (j : Int) < d.length := by simpa using hc
                                          omega
            subst hjl
            rw [prog_all _ h1] at ho
            refine Wc.exit ?_
            refine Wc.reg fun K hK => ?_; simp only [go_sem, ti3, ti9, ti77, ti4, ti35, ti105, ti48, ti53, ti83, ti99, ti142, ti140, hF, i64n i (by omega)]; refine hK _ _ ?_; clear hK K
            exact ⟨cols.length - (i + 1), by omega, i + 1, _, c6, rfl, by omega, rfl, by simp only [Fs, Int.natCast_zero, go_sem, ti3, ti9, ti77, ti4, ti35, ti105, ti48, ti53, ti83, ti99, ti142, ti140, hF], (SlS.drop (x := (k8, .cells [.p (pI c.f), .p (.fnc c.g), .p (.fnc c.w)] false)) (by repeat (first | exact ho | refine SlS.adv ?_))), fun h => by omega, fun _ => hU1⟩
        · exact ⟨0, rfl, by omega, rfl, by simp only [Fs, Int.natCast_zero, go_sem, ti3, ti9, ti77, ti4, ti35, ti105, ti48, ti53, ti83, ti99, ti142, ti140, hF], by rw [prog_0]; exact (by repeat (first | exact ho | refine SlS.adv ?_))⟩
      · have hil : i = cols.length := by have : ¬ (i : Int) < cols.length := by simpa using hc
                                         omega
        subst hil
        refine Wc.exit ⟨l, c6, ?_, rfl, by simp only [Fs, Int.natCast_zero, go_sem, ti3, ti9, ti77, ti4, ti35, ti105, ti48, ti53, ti83, ti99, ti142, ti140, hF], ho.adv (n := 1)⟩
        by_cases h0 : cols.length = 0
        · rw [hi0 h0, ← hU]
          have : cols = [] := List.length_eq_zero_iff.1 h0
          subst this; rfl
        · rw [hUi (by omega), List.drop_of_length_le (by simp)]
          unfold unpkG; rfl
    · exact ⟨0, [], .nils, rfl, by omega, rfl, by simp only [Fs, Int.natCast_zero, go_sem, ti3, ti9, ti77, ti4, ti35, ti105, ti48, ti53, ti83, ti99, ti142, ti140], .inl ⟨rfl, .inl rfl, by simp only [St.nx_put, St.nx_adv]; repeat (first | exact OA.mono h (by omega) | refine OA.newB ?_ (by omega) rfl | refine OA.advB ?_)⟩, fun _ => rfl, fun h => by omega⟩
  rintro ⟨e, ds, s1⟩ ⟨l, c6, hUl, rfl, hF, ho⟩
  simp only [Fs] at hF ho
  refine Wc.seq ?_
  refine Wc.reg fun K hK => ?_; simp only [go_sem, ti3, ti9, ti77, ti4, ti35, ti105, ti48, ti53, ti83, ti99, ti142, ti140, hF]; refine hK _ _ ?_; clear hK K
  exact Wc.ret (show bodyQ E0 Tryz.f120 K .ret _ from Op.ret [.tmp 4, .tmp 5] [.c c6, .c (.p (.bool true))] rfl rfl (by simp only [resultsD, go_sem, ti3, ti9, ti77, ti4, ti35, ti105, ti48, ti53, ti83, ti99, ti142, ti140, hF]) (hK1 l hUl _ c6 (ho.adv (n := 3))))
end Go.Proofs.YtafaoldmemcigaaGreat.Ab
namespace Go.Proofs.YtafaoldmemcigaaGreat.Ab
set_option maxHeartbeats 8000000
set_option maxRecDepth 10000
set_option linter.unusedSimpArgs false
set_option linter.unusedVariables false
theorem flat_mapP {A : Type} (f : A → List Pd) : ∀ l : List A, l.flatMap (fun a => (f a).map C.p) = (l.flatMap f).map .p
  | [] => rfl
  | a :: r => by rw [List.flatMap_cons, List.flatMap_cons, List.map_append, flat_mapP f r]
/-- What unpack returns. -/
def unpR {A : Type} (enc : A → List Pd) : Option (List A) → D
  | none => .tup [.c (.p (.lst 0 [])), .c (.p (.bool false))]
  | some l => .tup [.c (.p (.lst l.length (l.flatMap enc))), .c (.p (.bool true))]
theorem purD_cx {s s1 : St} {c : C} {y x : Pd} (h : purC s c = some (y, s1)) : purD s (.tup [.c c, .c (.p x)]) = some (.tup [.c (.p y), .c (.p x)], s1) := by
  have h0 : purC s1 (.p x) = some (x, s1) := rfl
  simp only [purD, purVs, purV, h, h0]
theorem purD_mt {A : Type} {enc : A → List Pd} {es : Nat} (hes : ∀ a, (enc a).length = es) {l : List A} {L : List (Nat × D × Nat × List Pd)} {M : List (Nat × Ob)} {c6 : C} {s : St} {x : Pd} (h : SlS (fun a => (enc a).map .p) es l L M c6 s) :
    ∃ s', purD s (.tup [.c c6, .c (.p x)]) = some (.tup [.c (.p (.lst l.length (l.flatMap enc))), .c (.p x)], s') := by
  rcases h with ⟨rfl, rfl | ⟨k, rfl⟩, h3⟩ | ⟨k, rfl, h2, h3⟩
  · exact ⟨s, rfl⟩
  · exact ⟨s, rfl⟩
  · have hg := h2.at_ (k, .cells (l.flatMap fun a => (enc a).map .p) false) (by simp)
    simp only [flat_mapP] at hg
    have hpc : purC s (.mt k 0 l.length es) = some (.lst l.length (l.flatMap enc), s.put k (.cells ((l.flatMap enc).map .p) true)) := by
      simp only [purC, hg, allM_purS, List.drop_zero, Nat.zero_add]
      have e : (l.flatMap enc).length = l.length * es := flatC_len hes l
      rw [if_pos (by omega), ← e, List.take_length]
    exact ⟨_, purD_cx hpc⟩
theorem bodyQ.mono {E : Env} {fn : Func} {K K' : D → St → Prop} {ex : Ex} {y : Fr} (h : bodyQ E fn K ex y) (hk : ∀ d s, K d s → K' d s) : bodyQ E fn K' ex y := by
  cases ex with
  | exit i => exact h
  | normal => obtain ⟨s, vs, h1, h2, h3⟩ := h; exact ⟨s, vs, h1, h2, hk _ _ h3⟩
  | ret => obtain ⟨s, vs, h1, h2, h3⟩ := h; exact ⟨s, vs, h1, h2, hk _ _ h3⟩
/-- 81: unpack -/
theorem pf81 (ss : List (List UInt8)) (hl : ss.length = 2) (hss : ∀ x ∈ ss, x.length < 2^40) : Pf E0 81 [.c (.p (.lst ss.length (ss.map .str))), .c (.p (.lst smpU.length (smpU.flatMap ColU.pd)))] (unpR p2 (unpk (0, 0) smpR ss)) := by
  refine Pf.body (fn := Tryz.f81) (by kernel_rfl) rfl ?_
  refine uw81 (L := []) (M := []) (z := ((0, 0) : I2)) (cols := smpU) (ss := ss) s00_oa ⟨_, ti45, rfl⟩ (by decide) hl hss smpU_ok (fun _ => rfl) (fun h s' _ => ?_) (fun l h s' c6 hs => ?_)
  · rw [show unpk (0, 0) smpR ss = none from h]; exact ⟨_, rfl⟩
  · rw [show unpk (0, 0) smpR ss = some l from h]; exact purD_mt (enc := p2) (fun _ => rfl) hs
/-- 120: unpack -/
theorem pf120 (ss : List (List UInt8)) (hl : ss.length = 2) (hss : ∀ x ∈ ss, x.length < 2^40) : Pf E0 120 [.c (.p (.lst ss.length (ss.map .str))), .c (.p (.lst bckU.length (bckU.flatMap ColU.pd)))] (unpR p2 (unpk (0, 0) bckR ss)) := by
  refine Pf.body (fn := Tryz.f120) (by kernel_rfl) rfl ?_
  refine uw120 (L := []) (M := []) (z := ((0, 0) : I2)) (cols := bckU) (ss := ss) s00_oa ⟨_, ti83, rfl⟩ (by decide) hl hss bckU_ok (fun _ => rfl) (fun h s' _ => ?_) (fun l h s' c6 hs => ?_)
  · rw [show unpk (0, 0) bckR ss = none from h]; exact ⟨_, rfl⟩
  · rw [show unpk (0, 0) bckR ss = some l from h]; exact purD_mt (enc := p2) (fun _ => rfl) hs
/-- 118: unpack, in its caller's state -/
theorem call118 {s : St} {L : List (Nat × D × Nat × List Pd)} {M : List (Nat × Ob)} {ss : List (List UInt8)} {K : D → St → Prop} (h : OA s.nx s L M) (hl : ss.length = 5) (hss : ∀ x ∈ ss, x.length < 2^40)
    (hK0 : unpk zHS hstR ss = none → ∀ s', OA s'.nx s' L M → K (.tup [.c .nils, .c (.p (.bool false))]) s')
    (hK1 : ∀ l, unpk zHS hstR ss = some l → ∀ s' c6, SlS encZ 7 l L M c6 s' → K (.tup [.c c6, .c (.p (.bool true))]) s') :
    wpCall E0 (.v (.c (.p (.fnc 118)))) [.v (.c (.p (.lst ss.length (ss.map .str)))), .v (.c (.p (.lst hstU.length (hstU.flatMap ColU.pd))))] s K := by
  refine wpCall.opn (fn := Tryz.f118) (by kernel_rfl) (by kernel_rfl) rfl (by kernel_rfl) rfl ?_
  exact uw118 (L := L) (M := M) (z := zHS) (cols := hstU) (ss := ss) h ⟨_, ti57, rfl⟩ (by decide) hl hss hstU_ok (fun _ => rfl) hK0 hK1
end Go.Proofs.YtafaoldmemcigaaGreat.Ab
