/- A part of the proof: an evaluator of the code, its contracts, the law. No condition. -/
import Derived.Test.YtedcnhbblgmdnaaGreatT29
import Derived.Test.YtedcnhbblgmdnaaGreatT25
namespace Go.Proofs.YtedcnhbblgmdnaaGreat.Ab
set_option maxHeartbeats 8000000
set_option maxRecDepth 10000
set_option linter.unusedSimpArgs false
set_option linter.unusedVariables false
/-- 202: unpack, a walk -/
theorem uw202 {s : St} {L : List (Nat × D × Nat × List Pd)} {M : List (Nat × Ob)} {z : Bkt} {cols : List (ColU Bkt)} {ss : List (List UInt8)} {K : D → St → Prop} (h : OA s.nx s L M) (hz : ∃ zz, E0.ti 41 = some zz ∧ zz.zero = some (encB z)) (hcl : cols.length < 2^20) (hsl : ss.length = cols.length)
    (hss : ∀ x ∈ ss, x.length < 2^40) (hcol : ∀ c ∈ cols, SetOK encB c) (hel : ∀ a : Bkt, (encB a).length = 10)
    (hK0 : unpk z (cols.map ColU.r) ss = none → ∀ s', OA s'.nx s' L M → K (.tup [.c .nils, .c (.p (.bool false))]) s')
    (hK1 : ∀ l, unpk z (cols.map ColU.r) ss = some l → ∀ s' c6, SlS encB 10 l L M c6 s' → K (.tup [.c c6, .c (.p (.bool true))]) s') :
    Wc E0 none (Tryz.f202.body.get rfl) { e := [V.c (.p (.lst ss.length (ss.map .str))), V.c (.p (.lst cols.length (cols.flatMap ColU.pd)))].map .v ++ List.replicate (Tryz.f202.ntmps - 2) (.tup []), ds := [], s := s } (bodyQ E0 Tryz.f202 K) := by
  show Wc E0 none _ _ _
  simp only [List.map_cons, List.map_nil, List.cons_append, List.nil_append, List.length_cons, List.length_nil, Tryz.ntmps202, List.replicate, Nat.reduceSub, Nat.reduceAdd]
  generalize hU : unpk z (cols.map ColU.r) ss = U at hK0 hK1
  refine Wc.seq ?_
  refine Wc.reg fun K hK => ?_; simp only [go_sem, ti3, ti9, ti175, ti4, ti32, ti208, ti155, ti29, ti41, ti158, ti212, ti210]; refine hK _ _ ?_; clear hK K
  refine Wc.seq ?_
  refine Wc.reg fun K hK => ?_; simp only [go_sem, ti3, ti9, ti175, ti4, ti32, ti208, ti155, ti29, ti41, ti158, ti212, ti210]; refine hK _ _ ?_; clear hK K
  refine Wc.seqR (fun y => ∃ (l : List Bkt) (c6 : C), U = some l ∧ y.ds = [] ∧ Fs y.e 59 [(6, .v (.c c6))] ∧ SlS encB 10 l L M c6 y.s) ?_ ?_
  · refine Wc.seq ?_
    refine Wc.reg fun K hK => ?_; simp only [go_sem, ti3, ti9, ti175, ti4, ti32, ti208, ti155, ti29, ti41, ti158, ti212, ti210, Int.natCast_zero]; refine hK _ _ ?_; clear hK K
    refine Wc.block (Wc.loop (fun k y => ∃ (i : Nat) (l : List Bkt) (c6 : C), k = cols.length - i ∧ i ≤ cols.length ∧ y.ds = [] ∧ Fs y.e 59 [(0, P' (.lst ss.length (ss.map .str))), (13, P' (.lst cols.length (cols.flatMap ColU.pd))), (14, P' (pI cols.length)), (15, P' (pI i)), (6, .v (.c c6))] ∧ SlS encB 10 l L M c6 y.s ∧ (i = 0 → l = []) ∧ (0 < i → U = unpkG ((cols.map ColU.r).drop i) (ss.drop i) l)) ?_ (k := cols.length) ?_)
    · rintro k ⟨e, ds, s1⟩ ⟨i, l, c6, rfl, hi, rfl, hF, ho, hi0, hUi⟩
      simp only [Fs] at hF ho
      refine Wc.seq ?_
      refine Wc.reg fun K hK => ?_; simp only [go_sem, ti3, ti9, ti175, ti4, ti32, ti208, ti155, ti29, ti41, ti158, ti212, ti210, hF]; refine hK _ _ ?_; clear hK K
      refine Wc.seq (Wc.cond (t := decide ((i : Int) < cols.length)) (by simp only [go_sem, ti3, ti9, ti175, ti4, ti32, ti208, ti155, ti29, ti41, ti158, ti212, ti210, hF]) (fun hc => ?_) (fun hc => ?_))
      · have hil : i < cols.length := by have : (i : Int) < cols.length := by simpa using hc
                                         omega
        obtain ⟨c, hc1⟩ : ∃ c, cols[i]? = some c := ⟨cols[i], List.getElem?_eq_getElem hil⟩
        obtain ⟨x, hx1⟩ : ∃ x, ss[i]? = some x := ⟨ss[i], List.getElem?_eq_getElem (by omega)⟩
        have hxl := hss x (List.mem_of_getElem? hx1)
        obtain ⟨hxt, hopn, hset⟩ := hcol c (List.mem_of_getElem? hc1)
        have hcr : (cols.map ColU.r).drop i = c.r :: (cols.map ColU.r).drop (i + 1) := by
          rw [← List.map_drop, List.drop_eq_getElem_cons hil, (List.getElem?_eq_some_iff.1 hc1).2, List.map_cons, List.map_drop]
        have hxr : ss.drop i = x :: ss.drop (i + 1) := by rw [List.drop_eq_getElem_cons (by omega), (List.getElem?_eq_some_iff.1 hx1).2]
        have hU1 : U = if (decF c.f x).2 ≠ 0 ∨ (decF c.f x).1.length ≠ (if i = 0 then List.replicate (decF c.f x).1.length z else l).length then none else unpkG ((cols.map ColU.r).drop (i + 1)) (ss.drop (i + 1)) (List.zipWith c.set (if i = 0 then List.replicate (decF c.f x).1.length z else l) (decF c.f x).1) := by
          by_cases h0 : i = 0
          · subst h0
            rw [List.drop_zero] at hcr hxr
            rw [← hU, hcr, hxr, if_pos rfl, unpk_first]
            rfl
          · rw [hUi (by omega), hcr, hxr, if_neg h0]
            rfl
        clear hUi hcr hxr
        have hic := ixA ti158 rfl ti212 (j := i) (m := cols.length) (cs := cols.flatMap ColU.pd) hil (by rw [flat_len (k := 3) (fun _ => rfl)]) (by decide)
        have hca := rpA (off := i * 3) (drop_flat (f := ColU.pd) (k := 3) (fun _ => rfl) hc1) (by rw [flat_len (k := 3) (fun _ => rfl)]; omega)
        have his := ixA ti155 rfl ti9 (j := i) (m := ss.length) (cs := ss.map .str) (by omega) (by simp) (by decide)
        have hcs := rpA (off := i) (drop_map Pd.str hx1) (by simp; omega)
        refine Wc.skip (Wc.seq (Wc.block ?_))
        refine Wc.seqA (fun y => ∃ k8, y.ds = [] ∧ Fs y.e 59 [(0, P' (.lst ss.length (ss.map .str))), (13, P' (.lst cols.length (cols.flatMap ColU.pd))), (14, P' (pI cols.length)), (15, P' (pI i)), (6, .v (.c c6)), (7, P' (pI i)), (8, .v (.c (.ref k8 0)))] ∧ SlS encB 10 l L ((k8, .cells [.p (pI c.f), .p (.fnc c.g), .p (.fnc c.w)] false) :: M) c6 y.s) ?_ ?_
        · refine Wc.reg fun K hK => ?_; simp only [go_sem, ti3, ti9, ti175, ti4, ti32, ti208, ti155, ti29, ti41, ti158, ti212, ti210, hF, hic, hca]; refine hK _ _ ?_; clear hK K
          exact ⟨rfl, s1.nx + 1 + 3, rfl, by simp only [Fs, Int.natCast_zero, go_sem, ti3, ti9, ti175, ti4, ti32, ti208, ti155, ti29, ti41, ti158, ti212, ti210, hF], (ho.adv (n := 1)).newB (n := 6) (k := s1.nx + 1 + 3) (by simp only [St.nx_adv]; omega) (by simp only [St.nx_adv]; omega) rfl⟩
        clear hF ho e s1
        rintro ⟨e, ds, s1⟩ ⟨k8, rfl, hF, ho⟩
        simp only [Fs] at hF ho
        have g8 := ho.at8 (k8, .cells [.p (pI c.f), .p (.fnc c.g), .p (.fnc c.w)] false) (by simp)
        simp only at g8
        refine Wc.seq ?_
        refine Wc.regD fun K hK => ?_; simp only [go_sem, ti3, ti9, ti175, ti4, ti32, ti208, ti155, ti29, ti41, ti158, ti212, ti210, hF, g8, his, hcs]
        refine ⟨by simp [o241, x241, plainD, plainV, plainC], ?_⟩
        refine wpCall.pf (pf241 c.f x hxl) x241 o241 rfl rfl ?_
        simp only [go_sem, ti3, ti9, ti175, ti4, ti32, ti208, ti155, ti29, ti41, ti158, ti212, ti210, hF]; refine hK _ _ ?_; clear hK K
        have hoM : OA s1.nx s1 L M := ho.oa.sub (List.Sublist.refl _) (List.sublist_cons_self _ _)
        have hdl : (decF c.f x).1.length ≤ 20001 := decF_len _ _
        generalize hd : decF c.f x = d at *
        obtain ⟨d, er⟩ := d
        simp only at hU1 hdl
        refine Wc.seq (Wc.seq ?_)
        refine Wc.reg fun K hK => ?_; simp only [go_sem, ti3, ti9, ti175, ti4, ti32, ti208, ti155, ti29, ti41, ti158, ti212, ti210, hF]; refine hK _ _ ?_; clear hK K
        refine Wc.cond (t := (er != 0)) (by simp only [go_sem, ti3, ti9, ti175, ti4, ti32, ti208, ti155, ti29, ti41, ti158, ti212, ti210, hF]) (fun hc => ?_) (fun hc => ?_)
        · have h0 : er ≠ 0 := by simpa using hc
          rw [if_pos (.inl h0)] at hU1
          refine Wc.seq ?_
          refine Wc.reg fun K hK => ?_; simp only [go_sem, ti3, ti9, ti175, ti4, ti32, ti208, ti155, ti29, ti41, ti158, ti212, ti210, hF]; refine hK _ _ ?_; clear hK K
          exact Wc.ret (show bodyQ E0 Tryz.f202 K .ret _ from Op.ret [.tmp 4, .tmp 5] [.c .nils, .c (.p (.bool false))] rfl rfl (by simp only [resultsD, go_sem, ti3, ti9, ti175, ti4, ti32, ti208, ti155, ti29, ti41, ti158, ti212, ti210, hF]) (hK0 hU1 _ (by (try simp only [St.nx_put, St.nx_adv]); repeat (first | exact OA.mono hoM (by omega) | refine OA.newB ?_ (by omega) rfl | refine OA.advB ?_))))
        have h0 : er = 0 := by simpa using hc
        generalize hl0 : (if i = 0 then List.replicate d.length z else l) = l0 at hU1
        refine Wc.skip ?_
        refine Wc.seqA (fun y => ∃ c6, y.ds = [] ∧ Fs y.e 59 [(0, P' (.lst ss.length (ss.map .str))), (13, P' (.lst cols.length (cols.flatMap ColU.pd))), (14, P' (pI cols.length)), (15, P' (pI i)), (6, .v (.c c6)), (7, P' (pI i)), (8, .v (.c (.ref k8 0))), (9, P' (.lst d.length (d.map pI)))] ∧ SlS encB 10 l0 L ((k8, .cells [.p (pI c.f), .p (.fnc c.g), .p (.fnc c.w)] false) :: M) c6 y.s) ?_ ?_
        · refine Wc.seq ?_
          refine Wc.reg fun K hK => ?_; simp only [go_sem, ti3, ti9, ti175, ti4, ti32, ti208, ti155, ti29, ti41, ti158, ti212, ti210, hF]; refine hK _ _ ?_; clear hK K
          refine Wc.cond (t := ((i : Int) == 0)) (by simp only [go_sem, ti3, ti9, ti175, ti4, ti32, ti208, ti155, ti29, ti41, ti158, ti212, ti210, hF]) (fun hc => ?_) (fun hc => ?_)
          · have hi00 : i = 0 := by have : (i : Int) = 0 := by simpa using hc
                                    omega
            rw [if_pos hi00] at hl0
            have hll := hi0 hi00
            subst hll
            have ho0 := ho.oa
            have hgt : E0.gt 29 = true := rfl
            by_cases hd0 : d.length = 0
            · have hsz : (((80 : Nat) : Int) * 0 ≤ 140737488355328) = True := by simp
              have hdi : ((d.length : Nat) : Int) = 0 := by omega
              refine Wc.reg fun K hK => ?_; simp only [go_sem, ti3, ti9, ti175, ti4, ti32, ti208, ti155, ti29, ti41, ti158, ti212, ti210, hF, hdi, hsz, hgt]; refine hK _ _ ?_; clear hK K
              refine ⟨rfl, .gs 0 (s1.nx + 16 + 2) 0 0 10, rfl, by simp only [Fs, Int.natCast_zero, go_sem, ti3, ti9, ti175, ti4, ti32, ti208, ti155, ti29, ti41, ti158, ti212, ti210, hF, hdi], ?_⟩
              subst hl0
              rw [hd0]
              exact .inr (.inr ⟨_, rfl, (OA.new (k := s1.nx + 16 + 2) (o := .grow 10 0 [] false) ho0.adv.adv.adv.adv (by omega) rfl).mono (by simp only [St.nx_put, St.nx_adv]; omega), rfl⟩)
            · have hm1 : (((80 : Nat) : Int) * (d.length : Int) ≤ 140737488355328) = True := by simp only [eq_iff_iff, iff_true]; omega
              have hm2 : ((d.length : Int) ≤ 9223372036854775807) = True := by simp only [eq_iff_iff, iff_true]; omega
              have hm3 : ((d.length : Int) = 0) = False := by simp only [eq_iff_iff, iff_false]; omega
              refine Wc.reg fun K hK => ?_; simp only [go_sem, ti3, ti9, ti175, ti4, ti32, ti208, ti155, ti29, ti41, ti158, ti212, ti210, hF, hm1, hm2, hm3, hgt, Int.le_refl]; refine hK _ _ ?_; clear hK K
              refine ⟨rfl, .mt (s1.nx + 16 + 2) 0 d.length 10, rfl, by simp only [Fs, Int.natCast_zero, go_sem, ti3, ti9, ti175, ti4, ti32, ti208, ti155, ti29, ti41, ti158, ti212, ti210, hF], ?_⟩
              subst hl0
              obtain ⟨zz, hz1, hz2⟩ := hz
              rw [ti41] at hz1
              cases hz1
              simp only [Option.some.injEq] at hz2
              rw [hz2]
              refine .inr (.inl ⟨_, by rw [List.length_replicate], ?_, by intro e; have := congrArg List.length e; rw [List.length_replicate, List.length_nil] at this; exact hd0 this⟩)
              rw [← repl_flat]
              exact by (try simp only [St.nx_put, St.nx_adv]); repeat (first | exact OA.mono ho0 (by omega) | refine OA.newB ?_ (by omega) rfl | refine OA.advB ?_)
          · have hi00 : ¬ i = 0 := by have : ¬ (i : Int) = 0 := by simpa using hc
                                      omega
            rw [if_neg hi00] at hl0
            subst hl0
            exact Wc.skip ⟨rfl, c6, rfl, by simp only [Fs, Int.natCast_zero, go_sem, ti3, ti9, ti175, ti4, ti32, ti208, ti155, ti29, ti41, ti158, ti212, ti210, hF], (by repeat (first | exact ho | refine SlS.adv ?_))⟩
        clear hF ho g8 hoM e s1 hi0
        rintro ⟨e, ds, s1⟩ ⟨c6, rfl, hF, ho⟩
        simp only [Fs] at hF ho
        have hoM : OA s1.nx s1 L M := ho.oa.sub (List.Sublist.refl _) (List.sublist_cons_self _ _)
        have hlen6 : lenD E0 29 (.v (.c c6)) = some (.v (.c (.p (.int .i64 (l0.length : Int))))) := ho.len ti29 rfl
        refine Wc.seq (Wc.seq ?_)
        refine Wc.reg fun K hK => ?_; simp only [go_sem, ti3, ti9, ti175, ti4, ti32, ti208, ti155, ti29, ti41, ti158, ti212, ti210, hF, hlen6]; refine hK _ _ ?_; clear hK K
        refine Wc.cond (t := ((d.length : Int) != (l0.length : Int))) (by simp only [go_sem, ti3, ti9, ti175, ti4, ti32, ti208, ti155, ti29, ti41, ti158, ti212, ti210, hF]) (fun hc => ?_) (fun hc => ?_)
        · have h1 : d.length ≠ l0.length := by have : ¬ (d.length : Int) = (l0.length : Int) := by simpa using hc
                                               omega
          rw [if_pos (.inr h1)] at hU1
          refine Wc.seq ?_
          refine Wc.reg fun K hK => ?_; simp only [go_sem, ti3, ti9, ti175, ti4, ti32, ti208, ti155, ti29, ti41, ti158, ti212, ti210, hF]; refine hK _ _ ?_; clear hK K
          exact Wc.ret (show bodyQ E0 Tryz.f202 K .ret _ from Op.ret [.tmp 4, .tmp 5] [.c .nils, .c (.p (.bool false))] rfl rfl (by simp only [resultsD, go_sem, ti3, ti9, ti175, ti4, ti32, ti208, ti155, ti29, ti41, ti158, ti212, ti210, hF]) (hK0 hU1 _ (by (try simp only [St.nx_put, St.nx_adv]); repeat (first | exact OA.mono hoM (by omega) | refine OA.newB ?_ (by omega) rfl | refine OA.advB ?_))))
        have h1 : d.length = l0.length := by have : (d.length : Int) = (l0.length : Int) := by simpa using hc
                                             omega
        rw [if_neg (by rintro (h | h) <;> contradiction)] at hU1
        refine Wc.skip ?_
        refine Wc.seq ?_
        refine Wc.reg fun K hK => ?_; simp only [go_sem, ti3, ti9, ti175, ti4, ti32, ti208, ti155, ti29, ti41, ti158, ti212, ti210, hF, Int.natCast_zero]; refine hK _ _ ?_; clear hK K
        refine Wc.block (Wc.loop (fun q y => ∃ j : Nat, q = d.length - j ∧ j ≤ d.length ∧ y.ds = [] ∧ Fs y.e 59 [(0, P' (.lst ss.length (ss.map .str))), (13, P' (.lst cols.length (cols.flatMap ColU.pd))), (14, P' (pI cols.length)), (15, P' (pI i)), (6, .v (.c c6)), (7, P' (pI i)), (8, .v (.c (.ref k8 0))), (42, P' (.lst d.length (d.map pI))), (43, P' (pI d.length)), (44, P' (pI j))] ∧ SlS encB 10 (prog c.set l0 d j) L ((k8, .cells [.p (pI c.f), .p (.fnc c.g), .p (.fnc c.w)] false) :: M) c6 y.s) ?_ (k := d.length) ?_)
        · clear hF ho hoM hlen6 e s1
          rintro q ⟨e, ds, s1⟩ ⟨j, rfl, hj, rfl, hF, ho⟩
          simp only [Fs] at hF ho
          refine Wc.seq ?_
          refine Wc.reg fun K hK => ?_; simp only [go_sem, ti3, ti9, ti175, ti4, ti32, ti208, ti155, ti29, ti41, ti158, ti212, ti210, hF]; refine hK _ _ ?_; clear hK K
          refine Wc.seq (Wc.cond (t := decide ((j : Int) < d.length)) (by simp only [go_sem, ti3, ti9, ti175, ti4, ti32, ti208, ti155, ti29, ti41, ti158, ti212, ti210, hF]) (fun hc => ?_) (fun hc => ?_))
          · have hjl : j < d.length := by have : (j : Int) < d.length := by simpa using hc
                                          omega
            obtain ⟨n, hn⟩ : ∃ n, d[j]? = some n := ⟨d[j], List.getElem?_eq_getElem hjl⟩
            obtain ⟨a, ha⟩ : ∃ a, l0[j]? = some a := ⟨l0[j], List.getElem?_eq_getElem (by omega)⟩
            have hin := ixA ti175 rfl ti3 (j := j) (m := d.length) (cs := d.map pI) hjl (by simp) (by decide)
            have hcn := rpA (off := j) (drop_map pI hn) (by simp; omega)
            obtain ⟨p1, p2⟩ := prog_step c.set ha hn
            have hpl := prog_len c.set l0 d j h1
            have hpl2 := prog_len c.set l0 d (j + 1) h1
            obtain ⟨k6, rfl, ho6⟩ := ho.mt (by rw [p1]; simp)
            rw [p1, flat_mid] at ho6
            have g8 := ho6.at_ ((k8, .cells [.p (pI c.f), .p (.fnc c.g), .p (.fnc c.w)] false)) (by simp)
            simp only at g8
            have hi6 := ixM ti29 rfl ti41 (r := k6) (off := 0) (j := j) (m := (prog c.set l0 d j).length) (es := 10) (by omega) rfl
            have hpre : ((List.zipWith c.set (l0.take j) (d.take j)).flatMap encB).length = j * 10 := by
              rw [flatC_len hel, List.length_zipWith, List.length_take, List.length_take]
              congr 1
              omega
            refine Wc.skip (Wc.seq (Wc.block (Wc.seq ?_)))
            refine Wc.reg fun K hK => ?_; simp only [go_sem, ti3, ti9, ti175, ti4, ti32, ti208, ti155, ti29, ti41, ti158, ti212, ti210, hF, hin, hcn]; refine hK _ _ ?_; clear hK K
            refine Wc.regT fun K hK => ?_; simp only [go_sem, ti3, ti9, ti175, ti4, ti32, ti208, ti155, ti29, ti41, ti158, ti212, ti210, hF, g8, hi6, hxt, hopn]
            refine hset (M1 := []) (OA.mono (ho6.adv.adv.adv) (by simp only [St.nx_adv]; omega)) hpre.symm fun s2 ho2 => ?_
            simp only [go_sem, ti3, ti9, ti175, ti4, ti32, ti208, ti155, ti29, ti41, ti158, ti212, ti210, hF, g8, hi6, hxt, hopn]
            refine ⟨by rfl, hK _ _ ?_⟩
            clear hK K
            refine Wc.reg fun K hK => ?_; simp only [go_sem, ti3, ti9, ti175, ti4, ti32, ti208, ti155, ti29, ti41, ti158, ti212, ti210, hF, i64n j (by omega)]; refine hK _ _ ?_; clear hK K
            refine ⟨d.length - (j + 1), by omega, j + 1, rfl, by omega, rfl, by simp only [Fs, Int.natCast_zero, go_sem, ti3, ti9, ti175, ti4, ti32, ti208, ti155, ti29, ti41, ti158, ti212, ti210, hF], .inr (.inl ⟨k6, ?_, ?_, ?_⟩)⟩
            · rw [hpl, hpl2]
            · rw [p2, flat_mid]
              exact by (try simp only [St.nx_put, St.nx_adv]); repeat (first | exact OA.mono ho2 (by omega) | refine OA.newB ?_ (by omega) rfl | refine OA.advB ?_)
            · rw [p2]; simp
          · have hjl : j = d.length := by have : ¬ (j : Int) < d.length := by simpa using hc
                                          omega
            subst hjl
            rw [prog_all _ h1] at ho
            refine Wc.exit ?_
            refine Wc.reg fun K hK => ?_; simp only [go_sem, ti3, ti9, ti175, ti4, ti32, ti208, ti155, ti29, ti41, ti158, ti212, ti210, hF, i64n i (by omega)]; refine hK _ _ ?_; clear hK K
            exact ⟨cols.length - (i + 1), by omega, i + 1, _, c6, rfl, by omega, rfl, by simp only [Fs, Int.natCast_zero, go_sem, ti3, ti9, ti175, ti4, ti32, ti208, ti155, ti29, ti41, ti158, ti212, ti210, hF], (SlS.drop (x := (k8, .cells [.p (pI c.f), .p (.fnc c.g), .p (.fnc c.w)] false)) (by repeat (first | exact ho | refine SlS.adv ?_))), fun h => by omega, fun _ => hU1⟩
        · exact ⟨0, rfl, by omega, rfl, by simp only [Fs, Int.natCast_zero, go_sem, ti3, ti9, ti175, ti4, ti32, ti208, ti155, ti29, ti41, ti158, ti212, ti210, hF], by rw [prog_0]; exact (by repeat (first | exact ho | refine SlS.adv ?_))⟩
      · have hil : i = cols.length := by have : ¬ (i : Int) < cols.length := by simpa using hc
                                         omega
        subst hil
        refine Wc.exit ⟨l, c6, ?_, rfl, by simp only [Fs, Int.natCast_zero, go_sem, ti3, ti9, ti175, ti4, ti32, ti208, ti155, ti29, ti41, ti158, ti212, ti210, hF], ho.adv (n := 1)⟩
        by_cases h0 : cols.length = 0
        · rw [hi0 h0, ← hU]
          have : cols = [] := List.length_eq_zero_iff.1 h0
          subst this; rfl
        · rw [hUi (by omega), List.drop_of_length_le (by simp)]
          unfold unpkG; rfl
    · exact ⟨0, [], .nils, rfl, by omega, rfl, by simp only [Fs, Int.natCast_zero, go_sem, ti3, ti9, ti175, ti4, ti32, ti208, ti155, ti29, ti41, ti158, ti212, ti210], .inl ⟨rfl, .inl rfl, by (try simp only [St.nx_put, St.nx_adv]); repeat (first | exact OA.mono h (by omega) | refine OA.newB ?_ (by omega) rfl | refine OA.advB ?_)⟩, fun _ => rfl, fun h => by omega⟩
  rintro ⟨e, ds, s1⟩ ⟨l, c6, hUl, rfl, hF, ho⟩
  simp only [Fs] at hF ho
  refine Wc.seq ?_
  refine Wc.reg fun K hK => ?_; simp only [go_sem, ti3, ti9, ti175, ti4, ti32, ti208, ti155, ti29, ti41, ti158, ti212, ti210, hF]; refine hK _ _ ?_; clear hK K
  exact Wc.ret (show bodyQ E0 Tryz.f202 K .ret _ from Op.ret [.tmp 4, .tmp 5] [.c c6, .c (.p (.bool true))] rfl rfl (by simp only [resultsD, go_sem, ti3, ti9, ti175, ti4, ti32, ti208, ti155, ti29, ti41, ti158, ti212, ti210, hF]) (hK1 l hUl _ c6 (ho.adv (n := 3))))
end Go.Proofs.YtedcnhbblgmdnaaGreat.Ab
namespace Go.Proofs.YtedcnhbblgmdnaaGreat.Ab
set_option maxHeartbeats 8000000
set_option maxRecDepth 10000
set_option linter.unusedSimpArgs false
set_option linter.unusedVariables false
def rsOK (w : Int) : Option (List Lb) → List Rlp → Bool
  | _, [] => true
  | none, r :: t => ((r.w == w) && rlpOK r) && rsOK w (some r.lb) t
  | some q, r :: t => ((r.w == w) && rlpOK r) && (!decide (0 ≤ cmpL q r.lb) && rsOK w (some r.lb) t)
def setOK (x : RSet) : Bool := !(decide (x.w < 1) || (decide (1099511627776 < x.w) || (decide (x.fr < 0) || decide (1099511627776 < x.fr)))) && rsOK x.w none x.rs
def prevR (l : List Rlp) (i : Nat) : Option (List Lb) := if i = 0 then none else (l[i - 1]?).map (·.lb)
def cmpQ (q : Option Rlp) (c : Rlp) : Int := (q.map fun q => cmpL q.lb c.lb).getD (-1)
theorem rsOK_step {w : Int} {l : List Rlp} {i : Nat} {c : Rlp} (h : l[i]? = some c) : rsOK w (prevR l i) (l.drop i) = (((c.w == w) && rlpOK c) && (!(decide (0 < i) && decide (0 ≤ cmpQ (l[i - 1]?) c)) && rsOK w (prevR l (i + 1)) (l.drop (i + 1)))) := by
  obtain ⟨h1, h2⟩ := List.getElem?_eq_some_iff.1 h
  have hp : prevR l (i + 1) = some c.lb := by simp [prevR, h]
  rw [List.drop_eq_getElem_cons h1, h2, hp]
  by_cases h0 : i = 0
  · subst h0
    simp [prevR, rsOK]
  · have hq2 : l[i - 1]? = some l[i - 1] := List.getElem?_eq_getElem (by omega)
    have hq : prevR l i = some (l[i - 1]).lb := by rw [prevR, if_neg h0, hq2]; rfl
    rw [hq, hq2, rsOK, decide_eq_true (show 0 < i by omega), Bool.true_and]
    rfl
theorem rsOK_mem {w : Int} : ∀ {l : List Rlp} {p : Option (List Lb)}, rsOK w p l = true → ∀ r ∈ l, r.w = w ∧ rlpOK r = true
  | [], _, _ => fun r hr => by cases hr
  | a :: t, none, h => by
    simp only [rsOK, Bool.and_eq_true, beq_iff_eq] at h
    intro r hr
    rcases List.mem_cons.1 hr with rfl | hr
    · exact h.1
    · exact rsOK_mem h.2 r hr
  | a :: t, some q, h => by
    simp only [rsOK, Bool.and_eq_true, beq_iff_eq] at h
    intro r hr
    rcases List.mem_cons.1 hr with rfl | hr
    · exact h.1
    · exact rsOK_mem h.2.2 r hr
/-- 62: validSet -/
theorem pf62 (x : RSet) (hl : x.rs.length < 2^40) (hz : ∀ r ∈ x.rs, Rz r) : Pf E0 62 [.agg (x.pd.map .p)] (P' (.bool (setOK x))) := by
  have hfl := fRl x.rs
  generalize hR : setOK x = R
  unfold setOK at hR
  refine Pf.body (fn := Tryz.f62) (by kernel_rfl) rfl ?_; simp only [List.map_cons, List.map_nil, List.cons_append, List.nil_append, List.length_cons, List.length_nil, Tryz.ntmps62, List.replicate, Nat.reduceSub, Nat.reduceAdd]
  refine Wc.seq ?_
  refine Wc.reg fun K hK => ?_; simp only [go_sem, ti3, ti4, ti5, ti9, ti32, ti22, ti29, ti31, ti60, ti62, ti46, Int.natCast_zero]; refine hK _ _ ?_; clear hK K
  refine Wc.seq (Wc.seq ?_)
  rcases Bool.eq_false_or_eq_true (decide (x.w < 1)) with a1 | a1
  · refine Wc.reg fun K hK => ?_; simp only [go_sem, ti3, ti4, ti5, ti9, ti32, ti22, ti29, ti31, ti60, ti62, ti46, Int.natCast_zero, a1]; refine hK _ _ ?_; clear hK K
    refine Wc.cond (t := true) (by simp only [go_sem, ti3, ti4, ti5, ti9, ti32, ti22, ti29, ti31, ti60, ti62, ti46, Int.natCast_zero, a1]) (fun _ => ?_) (fun hc => by cases hc)
    refine Wc.seq ?_
    refine Wc.reg fun K hK => ?_; simp only [go_sem, ti3, ti4, ti5, ti9, ti32, ti22, ti29, ti31, ti60, ti62, ti46, Int.natCast_zero]; refine hK _ _ ?_; clear hK K
    obtain rfl : R = false := by rw [← hR]; simp only [a1, Bool.or_true, Bool.true_or, Bool.or_false, Bool.false_or, Bool.and_true, Bool.true_and, Bool.false_and, Bool.and_false, Bool.not_true, Bool.not_false, cond_true, cond_false]
    exact Wc.ret (Pf.ret [.tmp 2] [.c (.p (.bool false))] rfl rfl (by simp only [resultsD, go_sem, ti3, ti4, ti5, ti9, ti32, ti22, ti29, ti31, ti60, ti62, ti46, Int.natCast_zero]) rfl)
  rcases Bool.eq_false_or_eq_true (decide (1099511627776 < x.w)) with a2 | a2
  · refine Wc.reg fun K hK => ?_; simp only [go_sem, ti3, ti4, ti5, ti9, ti32, ti22, ti29, ti31, ti60, ti62, ti46, Int.natCast_zero, a1, a2]; refine hK _ _ ?_; clear hK K
    refine Wc.cond (t := true) (by simp only [go_sem, ti3, ti4, ti5, ti9, ti32, ti22, ti29, ti31, ti60, ti62, ti46, Int.natCast_zero, a1, a2]) (fun _ => ?_) (fun hc => by cases hc)
    refine Wc.seq ?_
    refine Wc.reg fun K hK => ?_; simp only [go_sem, ti3, ti4, ti5, ti9, ti32, ti22, ti29, ti31, ti60, ti62, ti46, Int.natCast_zero]; refine hK _ _ ?_; clear hK K
    obtain rfl : R = false := by rw [← hR]; simp only [a1, a2, Bool.or_true, Bool.true_or, Bool.or_false, Bool.false_or, Bool.and_true, Bool.true_and, Bool.false_and, Bool.and_false, Bool.not_true, Bool.not_false, cond_true, cond_false]
    exact Wc.ret (Pf.ret [.tmp 2] [.c (.p (.bool false))] rfl rfl (by simp only [resultsD, go_sem, ti3, ti4, ti5, ti9, ti32, ti22, ti29, ti31, ti60, ti62, ti46, Int.natCast_zero]) rfl)
  rcases Bool.eq_false_or_eq_true (decide (x.fr < 0)) with a3 | a3
  · refine Wc.reg fun K hK => ?_; simp only [go_sem, ti3, ti4, ti5, ti9, ti32, ti22, ti29, ti31, ti60, ti62, ti46, Int.natCast_zero, a1, a2, a3]; refine hK _ _ ?_; clear hK K
    refine Wc.cond (t := true) (by simp only [go_sem, ti3, ti4, ti5, ti9, ti32, ti22, ti29, ti31, ti60, ti62, ti46, Int.natCast_zero, a1, a2, a3]) (fun _ => ?_) (fun hc => by cases hc)
    refine Wc.seq ?_
    refine Wc.reg fun K hK => ?_; simp only [go_sem, ti3, ti4, ti5, ti9, ti32, ti22, ti29, ti31, ti60, ti62, ti46, Int.natCast_zero]; refine hK _ _ ?_; clear hK K
    obtain rfl : R = false := by rw [← hR]; simp only [a1, a2, a3, Bool.or_true, Bool.true_or, Bool.or_false, Bool.false_or, Bool.and_true, Bool.true_and, Bool.false_and, Bool.and_false, Bool.not_true, Bool.not_false, cond_true, cond_false]
    exact Wc.ret (Pf.ret [.tmp 2] [.c (.p (.bool false))] rfl rfl (by simp only [resultsD, go_sem, ti3, ti4, ti5, ti9, ti32, ti22, ti29, ti31, ti60, ti62, ti46, Int.natCast_zero]) rfl)
  rcases Bool.eq_false_or_eq_true (decide (1099511627776 < x.fr)) with a4 | a4
  · refine Wc.reg fun K hK => ?_; simp only [go_sem, ti3, ti4, ti5, ti9, ti32, ti22, ti29, ti31, ti60, ti62, ti46, Int.natCast_zero, a1, a2, a3, a4]; refine hK _ _ ?_; clear hK K
    refine Wc.cond (t := true) (by simp only [go_sem, ti3, ti4, ti5, ti9, ti32, ti22, ti29, ti31, ti60, ti62, ti46, Int.natCast_zero, a1, a2, a3, a4]) (fun _ => ?_) (fun hc => by cases hc)
    refine Wc.seq ?_
    refine Wc.reg fun K hK => ?_; simp only [go_sem, ti3, ti4, ti5, ti9, ti32, ti22, ti29, ti31, ti60, ti62, ti46, Int.natCast_zero]; refine hK _ _ ?_; clear hK K
    obtain rfl : R = false := by rw [← hR]; simp only [a1, a2, a3, a4, Bool.or_true, Bool.true_or, Bool.or_false, Bool.false_or, Bool.and_true, Bool.true_and, Bool.false_and, Bool.and_false, Bool.not_true, Bool.not_false, cond_true, cond_false]
    exact Wc.ret (Pf.ret [.tmp 2] [.c (.p (.bool false))] rfl rfl (by simp only [resultsD, go_sem, ti3, ti4, ti5, ti9, ti32, ti22, ti29, ti31, ti60, ti62, ti46, Int.natCast_zero]) rfl)
  refine Wc.reg fun K hK => ?_; simp only [go_sem, ti3, ti4, ti5, ti9, ti32, ti22, ti29, ti31, ti60, ti62, ti46, Int.natCast_zero, a1, a2, a3, a4]; refine hK _ _ ?_; clear hK K
  refine Wc.cond (t := false) (by simp only [go_sem, ti3, ti4, ti5, ti9, ti32, ti22, ti29, ti31, ti60, ti62, ti46, Int.natCast_zero, a1, a2, a3, a4]) (fun hc => by cases hc) (fun _ => Wc.skip ?_)
  simp only [a1, a2, a3, a4, Bool.or_true, Bool.true_or, Bool.or_false, Bool.false_or, Bool.and_true, Bool.true_and, Bool.false_and, Bool.and_false, Bool.not_true, Bool.not_false, cond_true, cond_false] at hR
  have hR0 : rsOK x.w (prevR x.rs 0) (x.rs.drop 0) = R := hR
  refine Wc.seqR (fun y => R = true ∧ y.ds = [] ∧ Fs y.e 57 []) ?_ ?_
  · refine Wc.seq ?_
    refine Wc.reg fun K hK => ?_; simp only [go_sem, ti3, ti4, ti5, ti9, ti32, ti22, ti29, ti31, ti60, ti62, ti46, Int.natCast_zero]; refine hK _ _ ?_; clear hK K
    refine Wc.block (Wc.loop (fun k y => ∃ i : Nat, k = x.rs.length - i ∧ (i ≤ x.rs.length ∧ rsOK x.w (prevR x.rs i) (x.rs.drop i) = R) ∧ y.ds = [] ∧ Fs y.e 57 [(1, .v (.c (.ref 0 0))), (24, P' (.lst x.rs.length (x.rs.flatMap Rlp.pd))), (25, P' (pI x.rs.length)), (26, P' (pI i))] ∧ OA y.s.nx y.s [] [(0, .cells (x.pd.map .p) false)]) ?_ (k := x.rs.length) ⟨0, rfl, ⟨by omega, hR0⟩, rfl, by simp only [Fs, Int.natCast_zero, go_sem, ti3, ti4, ti5, ti9, ti32, ti22, ti29, ti31, ti60, ti62, ti46, Int.natCast_zero], by (try simp only [St.nx_put, St.nx_adv]); repeat (first | exact OA.mono s00_oa (by omega) | refine OA.newB ?_ (by omega) rfl | refine OA.advB ?_)⟩)
    clear hR hR0 a1 a2 a3 a4
    rintro k ⟨e, ds, s1⟩ ⟨i, rfl, ⟨hi, hR⟩, rfl, hF, ho⟩
    simp only [Fs] at hF ho
    refine Wc.seq ?_
    refine Wc.reg fun K hK => ?_; simp only [go_sem, ti3, ti4, ti5, ti9, ti32, ti22, ti29, ti31, ti60, ti62, ti46, Int.natCast_zero, hF]; refine hK _ _ ?_; clear hK K
    refine Wc.seq ?_
    refine Wc.cond (t := decide ((i : Int) < x.rs.length)) (by simp only [go_sem, ti3, ti4, ti5, ti9, ti32, ti22, ti29, ti31, ti60, ti62, ti46, Int.natCast_zero, hF]) (fun hc => ?_) (fun hc => ?_)
    · have hil : i < x.rs.length := by have := of_decide_eq_true hc; omega
      obtain ⟨c, hcc⟩ : ∃ c, x.rs[i]? = some c := ⟨x.rs[i], List.getElem?_eq_getElem hil⟩
      have zc := hz c (List.mem_of_getElem? hcc)
      rw [rsOK_step hcc] at hR
      have hix := ixA ti60 rfl ti31 (j := i) (m := x.rs.length) (cs := x.rs.flatMap Rlp.pd) hil hfl (by decide)
      have hca := rpRl hcc
      have p19 := pf19 c zc.lb zc.ls
      unfold chkR at p19
      refine Wc.skip (Wc.seq (Wc.block (Wc.seqA (fun y => ∃ k4, y.ds = [] ∧ Fs y.e 57 [(1, .v (.c (.ref 0 0))), (24, P' (.lst x.rs.length (x.rs.flatMap Rlp.pd))), (25, P' (pI x.rs.length)), (26, P' (pI i)), (3, P' (pI i)), (4, .v (.c (.ref k4 0)))] ∧ OA y.s.nx y.s [] [(k4, .cells (c.pd.map .p) false), (0, .cells (x.pd.map .p) false)]) ?_ ?_)))
      · refine Wc.reg fun K hK => ?_; simp only [go_sem, ti3, ti4, ti5, ti9, ti32, ti22, ti29, ti31, ti60, ti62, ti46, Int.natCast_zero, hF, hix, hca]; refine hK _ _ ?_; clear hK K
        exact ⟨rfl, s1.nx + 4, rfl, by simp only [Fs, Int.natCast_zero, go_sem, ti3, ti4, ti5, ti9, ti32, ti22, ti29, ti31, ti60, ti62, ti46, Int.natCast_zero, hF], by (try simp only [St.put_adv, St.adv_adv, St.put_put, St.nx_put, St.nx_adv]); repeat (first | exact OA.mono ho (by omega) | refine OA.newB ?_ (by omega) rfl | refine OA.putB ?_ (by omega) | refine OA.advB ?_)⟩
      clear hF ho e s1
      rintro ⟨e, ds, s1⟩ ⟨k4, rfl, hF, ho⟩
      simp only [Fs] at hF ho
      have g0 := ho.at_ (0, .cells (x.pd.map .p) false) (by simp)
      have g4 := ho.at_ (k4, .cells (c.pd.map .p) false) (by simp)
      simp only [List.map_cons, List.map_nil] at g0 g4
      refine Wc.seq (Wc.seq ?_)
      rcases Bool.eq_false_or_eq_true (c.w != x.w) with k1 | k1
      · have k2 : (c.w == x.w) = false := by simpa using k1
        rw [k2, Bool.false_and, Bool.false_and] at hR
        subst hR
        refine Wc.reg fun K hK => ?_; simp only [go_sem, ti3, ti4, ti5, ti9, ti32, ti22, ti29, ti31, ti60, ti62, ti46, Int.natCast_zero, hF, g0, g4, k1]; refine hK _ _ ?_; clear hK K
        refine Wc.cond (t := true) (by simp only [go_sem, ti3, ti4, ti5, ti9, ti32, ti22, ti29, ti31, ti60, ti62, ti46, Int.natCast_zero, hF, k1]) (fun _ => ?_) (fun hc => by cases hc)
        refine Wc.seq ?_
        refine Wc.reg fun K hK => ?_; simp only [go_sem, ti3, ti4, ti5, ti9, ti32, ti22, ti29, ti31, ti60, ti62, ti46, Int.natCast_zero, hF]; refine hK _ _ ?_; clear hK K
        exact Wc.ret (Pf.ret [.tmp 2] [.c (.p (.bool false))] rfl rfl (by simp only [resultsD, go_sem, ti3, ti4, ti5, ti9, ti32, ti22, ti29, ti31, ti60, ti62, ti46, Int.natCast_zero, hF]) rfl)
      have k2 : (c.w == x.w) = true := by simpa using k1
      rw [k2, Bool.true_and] at hR
      cases hok : rlpOK c with
      | false =>
        rw [hok, Bool.false_and] at hR
        subst hR
        rw [hok, if_neg (by decide)] at p19
        refine Wc.reg fun K hK => ?_; simp only [go_sem, ti3, ti4, ti5, ti9, ti32, ti22, ti29, ti31, ti60, ti62, ti46, Int.natCast_zero, hF, g0, g4, k1]
        refine wpCall.pf (p19) (by kernel_rfl) (by kernel_rfl) rfl rfl ?_
        simp only [go_sem, ti3, ti4, ti5, ti9, ti32, ti22, ti29, ti31, ti60, ti62, ti46, Int.natCast_zero, hF, k1, b10]; refine hK _ _ ?_; clear hK K
        refine Wc.cond (t := true) (by simp only [go_sem, ti3, ti4, ti5, ti9, ti32, ti22, ti29, ti31, ti60, ti62, ti46, Int.natCast_zero, hF, k1, b10]) (fun _ => ?_) (fun hc => by cases hc)
        refine Wc.seq ?_
        refine Wc.reg fun K hK => ?_; simp only [go_sem, ti3, ti4, ti5, ti9, ti32, ti22, ti29, ti31, ti60, ti62, ti46, Int.natCast_zero, hF]; refine hK _ _ ?_; clear hK K
        exact Wc.ret (Pf.ret [.tmp 2] [.c (.p (.bool false))] rfl rfl (by simp only [resultsD, go_sem, ti3, ti4, ti5, ti9, ti32, ti22, ti29, ti31, ti60, ti62, ti46, Int.natCast_zero, hF]) rfl)
      | true =>
      rw [hok, Bool.true_and] at hR
      rw [hok, if_pos rfl] at p19
      refine Wc.reg fun K hK => ?_; simp only [go_sem, ti3, ti4, ti5, ti9, ti32, ti22, ti29, ti31, ti60, ti62, ti46, Int.natCast_zero, hF, g0, g4, k1]
      refine wpCall.pf (p19) (by kernel_rfl) (by kernel_rfl) rfl rfl ?_
      simp only [go_sem, ti3, ti4, ti5, ti9, ti32, ti22, ti29, ti31, ti60, ti62, ti46, Int.natCast_zero, hF, k1, b00]; refine hK _ _ ?_; clear hK K
      refine Wc.cond (t := false) (by simp only [go_sem, ti3, ti4, ti5, ti9, ti32, ti22, ti29, ti31, ti60, ti62, ti46, Int.natCast_zero, hF, k1, b00]) (fun hc => by cases hc) (fun _ => Wc.skip ?_)
      refine Wc.cutR (fun y => rsOK x.w (prevR x.rs (i + 1)) (x.rs.drop (i + 1)) = R ∧ y.ds = [] ∧ Fs y.e 57 [(1, .v (.c (.ref 0 0))), (24, P' (.lst x.rs.length (x.rs.flatMap Rlp.pd))), (25, P' (pI x.rs.length)), (26, P' (pI i))] ∧ OA y.s.nx y.s [] [(0, .cells (x.pd.map .p) false)]) ?_ ?_
      · by_cases h0 : i = 0
        · have hh : ((0 : Int) < (i : Int)) = False := by simp; omega
          have hd : decide (0 < i) = false := by simp; omega
          simp only [hd, Bool.or_true, Bool.true_or, Bool.or_false, Bool.false_or, Bool.and_true, Bool.true_and, Bool.false_and, Bool.and_false, Bool.not_true, Bool.not_false, cond_true, cond_false] at hR
          refine Wc.seq ?_
          refine Wc.regT fun K hK => ?_
          simp only [go_sem, ti3, ti4, ti5, ti9, ti32, ti22, ti29, ti31, ti60, ti62, ti46, Int.natCast_zero, hF, hh]
          refine ⟨by rw [trOK_eq3]; rfl, hK _ _ ?_⟩
          clear hK K
          refine Wc.cond (t := false) (by simp only [go_sem, ti3, ti4, ti5, ti9, ti32, ti22, ti29, ti31, ti60, ti62, ti46, Int.natCast_zero, hF]) (fun hc => by cases hc) (fun _ => Wc.skip ?_)
          exact ⟨hR, rfl, by simp only [Fs, Int.natCast_zero, go_sem, ti3, ti4, ti5, ti9, ti32, ti22, ti29, ti31, ti60, ti62, ti46, Int.natCast_zero, hF], by (try simp only [St.nx_put, St.nx_adv]); repeat (first | exact OA.mono (ho.sub (List.Sublist.refl _) (List.sublist_cons_self _ _)) (by omega) | refine OA.newB ?_ (by omega) rfl | refine OA.advB ?_)⟩
        · have hh : ((0 : Int) < (i : Int)) = True := by simp; omega
          have hd : decide (0 < i) = true := by simp; omega
          obtain ⟨q, hq⟩ : ∃ q, x.rs[i - 1]? = some q := ⟨x.rs[i - 1], List.getElem?_eq_getElem (by omega)⟩
          have zq := hz q (List.mem_of_getElem? hq)
          have w1 : IntKind.i64.wrap ((i : Int) - 1) = ((i - 1 : Nat) : Int) := by rw [wi64]; omega
          have hiq := ixA ti60 rfl ti31 (j := i - 1) (m := x.rs.length) (cs := x.rs.flatMap Rlp.pd) (by omega) hfl (by decide)
          have hcq := rpRl hq
          have p52 := pf52 q.lb c.lb (by have := zq.lb; omega) (by have := zc.lb; omega)
          have hcp : cmpQ (x.rs[i - 1]?) c = cmpL q.lb c.lb := by rw [hq]; rfl
          rw [hcp] at hR
          generalize cmpL q.lb c.lb = V2 at hR p52
          simp only [hd, Bool.or_true, Bool.true_or, Bool.or_false, Bool.false_or, Bool.and_true, Bool.true_and, Bool.false_and, Bool.and_false, Bool.not_true, Bool.not_false, cond_true, cond_false] at hR
          refine Wc.seq ?_
          refine Wc.regT fun K hK => ?_
          simp only [go_sem, ti3, ti4, ti5, ti9, ti32, ti22, ti29, ti31, ti60, ti62, ti46, Int.natCast_zero, hF, hh, g0, g4, w1, hiq, hcq]
          refine wpCall.pf (p52) (by kernel_rfl) (by kernel_rfl) rfl rfl ?_
          simp only [go_sem, ti3, ti4, ti5, ti9, ti32, ti22, ti29, ti31, ti60, ti62, ti46, Int.natCast_zero, hF, o52, x52]
          refine ⟨by rw [trOK_eq3]; rfl, hK _ _ ?_⟩
          clear hK K
          refine Wc.cond (t := decide (0 ≤ V2)) (by simp only [go_sem, ti3, ti4, ti5, ti9, ti32, ti22, ti29, ti31, ti60, ti62, ti46, Int.natCast_zero, hF]) (fun hc => ?_) (fun hc => ?_)
          · simp only [hc, Bool.or_true, Bool.true_or, Bool.or_false, Bool.false_or, Bool.and_true, Bool.true_and, Bool.false_and, Bool.and_false, Bool.not_true, Bool.not_false, cond_true, cond_false] at hR
            subst hR
            refine Wc.seq ?_
            refine Wc.reg fun K hK => ?_; simp only [go_sem, ti3, ti4, ti5, ti9, ti32, ti22, ti29, ti31, ti60, ti62, ti46, Int.natCast_zero, hF]; refine hK _ _ ?_; clear hK K
            exact Wc.ret (Pf.ret [.tmp 2] [.c (.p (.bool false))] rfl rfl (by simp only [resultsD, go_sem, ti3, ti4, ti5, ti9, ti32, ti22, ti29, ti31, ti60, ti62, ti46, Int.natCast_zero, hF]) rfl)
          simp only [hc, Bool.or_true, Bool.true_or, Bool.or_false, Bool.false_or, Bool.and_true, Bool.true_and, Bool.false_and, Bool.and_false, Bool.not_true, Bool.not_false, cond_true, cond_false] at hR
          exact Wc.skip ⟨hR, rfl, by simp only [Fs, Int.natCast_zero, go_sem, ti3, ti4, ti5, ti9, ti32, ti22, ti29, ti31, ti60, ti62, ti46, Int.natCast_zero, hF], by (try simp only [St.nx_put, St.nx_adv]); repeat (first | exact OA.mono (ho.sub (List.Sublist.refl _) (List.sublist_cons_self _ _)) (by omega) | refine OA.newB ?_ (by omega) rfl | refine OA.advB ?_)⟩
      clear hF ho g0 g4 e s1 hR
      rintro ⟨e, ds, s1⟩ ⟨hR, rfl, hF, ho⟩
      simp only [Fs] at hF ho
      refine Wc.reg fun K hK => ?_; simp only [go_sem, ti3, ti4, ti5, ti9, ti32, ti22, ti29, ti31, ti60, ti62, ti46, Int.natCast_zero, hF, i64n i (by omega)]; refine hK _ _ ?_; clear hK K
      exact ⟨x.rs.length - (i + 1), by omega, i + 1, rfl, ⟨by omega, hR⟩, rfl, by simp only [Fs, Int.natCast_zero, go_sem, ti3, ti4, ti5, ti9, ti32, ti22, ti29, ti31, ti60, ti62, ti46, Int.natCast_zero, hF], by (try simp only [St.nx_put, St.nx_adv]); repeat (first | exact OA.mono ho (by omega) | refine OA.newB ?_ (by omega) rfl | refine OA.advB ?_)⟩
    · have hil : i = x.rs.length := by have := of_decide_eq_false hc; omega
      rw [hil, List.drop_length, rsOK] at hR
      exact Wc.exit ⟨hR.symm, rfl, by simp only [Fs, Int.natCast_zero, go_sem, ti3, ti4, ti5, ti9, ti32, ti22, ti29, ti31, ti60, ti62, ti46, Int.natCast_zero, hF]⟩
  rintro ⟨e, ds, s1⟩ ⟨rfl, rfl, hF⟩
  simp only [Fs] at hF
  refine Wc.seq ?_
  refine Wc.reg fun K hK => ?_; simp only [go_sem, ti3, ti4, ti5, ti9, ti32, ti22, ti29, ti31, ti60, ti62, ti46, Int.natCast_zero, hF]; refine hK _ _ ?_; clear hK K
  exact Wc.ret (Pf.ret [.tmp 2] [.c (.p (.bool true))] rfl rfl (by simp only [resultsD, go_sem, ti3, ti4, ti5, ti9, ti32, ti22, ti29, ti31, ti60, ti62, ti46, Int.natCast_zero, hF]) rfl)
/-- The chunk of a rollup. -/
def encCk (r : Rlp) : Option Chk := (encLo r).map fun d => ⟨6, r.lb, (rlpZ r.bs).g, d⟩
def encAll : List Rlp → Option (List Chk)
  | [] => some []
  | r :: t => match encCk r with
    | none => none
    | some c => (encAll t).map (c :: ·)
def zBlk : Blk := ⟨0, 0, 0, []⟩
/-- The block of a set: why not, the block. -/
def blkE (x : RSet) (id : Int) : Int := if setOK x = false then 1 else match encAll x.rs with
  | none => 4
  | some cs => blkC ⟨id, x.w, x.fr, cs⟩
def blkB (x : RSet) (id : Int) : Blk := if blkE x id = 0 then (match encAll x.rs with
  | none => zBlk
  | some cs => ⟨id, x.w, x.fr, cs⟩) else zBlk
def resB (b : Blk) (e : Int) : D := .tup [.agg (b.pd.map .p), .c (.p (pI e))]
theorem encCk_z {r : Rlp} {c : Chk} (z : Rz r) (h : encCk r = some c) : Cz c := by
  unfold encCk at h
  cases he : encLo r with
  | none => rw [he] at h; cases h
  | some d =>
    rw [he] at h
    simp only [Option.map_some, Option.some.injEq] at h
    subst h
    obtain ⟨_, ss, _, _, hl⟩ := encLo_some he
    exact ⟨z.lb, z.ls, by simp only; omega⟩
theorem encAll_step {l : List Rlp} {i : Nat} {r : Rlp} {T : List Chk} {R : Option (List Chk)} (h : l[i]? = some r) (hR : (encAll (l.drop i)).map (T ++ ·) = R) : match encCk r with
    | none => R = none
    | some c => (encAll (l.drop (i + 1))).map ((T ++ [c]) ++ ·) = R := by
  obtain ⟨h1, h2⟩ := List.getElem?_eq_some_iff.1 h
  rw [List.drop_eq_getElem_cons h1, h2, encAll] at hR
  cases he : encCk r with
  | none => rw [he] at hR; exact hR.symm
  | some c =>
    rw [he] at hR
    simp only
    rw [← hR]
    cases encAll (l.drop (i + 1)) with
    | none => rfl
    | some z => simp
end Go.Proofs.YtedcnhbblgmdnaaGreat.Ab
namespace Go.Proofs.YtedcnhbblgmdnaaGreat.Ab
set_option maxHeartbeats 8000000
set_option maxRecDepth 10000
set_option linter.unusedSimpArgs false
set_option linter.unusedVariables false
theorem purVs_blk {c : C} {y : Pd} (h : purS c = some y) (s : St) {p0 p1 p2 : Pd} : purVs s [.agg [.p p0, .p p1, .p p2, c]] = some ([.agg [.p p0, .p p1, .p p2, .p y]], s) := by
  simp only [purVs, purV, purCs, purC_p, purC_S h, List.map_cons, List.map_nil]
theorem b40 : ((4 : Int) != 0) = true := by decide
/-- 31: Block -/
theorem pf31 (x : RSet) (id : Int) (hl : x.rs.length < 2^20) (hz : ∀ r ∈ x.rs, Rz r) : Pf E0 31 [.agg (x.pd.map .p), .c (.p (pI id))] (resB (blkB x id) (blkE x id)) := by
  have hfl := fRl x.rs
  have p62 := pf62 x (by omega) hz
  generalize hE : blkE x id = V
  generalize hB : blkB x id = B
  unfold blkB at hB
  rw [hE] at hB
  unfold blkE at hE
  refine Pf.body (fn := Tryz.f31) (by kernel_rfl) rfl ?_; simp only [List.map_cons, List.map_nil, List.cons_append, List.nil_append, List.length_cons, List.length_nil, Tryz.ntmps31, List.replicate, Nat.reduceSub, Nat.reduceAdd]
  refine Wc.seq ?_
  refine Wc.reg fun K hK => ?_; simp only [go_sem, ti3, ti4, ti5, ti9, ti32, ti22, ti29, ti31, ti60, ti62, ti65, ti67, ti94, ti96, Int.natCast_zero]; refine hK _ _ ?_; clear hK K
  refine Wc.seq (Wc.seq ?_)
  cases hok : setOK x with
  | false =>
    rw [hok, if_pos rfl] at hE
    subst hE
    rw [if_neg (by decide)] at hB
    subst hB
    rw [hok] at p62
    refine Wc.reg fun K hK => ?_; simp only [go_sem, ti3, ti4, ti5, ti9, ti32, ti22, ti29, ti31, ti60, ti62, ti65, ti67, ti94, ti96, Int.natCast_zero]
    refine wpCall.pf (p62) (by kernel_rfl) (by kernel_rfl) rfl rfl ?_
    simp only [go_sem, ti3, ti4, ti5, ti9, ti32, ti22, ti29, ti31, ti60, ti62, ti65, ti67, ti94, ti96, Int.natCast_zero]; refine hK _ _ ?_; clear hK K
    refine Wc.cond (t := true) (by simp only [go_sem, ti3, ti4, ti5, ti9, ti32, ti22, ti29, ti31, ti60, ti62, ti65, ti67, ti94, ti96, Int.natCast_zero]) (fun _ => ?_) (fun hc => by cases hc)
    refine Wc.seq ?_
    refine Wc.reg fun K hK => ?_; simp only [go_sem, ti3, ti4, ti5, ti9, ti32, ti22, ti29, ti31, ti60, ti62, ti65, ti67, ti94, ti96, Int.natCast_zero]; refine hK _ _ ?_; clear hK K
    exact Wc.ret (Pf.ret [.cell 4 67, .tmp 5] [.agg [.p (pI 0), .p (pI 0), .p (pI 0), .nils], .c (.p (pI 1))] rfl rfl (by simp only [resultsD, go_sem, ti3, ti4, ti5, ti9, ti32, ti22, ti29, ti31, ti60, ti62, ti65, ti67, ti94, ti96, Int.natCast_zero]) rfl)
  | true =>
  rw [hok, if_neg (by decide)] at hE
  rw [hok] at p62
  have hmem : ∀ r ∈ x.rs, r.w = x.w ∧ rlpOK r = true := by
    unfold setOK at hok
    rw [Bool.and_eq_true] at hok
    exact rsOK_mem hok.2
  refine Wc.reg fun K hK => ?_; simp only [go_sem, ti3, ti4, ti5, ti9, ti32, ti22, ti29, ti31, ti60, ti62, ti65, ti67, ti94, ti96, Int.natCast_zero]
  refine wpCall.pf (p62) (by kernel_rfl) (by kernel_rfl) rfl rfl ?_
  simp only [go_sem, ti3, ti4, ti5, ti9, ti32, ti22, ti29, ti31, ti60, ti62, ti65, ti67, ti94, ti96, Int.natCast_zero]; refine hK _ _ ?_; clear hK K
  refine Wc.cond (t := false) (by simp only [go_sem, ti3, ti4, ti5, ti9, ti32, ti22, ti29, ti31, ti60, ti62, ti65, ti67, ti94, ti96, Int.natCast_zero]) (fun hc => by cases hc) (fun _ => Wc.skip ?_)
  refine Wc.seqA (fun y => ∃ k6 xc, y.ds = [] ∧ Fs y.e 52 [(2, .v (.c (.ref 0 0))), (4, .v (.c (.ref 1 0))), (6, .v (.c (.ref k6 0)))] ∧ OA y.s.nx y.s [(16, .v (.c xc), 0, [])] [(k6, .cells [.p (pI id), .p (pI x.w), .p (pI x.fr), xc] false), (1, .cells [.p (pI 0), .p (pI 0), .p (pI 0), .nils] false), (0, .cells (x.pd.map .p) false)]) ?_ ?_
  · refine Wc.reg fun K hK => ?_; simp only [go_sem, ti3, ti4, ti5, ti9, ti32, ti22, ti29, ti31, ti60, ti62, ti65, ti67, ti94, ti96, Int.natCast_zero]; refine hK _ _ ?_; clear hK K
    exact ⟨rfl, 12, .nils, rfl, by simp only [Fs, Int.natCast_zero, go_sem, ti3, ti4, ti5, ti9, ti32, ti22, ti29, ti31, ti60, ti62, ti65, ti67, ti94, ti96, Int.natCast_zero], OA.nil (by (try simp only [St.put_adv, St.adv_adv, St.put_put, St.nx_put, St.nx_adv]); repeat (first | exact OA.mono s00_oa (by omega) | refine OA.newB ?_ (by omega) rfl | refine OA.putB ?_ (by omega) | refine OA.advB ?_))⟩
  rintro ⟨e, ds, s1⟩ ⟨k6, xc, rfl, hF, ho⟩
  simp only [Fs] at hF ho
  have hR0 : (encAll (x.rs.drop 0)).map ([] ++ ·) = encAll x.rs := by simp
  generalize encAll x.rs = R at hR0 hE hB
  refine Wc.seqR (fun y => ∃ k6 xc T, (R = some T ∧ T.length ≤ x.rs.length ∧ ∀ c ∈ T, Cz c) ∧ y.ds = [] ∧ Fs y.e 52 [(2, .v (.c (.ref 0 0))), (4, .v (.c (.ref 1 0))), (6, .v (.c (.ref k6 0)))] ∧ OA y.s.nx y.s [(16, .v (.c xc), T.length, T.flatMap Chk.pd)] [(k6, .cells [.p (pI id), .p (pI x.w), .p (pI x.fr), xc] false), (1, .cells [.p (pI 0), .p (pI 0), .p (pI 0), .nils] false), (0, .cells (x.pd.map .p) false)]) ?_ ?_
  · have g0 := ho.at_ (0, .cells (x.pd.map .p) false) (by simp)
    simp only [List.map_cons, List.map_nil] at g0
    refine Wc.seq ?_
    refine Wc.reg fun K hK => ?_; simp only [go_sem, ti3, ti4, ti5, ti9, ti32, ti22, ti29, ti31, ti60, ti62, ti65, ti67, ti94, ti96, Int.natCast_zero, hF, g0]; refine hK _ _ ?_; clear hK K
    refine Wc.block (Wc.loop (fun k y => ∃ (i k6 : Nat) (xc : C) (T : List Chk), k = x.rs.length - i ∧ (i ≤ x.rs.length ∧ T.length = i ∧ (∀ c ∈ T, Cz c) ∧ (encAll (x.rs.drop i)).map (T ++ ·) = R) ∧ y.ds = [] ∧ Fs y.e 52 [(2, .v (.c (.ref 0 0))), (4, .v (.c (.ref 1 0))), (6, .v (.c (.ref k6 0))), (23, P' (.lst x.rs.length (x.rs.flatMap Rlp.pd))), (24, P' (pI x.rs.length)), (25, P' (pI i))] ∧ OA y.s.nx y.s [(16, .v (.c xc), T.length, T.flatMap Chk.pd)] [(k6, .cells [.p (pI id), .p (pI x.w), .p (pI x.fr), xc] false), (1, .cells [.p (pI 0), .p (pI 0), .p (pI 0), .nils] false), (0, .cells (x.pd.map .p) false)]) ?_ (k := x.rs.length) ⟨0, k6, xc, [], rfl, ⟨by omega, rfl, fun c hc => (by cases hc), hR0⟩, rfl, by simp only [Fs, Int.natCast_zero, go_sem, ti3, ti4, ti5, ti9, ti32, ti22, ti29, ti31, ti60, ti62, ti65, ti67, ti94, ti96, Int.natCast_zero, hF], by (try simp only [St.nx_put, St.nx_adv]); repeat (first | exact OA.mono ho (by omega) | refine OA.newB ?_ (by omega) rfl | refine OA.advB ?_)⟩)
    clear hF ho g0 e s1 hR0 xc k6
    rintro k ⟨e, ds, s1⟩ ⟨i, k6, xc, T, rfl, ⟨hi, hTl, hTz, hR⟩, rfl, hF, ho⟩
    simp only [Fs] at hF ho
    refine Wc.seq ?_
    refine Wc.reg fun K hK => ?_; simp only [go_sem, ti3, ti4, ti5, ti9, ti32, ti22, ti29, ti31, ti60, ti62, ti65, ti67, ti94, ti96, Int.natCast_zero, hF]; refine hK _ _ ?_; clear hK K
    refine Wc.seq ?_
    refine Wc.cond (t := decide ((i : Int) < x.rs.length)) (by simp only [go_sem, ti3, ti4, ti5, ti9, ti32, ti22, ti29, ti31, ti60, ti62, ti65, ti67, ti94, ti96, Int.natCast_zero, hF]) (fun hc => ?_) (fun hc => ?_)
    · have hil : i < x.rs.length := by have := of_decide_eq_true hc; omega
      obtain ⟨c, hcc⟩ : ∃ c, x.rs[i]? = some c := ⟨x.rs[i], List.getElem?_eq_getElem hil⟩
      have zc := hz c (List.mem_of_getElem? hcc)
      have okc := (hmem c (List.mem_of_getElem? hcc)).2
      have hR := encAll_step hcc hR
      have hix := ixA ti60 rfl ti31 (j := i) (m := x.rs.length) (cs := x.rs.flatMap Rlp.pd) hil hfl (by decide)
      have hca := rpRl hcc
      have p51 := pf51 c zc.lb zc.ls
      refine Wc.skip (Wc.seq (Wc.block (Wc.seqA (fun y => ∃ k8, y.ds = [] ∧ Fs y.e 52 [(2, .v (.c (.ref 0 0))), (4, .v (.c (.ref 1 0))), (6, .v (.c (.ref k6 0))), (23, P' (.lst x.rs.length (x.rs.flatMap Rlp.pd))), (24, P' (pI x.rs.length)), (25, P' (pI i)), (8, .v (.c (.ref k8 0)))] ∧ OA y.s.nx y.s [(16, .v (.c xc), T.length, T.flatMap Chk.pd)] ((k8, .cells (c.pd.map .p) false) :: [(k6, .cells [.p (pI id), .p (pI x.w), .p (pI x.fr), xc] false), (1, .cells [.p (pI 0), .p (pI 0), .p (pI 0), .nils] false), (0, .cells (x.pd.map .p) false)])) ?_ ?_)))
      · refine Wc.reg fun K hK => ?_; simp only [go_sem, ti3, ti4, ti5, ti9, ti32, ti22, ti29, ti31, ti60, ti62, ti65, ti67, ti94, ti96, Int.natCast_zero, hF, hix, hca]; refine hK _ _ ?_; clear hK K
        exact ⟨rfl, s1.nx + 3, rfl, by simp only [Fs, Int.natCast_zero, go_sem, ti3, ti4, ti5, ti9, ti32, ti22, ti29, ti31, ti60, ti62, ti65, ti67, ti94, ti96, Int.natCast_zero, hF], by (try simp only [St.put_adv, St.adv_adv, St.put_put, St.nx_put, St.nx_adv]); repeat (first | exact OA.mono ho (by omega) | refine OA.newB ?_ (by omega) rfl | refine OA.putB ?_ (by omega) | refine OA.advB ?_)⟩
      clear hF ho e s1
      rintro ⟨e, ds, s1⟩ ⟨k8, rfl, hF, ho⟩
      simp only [Fs] at hF ho
      have g8 := ho.at_ (k8, .cells (c.pd.map .p) false) (by simp)
      have g1 := ho.at_ (1, .cells [.p (pI 0), .p (pI 0), .p (pI 0), .nils] false) (by simp)
      simp only [List.map_cons, List.map_nil] at g8
      have hen : encCk c = (encLo c).map fun d => ⟨6, c.lb, (rlpZ c.bs).g, d⟩ := rfl
      cases he : encLo c with
      | none =>
        rw [he, Option.map_none] at hen
        rw [hen] at hR
        simp only at hR
        subst hR
        rw [encR_none he, okc, if_pos rfl] at p51
        simp only at hE
        subst hE
        rw [if_neg (by decide)] at hB
        subst hB
        refine Wc.seq ?_
        refine Wc.reg fun K hK => ?_; simp only [go_sem, ti3, ti4, ti5, ti9, ti32, ti22, ti29, ti31, ti60, ti62, ti65, ti67, ti94, ti96, Int.natCast_zero, hF, g8]
        refine wpCall.pf (p51) (by kernel_rfl) (by kernel_rfl) rfl rfl ?_
        simp only [go_sem, ti3, ti4, ti5, ti9, ti32, ti22, ti29, ti31, ti60, ti62, ti65, ti67, ti94, ti96, Int.natCast_zero, hF]; refine hK _ _ ?_; clear hK K
        refine Wc.seq (Wc.seq ?_)
        refine Wc.reg fun K hK => ?_; simp only [go_sem, ti3, ti4, ti5, ti9, ti32, ti22, ti29, ti31, ti60, ti62, ti65, ti67, ti94, ti96, Int.natCast_zero, hF, b40]; refine hK _ _ ?_; clear hK K
        refine Wc.cond (t := true) (by simp only [go_sem, ti3, ti4, ti5, ti9, ti32, ti22, ti29, ti31, ti60, ti62, ti65, ti67, ti94, ti96, Int.natCast_zero, hF, b40]) (fun _ => ?_) (fun hc => by cases hc)
        refine Wc.seq ?_
        refine Wc.reg fun K hK => ?_; simp only [go_sem, ti3, ti4, ti5, ti9, ti32, ti22, ti29, ti31, ti60, ti62, ti65, ti67, ti94, ti96, Int.natCast_zero, hF, g1]; refine hK _ _ ?_; clear hK K
        exact Wc.ret (Pf.ret [.cell 4 67, .tmp 5] [.agg [.p (pI 0), .p (pI 0), .p (pI 0), .nils], .c (.p (pI 4))] rfl rfl (by simp only [resultsD, go_sem, ti3, ti4, ti5, ti9, ti32, ti22, ti29, ti31, ti60, ti62, ti65, ti67, ti94, ti96, Int.natCast_zero, hF]) rfl)
      | some d =>
      rw [he, Option.map_some] at hen
      have zck := encCk_z zc hen
      rw [hen] at hR
      simp only at hR
      rw [encR_some he] at p51
      refine Wc.seqA (fun y => ∃ k9, y.ds = [] ∧ Fs y.e 52 [(2, .v (.c (.ref 0 0))), (4, .v (.c (.ref 1 0))), (6, .v (.c (.ref k6 0))), (23, P' (.lst x.rs.length (x.rs.flatMap Rlp.pd))), (24, P' (pI x.rs.length)), (25, P' (pI i)), (9, .v (.c (.ref k9 0))), (10, P' (pI 0))] ∧ OA y.s.nx y.s [(16, .v (.c xc), T.length, T.flatMap Chk.pd)] ((k9, .cells ((Chk.mk 6 c.lb (rlpZ c.bs).g d).pd.map .p) false) :: [(k6, .cells [.p (pI id), .p (pI x.w), .p (pI x.fr), xc] false), (1, .cells [.p (pI 0), .p (pI 0), .p (pI 0), .nils] false), (0, .cells (x.pd.map .p) false)])) ?_ ?_
      · refine Wc.reg fun K hK => ?_; simp only [go_sem, ti3, ti4, ti5, ti9, ti32, ti22, ti29, ti31, ti60, ti62, ti65, ti67, ti94, ti96, Int.natCast_zero, hF, g8]
        refine wpCall.pf (p51) (by kernel_rfl) (by kernel_rfl) rfl rfl ?_
        simp only [go_sem, ti3, ti4, ti5, ti9, ti32, ti22, ti29, ti31, ti60, ti62, ti65, ti67, ti94, ti96, Int.natCast_zero, hF]; refine hK _ _ ?_; clear hK K
        exact ⟨rfl, s1.nx + 5, rfl, by simp only [Fs, Int.natCast_zero, go_sem, ti3, ti4, ti5, ti9, ti32, ti22, ti29, ti31, ti60, ti62, ti65, ti67, ti94, ti96, Int.natCast_zero, hF], by (try simp only [St.put_adv, St.adv_adv, St.put_put, St.nx_put, St.nx_adv]); repeat (first | exact OA.mono (ho.sub (List.Sublist.refl _) (List.sublist_cons_self _ _)) (by omega) | refine OA.newB ?_ (by omega) rfl | refine OA.putB ?_ (by omega) | refine OA.advB ?_)⟩
      generalize Chk.mk 6 c.lb (rlpZ c.bs).g d = ck at *
      clear hF ho g8 g1 e s1 p51 hen
      rintro ⟨e, ds, s1⟩ ⟨k9, rfl, hF, ho⟩
      simp only [Fs] at hF ho
      have g9 := ho.at_ (k9, .cells (ck.pd.map .p) false) (by simp)
      have g6 := ho.at_ (k6, .cells [.p (pI id), .p (pI x.w), .p (pI x.fr), xc] false) (by simp)
      simp only [List.map_cons, List.map_nil] at g9
      refine Wc.seq (Wc.seq ?_)
      refine Wc.reg fun K hK => ?_; simp only [go_sem, ti3, ti4, ti5, ti9, ti32, ti22, ti29, ti31, ti60, ti62, ti65, ti67, ti94, ti96, Int.natCast_zero, hF, b00]; refine hK _ _ ?_; clear hK K
      refine Wc.cond (t := false) (by simp only [go_sem, ti3, ti4, ti5, ti9, ti32, ti22, ti29, ti31, ti60, ti62, ti65, ti67, ti94, ti96, Int.natCast_zero, hF, b00]) (fun hc => by cases hc) (fun _ => Wc.skip ?_)
      refine Wc.reg fun K hK => ?_; simp only [go_sem, ti3, ti4, ti5, ti9, ti32, ti22, ti29, ti31, ti60, ti62, ti65, ti67, ti94, ti96, Int.natCast_zero, hF, g6, g9]
      refine OA.app (L1 := []) (L2 := []) (by_ := 120) (n := T.length) (m := 1) (ys := ck.pd) (cs := T.flatMap Chk.pd) (b := s1.nx + 6) (M := (k9, .cells (ck.pd.map .p) false) :: [(k6, .cells [.p (pI id), .p (pI x.w), .p (pI x.fr), xc] false), (1, .cells [.p (pI 0), .p (pI 0), .p (pI 0), .nils] false), (0, .cells (x.pd.map .p) false)]) ?_ (Nat.le_refl _) ⟨_, ti65, rfl⟩ ti96 rfl rfl rfl (by decide) (by decide) (by simp only [go_sem, ti3, ti4, ti5, ti9, ti32, ti22, ti29, ti31, ti60, ti62, ti65, ti67, ti94, ti96, Int.natCast_zero]) rfl (by omega) fun x' s3 hs hnx => ?_
      · exact by (try simp only [St.nx_put, St.nx_adv]); repeat (first | exact OA.mono ho (by omega) | refine OA.newB ?_ (by omega) rfl | refine OA.putB ?_ (by omega) | refine OA.advB ?_)
      obtain ⟨xc', rfl⟩ := (hs.own _ (List.mem_cons_self ..)).v
      have g6' := hs.at_ (k6, .cells [.p (pI id), .p (pI x.w), .p (pI x.fr), xc] false) (by simp)
      simp only [go_sem, ti3, ti4, ti5, ti9, ti32, ti22, ti29, ti31, ti60, ti62, ti65, ti67, ti94, ti96, Int.natCast_zero, hF, g6']; refine hK _ _ ?_; clear hK K
      have h5 := OA.set (M1 := []) (o' := .cells [.p (pI id), .p (pI x.w), .p (pI x.fr), xc'] false) (OA.sub (M1 := [(k6, .cells [.p (pI id), .p (pI x.w), .p (pI x.fr), xc] false), (1, .cells [.p (pI 0), .p (pI 0), .p (pI 0), .nils] false), (0, .cells (x.pd.map .p) false)]) hs (List.Sublist.refl _) (List.sublist_cons_self _ _)) rfl
      simp only [St.nx_put, St.nx_adv] at hnx
      refine Wc.reg fun K hK => ?_; simp only [go_sem, ti3, ti4, ti5, ti9, ti32, ti22, ti29, ti31, ti60, ti62, ti65, ti67, ti94, ti96, Int.natCast_zero, hF, i64n i (by omega)]; refine hK _ _ ?_; clear hK K
      refine ⟨x.rs.length - (i + 1), by omega, i + 1, k6, xc', T ++ [ck], rfl, ⟨by omega, by simp [hTl], fun c hc => ?_, hR⟩, rfl, by simp only [Fs, Int.natCast_zero, go_sem, ti3, ti4, ti5, ti9, ti32, ti22, ti29, ti31, ti60, ti62, ti65, ti67, ti94, ti96, Int.natCast_zero, hF], ?_⟩
      · rcases List.mem_append.1 hc with hc | hc
        · exact hTz c hc
        · rw [List.mem_singleton.1 hc]; exact zck
      · have e1 : (T ++ [ck]).length = T.length + 1 := by simp
        have e2 : (T ++ [ck]).flatMap Chk.pd = T.flatMap Chk.pd ++ ck.pd := by simp
        rw [e1, e2]
        exact OA.mono h5.adv (by simp only [St.nx_put, St.nx_adv]; omega)
    · have hil : i = x.rs.length := by have := of_decide_eq_false hc; omega
      rw [hil, List.drop_length] at hR
      refine Wc.exit ⟨k6, xc, T, ⟨?_, by omega, hTz⟩, rfl, by simp only [Fs, Int.natCast_zero, go_sem, ti3, ti4, ti5, ti9, ti32, ti22, ti29, ti31, ti60, ti62, ti65, ti67, ti94, ti96, Int.natCast_zero, hF], by (try simp only [St.nx_put, St.nx_adv]); repeat (first | exact OA.mono ho (by omega) | refine OA.newB ?_ (by omega) rfl | refine OA.advB ?_)⟩
      rw [← hR]; simp [encAll]
  clear hF ho e s1 hR0 xc k6
  rintro ⟨e, ds, s1⟩ ⟨k6, xc, T, ⟨rfl, hTl, hTz⟩, rfl, hF, ho⟩
  simp only [Fs] at hF ho
  simp only at hE hB
  have p63 := pf63 ⟨id, x.w, x.fr, T⟩ (by simp only; omega) hTz
  rw [hE] at p63
  have hpu := (ho.own _ (List.mem_cons_self ..)).purS
  have g6 := ho.at_ (k6, .cells [.p (pI id), .p (pI x.w), .p (pI x.fr), xc] false) (by simp)
  have g1 := ho.at_ (1, .cells [.p (pI 0), .p (pI 0), .p (pI 0), .nils] false) (by simp)
  refine Wc.seq (Wc.seq ?_)
  refine Wc.reg fun K hK => ?_; simp only [go_sem, ti3, ti4, ti5, ti9, ti32, ti22, ti29, ti31, ti60, ti62, ti65, ti67, ti94, ti96, Int.natCast_zero, hF, g6]
  refine wpCall.pf p63 (by kernel_rfl) (by kernel_rfl) rfl (purVs_blk hpu _) ?_
  simp only [go_sem, ti3, ti4, ti5, ti9, ti32, ti22, ti29, ti31, ti60, ti62, ti65, ti67, ti94, ti96, Int.natCast_zero, hF]; refine hK _ _ ?_; clear hK K
  refine Wc.seq ?_
  refine Wc.reg fun K hK => ?_; simp only [go_sem, ti3, ti4, ti5, ti9, ti32, ti22, ti29, ti31, ti60, ti62, ti65, ti67, ti94, ti96, Int.natCast_zero, hF]; refine hK _ _ ?_; clear hK K
  refine Wc.cond (t := V != 0) (by simp only [go_sem, ti3, ti4, ti5, ti9, ti32, ti22, ti29, ti31, ti60, ti62, ti65, ti67, ti94, ti96, Int.natCast_zero, hF]) (fun hc => ?_) (fun hc => ?_)
  · rw [if_neg (by simpa using hc)] at hB
    subst hB
    refine Wc.seq ?_
    refine Wc.reg fun K hK => ?_; simp only [go_sem, ti3, ti4, ti5, ti9, ti32, ti22, ti29, ti31, ti60, ti62, ti65, ti67, ti94, ti96, Int.natCast_zero, hF, g1]; refine hK _ _ ?_; clear hK K
    exact Wc.ret (Pf.ret [.cell 4 67, .tmp 5] [.agg [.p (pI 0), .p (pI 0), .p (pI 0), .nils], .c (.p (pI V))] rfl rfl (by simp only [resultsD, go_sem, ti3, ti4, ti5, ti9, ti32, ti22, ti29, ti31, ti60, ti62, ti65, ti67, ti94, ti96, Int.natCast_zero, hF]) rfl)
  have h0 : V = 0 := by simpa using hc
  subst h0
  rw [if_pos rfl] at hB
  subst hB
  refine Wc.skip (Wc.seq ?_)
  refine Wc.reg fun K hK => ?_; simp only [go_sem, ti3, ti4, ti5, ti9, ti32, ti22, ti29, ti31, ti60, ti62, ti65, ti67, ti94, ti96, Int.natCast_zero, hF, g6, g1]; refine hK _ _ ?_; clear hK K
  exact Wc.ret (Pf.ret [.cell 4 67, .tmp 5] [.agg [.p (pI id), .p (pI x.w), .p (pI x.fr), xc], .c (.p (pI 0))] rfl rfl (by simp only [resultsD, go_sem, ti3, ti4, ti5, ti9, ti32, ti22, ti29, ti31, ti60, ti62, ti65, ti67, ti94, ti96, Int.natCast_zero, hF]) (by simp only [packD, purD, purVs, purV, purCs, purC_S hpu, purC_p]; rfl))
end Go.Proofs.YtedcnhbblgmdnaaGreat.Ab
