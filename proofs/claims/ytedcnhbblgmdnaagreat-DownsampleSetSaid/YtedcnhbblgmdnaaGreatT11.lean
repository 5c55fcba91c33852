/- A part of the proof. -/
import Derived.Shelf.Strings.Builder1
import Derived.Test.YtedcnhbblgmdnaaGreatProg
import Derived.KernelRfl
import Derived.Test.YtedcnhbblgmdnaaGreatT10
set_option maxHeartbeats 8000000
set_option maxRecDepth 10000
set_option linter.unusedSimpArgs false
set_option linter.unusedVariables false
/- strings.Builder's copyCheck and String at this program: what the machine comes to. -/
namespace Go.Proofs.YtedcnhbblgmdnaaGreat
open Go.RowKit
theorem sizeB:(Tryz.prog.info? 245).map (·.size)=some 2:=by kernel_rfl
set_option maxHeartbeats 1000000 in
set_option maxRecDepth 100000 in
theorem copyCheck_used (b:Nat)(w:World)(h0:w.cell? ⟨b,0,none⟩=some (.pointer (some ⟨b,0,none⟩))) :
  Calls Tryz.prog 258 #[.pointer (some ⟨b,0,none⟩)] w fun e w'=>e=.returned (.tuple #[])∧w'=w:=by
 obtain⟨j,hj,hjs⟩:=Option.map_eq_some_iff.1 sizeB
 go_enter Tryz.func258,Tryz.ntmps258
 go_wp2
 rw[Lib.run_neq_ptr_same w _ Tryz.underlying243 hj]
 go_wp2
 go_end0
 exact⟨rfl,rfl⟩
set_option maxHeartbeats 1000000 in
set_option maxRecDepth 100000 in
theorem copyCheck_fresh (b:Nat)(w:World)(h0:w.cell? ⟨b,0,none⟩=some (.pointer none))(hsh:w.shape? b=some (245,2))(hfz:w.frozen? ⟨b,0,none⟩=false) :
  Calls Tryz.prog 258 #[.pointer (some ⟨b,0,none⟩)] w fun e w'=>e=.returned (.tuple #[])∧w'=w.setCell ⟨b,0,none⟩ (.pointer (some ⟨b,0,none⟩)):=by
 obtain⟨j,hj,hjs⟩:=Option.map_eq_some_iff.1 sizeB
 go_enter Tryz.func258,Tryz.ntmps258
 go_wp2
 rw[Lib.run_to_unsafe w ⟨b,0,none⟩ Tryz.underlying243 Tryz.underlying288 hj (by rw[hjs];decide) hsh (Nat.zero_lt_succ 1)]
 simp only[Result.andThen]
 rw[Oper.upon_value]
 go_wp2
 rw[run_callFunc_extern Tryz.func280 (by kernel_rfl) (by kernel_rfl) (by kernel_rfl) (e:=Extern.AbiNoEscape.same) (by kernel_rfl)]
 rw[Lib.run_noEscape]
 simp only[Result.andThen]
 rw[Oper.upon_value]
 go_wp2
 rw[Lib.run_from_unsafe w ⟨b,0,none⟩ Tryz.underlying288 Tryz.underlying243 hj hsh (by kernel_rfl)]
 simp only[Result.andThen]
 rw[Oper.upon_value]
 go_wp2
 go_end0
 exact⟨rfl,rfl⟩
set_option maxHeartbeats 2000000 in
set_option maxRecDepth 100000 in
theorem string_some (b g cap:Nat)(p:Value)(cur:Array Value)(fz:Nat×Nat)(l:List UInt8)(w:World)(h0:l≠[])(hbk:w.heap[b]? = some (.cells #[p,.slice (some ⟨g,0,none⟩) l.length cap] 245 (0,0)))
  (hg:w.heap[g]? = some (.cells cur 5 fz)) (hnc:l.length≤cap) (hcs:cur.size=cap) (hcm:l.length≤9223372036854775807) (hcell:∀(j:Nat) x,l[j]? = some x→cur[j]? = some (.int .u8 x.toNat)) :
  Calls Tryz.prog 230 #[.pointer (some ⟨b,0,none⟩)] w fun e w'=>e=.returned (.string ⟨l.toArray⟩)∧w'=w.drew.freeze ⟨g,0,none⟩ l.length:=by
 have hl0:l.length≠0:=by simpa using h0
 have c1:w.drew.cell? ⟨b,1,none⟩=some (.slice (some ⟨g,0,none⟩) l.length cap):=by
  have:w.drew.heap[b]? = some (.cells #[p,.slice (some ⟨g,0,none⟩) l.length cap] 245 (0,0)):=hbk
  rw[Lib.cell_of_heap this];rfl
 have hSD:(Builtin.unsafeSliceData_ #[214] 275 #[.slice (some ⟨g,0,none⟩) l.length cap]).run Tryz.prog w.drew=.ok (.pointer (some ⟨g,0,none⟩)) w.drew :=
  Lib.run_unsafeSliceData_row _ _ _ _ _ _ (by omega)
 have hUS:(Builtin.unsafeString_ #[275,3] 9 #[.pointer (some ⟨g,0,none⟩),.int .i64 l.length]).run Tryz.prog w.drew=.ok (.string ⟨l.toArray⟩) (w.drew.freeze ⟨g,0,none⟩ l.length):=by
  have hg':w.drew.heap[g]? = some (.cells cur 5 fz):=hg
  refine Lib.run_unsafeString_row w.drew 275 3 9 5 Tryz.underlying275 (by kernel_rfl) g cur.size (by simp[World.shape?,hg']) l h0 (by omega) (by omega) ?_;intro j x hx
  have h:=hcell j x hx
  rw[show(⟨g,0,none⟩:Addr).add j=⟨g,j,none⟩ by unfold Addr.add;split<;>simp_all,Lib.cell_of_heap hg']
  exact h
 have mixed:Tryz.prog.follows .mixedOrders=true:=by kernel_rfl
 go_enter Tryz.func230,Tryz.ntmps230
 go_wp2
 go_region_o
 all_goals (go_wp2;go_ret;exact⟨rfl,rfl⟩)
set_option maxHeartbeats 2000000 in
set_option maxRecDepth 100000 in
theorem string_none (b:Nat)(p:Value)(w:World)(hbk:w.heap[b]? = some (.cells #[p,.slice none 0 0] 245 (0,0))) :
  Calls Tryz.prog 230 #[.pointer (some ⟨b,0,none⟩)] w fun e w'=>e=.returned (.string ⟨#[]⟩)∧w'=w.drew:=by
 have hUS:∀(W:World) (q:Option Addr),(Builtin.unsafeString_ #[275,3] 9 #[.pointer q,.int .i64 0]).run Tryz.prog W=.ok (.string .empty) W:=fun W q=>Lib.run_unsafeString_none W _ _ _ q
 have c1:w.drew.cell? ⟨b,1,none⟩=some (.slice none 0 0):=by
  have:w.drew.heap[b]? = some (.cells #[p,.slice none 0 0] 245 (0,0)):=hbk
  rw[Lib.cell_of_heap this];rfl
 have hSD:(Builtin.unsafeSliceData_ #[214] 275 #[.slice none 0 0]).run Tryz.prog w.drew=.ok (.pointer none) w.drew:=rfl
 have mixed:Tryz.prog.follows .mixedOrders=true:=by kernel_rfl
 go_enter Tryz.func230,Tryz.ntmps230
 go_wp2
 go_region_o
 all_goals (go_wp2;go_ret;exact⟨rfl,rfl⟩)
end Go.Proofs.YtedcnhbblgmdnaaGreat
/- strings.Builder's copyCheck and String: what is told of them in the evaluator is the machine's. -/
namespace Go.Proofs.YtedcnhbblgmdnaaGreat.Ab
open Go.RowKit
variable {X:Ctx} {G G':Gh} {s s':St} {W W':World}
theorem relCL_two {x y:C}{arr:Array Value}(h:relCL G s W [x,y] arr.toList):∃ u v,arr = #[u,v]∧relC G s W x u∧relC G s W y v:=by
 obtain⟨u,t,h1,h2,v,t2,h3,h4,h5⟩:=h
 subst h3;simp only[relCL] at h5;subst h5
 exact⟨u,v,by rw[← Array.toArray_toList (xs:=arr),h1],h2,h4⟩
theorem relVL_one {x:V}{arr:Array Value}(h:relVL G s W [x] arr.toList):∃ u,arr = #[u]∧relV G s W x u:=by
 obtain⟨u,t,h1,h2,h3⟩:=h
 simp only[relVL] at h3;subst h3
 exact⟨u,by rw[← Array.toArray_toList (xs:=arr),h1],h2⟩
theorem freeze_heap (w:World)(g n b:Nat):(w.freeze ⟨g,0,none⟩ n).heap[b]? = if b=g∧n≠0 then (w.heap[b]?).map fun
   |.cells c elem (lo,hi)=>.cells c elem (if lo==hi then (0,0+n) else (min lo 0,max hi (0+n)))
   |o=>o
  else w.heap[b]?:=by
 unfold World.freeze
 by_cases h0:n=0
 ·simp[h0]
 ·rw[if_neg h0]
  simp only[Array.getElem?_modify]
  by_cases hb:g=b
  ·subst hb;rw[if_pos rfl,if_pos ⟨rfl,h0⟩];cases w.heap[g]? with
   |none=>rfl
   |some o=>cases o<;>rfl
  ·rw[if_neg hb,if_neg (fun h=>hb h.1.symm)]
theorem freeze_ok (hI:Inv X G s W){id n t:Nat}(hid:s.get id=some (.front 1 n t))(ht:t≠0)(ht2:t≠999983):Inv X G s (W.freeze ⟨G.blk id,0,none⟩ n)∧Ext G s W G s (W.freeze ⟨G.blk id,0,none⟩ n):=by
 obtain⟨hB,arr,e,fz,hg,hsz,hn,him,hfz,htg⟩:=hI.ob id _ hid
 have htg':=(htg.resolve_left ht).resolve_right fun h=>ht2 h.1
 have hnew:∃ fz',(W.freeze ⟨G.blk id,0,none⟩ n).heap[G.blk id]? = some (.cells arr e fz')∧fz'.2≤n:=by
  rw[freeze_heap]
  obtain⟨lo,hi⟩:=fz
  by_cases h0:n=0
  ·rw[if_neg (by simp[h0])];exact⟨_,hg,by have:=htg'.2.2;simp at this ⊢;omega⟩
  ·rw[if_pos ⟨rfl,h0⟩,hg]
   refine⟨_,rfl,?_⟩
   have:=htg'.2.2
   simp only[Nat.mul_one] at this
   split
   ·simp
   ·simp only[Nat.zero_add];omega
 obtain⟨fz',hg',hf'⟩:=hnew
 have hoth:∀ b,b≠G.blk id→(W.freeze ⟨G.blk id,0,none⟩ n).heap[b]? = W.heap[b]?:=fun b hb=>by
  rw[freeze_heap,if_neg (fun h=>hb h.1)]
 have hcell:∀ b o,(W.freeze ⟨G.blk id,0,none⟩ n).cell? ⟨b,o,none⟩=W.cell? ⟨b,o,none⟩:=fun b o=>by
  by_cases hb:b=G.blk id
  ·subst hb
   rw[Lib.cell_of_heap hg',Lib.cell_of_heap hg]
  ·exact World.cell?_of_block (w:=W) (hoth b hb)
 have hbel:Below X.B W (W.freeze ⟨G.blk id,0,none⟩ n):=Lib.below_freeze (Below.refl X.B W) (p:=⟨G.blk id,0,none⟩) hB n
 have hext:Ext G s W G s (W.freeze ⟨G.blk id,0,none⟩ n):=⟨fun b o hi=>⟨hi,hcell b o⟩,Nat.le_refl _,fun _ h=>h,fun k es m' tg' _ h=>⟨m',tg',h,Nat.le_refl _,fun _=>⟨rfl,rfl⟩⟩,fun _ h=>⟨h,rfl⟩,fun k es m' cs' fz' _ h=>⟨m',cs',fz',h,Nat.le_refl _,fun _=>⟨rfl,rfl⟩⟩⟩
 refine⟨⟨hI.below.trans hbel,Nat.le_trans hI.bsz hbel.size,fun b o h=>Nat.lt_of_lt_of_le (hI.immlt b o h) hbel.size,hI.immnew,hI.lt,fun k o h=>?_,hI.inj⟩,hext⟩
 by_cases hk:k=id
 ·subst hk
  rw[hid] at h
  cases h
  exact⟨hB,arr,e,fz',hg',hsz,hn,him,.inl (by omega),.inr (.inl ⟨ht2,htg'.2.1,by omega⟩)⟩
 ·by_cases hl:o.live
  ·exact relOb_keep hext rfl rfl (hoth _ fun e=>hk (hI.inj k id o _ h hid hl trivial e)) (fun _ h=>h) (hI.ob k o h)
  ·exact relOb_dead hl
theorem bldK_ok:XtOK Tryz.prog 258 bldK where
 free args s d s' h:=by
  unfold bldK at h
  split at h
  ·split at h
   ·rename_i hg
    split at h
    ·cases h
     refine⟨Nat.le_refl _,fun k hk hn=>?_⟩
     rw[St.get_put,if_neg];exact hn
     rintro rfl
     rw[hg] at hn;cases hn
    ·cases h
   ·split at h
    ·cases h;exact⟨Nat.le_refl _,fun k _ hn=>hn⟩
    ·cases h
   ·cases h
  ·cases h
 calls args s d s' X G W vargs hI ha h:=by
  refine⟨fun W=>enters_of Tryz.func258 (by kernel_rfl) rfl _ _,?_⟩
  rw[FW_none]
  refine callsIn_wide.2 ?_;unfold bldK at h
  split at h
  ·rename_i r off
   obtain⟨va,rfl,hva⟩:=relVL_one ha
   obtain⟨_,rfl⟩:=hva
   split at h
   ·rename_i t b hg
    split at h
    ·rename_i hc
     obtain⟨rfl,rfl⟩:=hc
     cases h
     obtain⟨hB,arr,hh,hrel,him⟩:=hI.ob r _ hg
     obtain⟨u,v,rfl,hu,hv⟩:=relCL_two hrel
     have hu':u=.pointer none:=hu
     subst hu'
     have hcell:W.cell? ⟨G.blk r,0,none⟩=some (.pointer none):=by rw[Lib.cell_of_heap hh];rfl
     have hfro:W.frozen? ⟨G.blk r,0,none⟩=false:=by simp[World.frozen?,hh]
     refine(copyCheck_fresh (G.blk r) W hcell (by simp[World.shape?,hh]) hfro).mono ?_
     rintro e w' ⟨rfl,rfl⟩
     obtain⟨W',h1,h2,h3⟩:=store_tc (P:=Tryz.prog) hI hg (off:=0) (xs:=[.ref r 0]) (ws:=[.pointer (some ⟨G.blk r,0,none⟩)]) ⟨_,_,rfl,⟨⟨_,hg,rfl⟩,rfl⟩,rfl⟩ (by simp)
     have hadd:(⟨G.blk r,0,none⟩:Addr).add 0=⟨G.blk r,0,none⟩:=by unfold Addr.add;split<;>simp_all
     have hst:(store ((⟨G.blk r,0,none⟩:Addr).add 0) (.pointer (some ⟨G.blk r,0,none⟩))).run Tryz.prog W=.ok () (W.setCell ⟨G.blk r,0,none⟩ (.pointer (some ⟨G.blk r,0,none⟩))):=by
      rw[hadd,run_store Tryz.prog W _ _ _ rfl,hcell]
      simp[hfro]
     simp only[storeCells,Sem.run_bind,hst,Result.andThen_ok,Sem.run_pure,Result.ok.injEq,true_and] at h1;subst h1
     exact⟨_,G,rfl,h2,h3,⟨#[],rfl,rfl⟩⟩
    ·cases h
   ·rename_i t r' o' b hg
    split at h
    ·rename_i hc
     obtain⟨rfl,rfl,rfl,rfl⟩:=hc
     cases h
     obtain⟨hB,arr,hh,hrel,him⟩:=hI.ob _ _ hg
     obtain⟨u,v,rfl,hu,hv⟩:=relCL_two hrel
     obtain⟨_,rfl⟩:=hu
     have hcell:W.cell? ⟨G.blk r',0,none⟩=some (.pointer (some ⟨G.blk r',0,none⟩)):=by rw[Lib.cell_of_heap hh];rfl
     refine(copyCheck_used (G.blk r') W hcell).mono ?_
     rintro e w' ⟨rfl,rfl⟩
     exact⟨_,G,rfl,hI,Ext.refl _ _ _,⟨#[],rfl,rfl⟩⟩
    ·cases h
   ·cases h
  ·cases h
theorem bldS_ok:XtOK Tryz.prog 230 bldS where
 free args s d s' h:=by
  unfold bldS at h
  repeat' split at h
  all_goals first
   |(cases h;done)
   |(cases h;exact⟨Nat.le_refl _,fun k _ hn=>hn⟩)
 calls args s d s' X G W vargs hI ha h:=by
  refine⟨fun W=>enters_of Tryz.func230 (by kernel_rfl) rfl _ _,?_⟩
  rw[FW_none]
  refine callsIn_wide.2 ?_;unfold bldS at h
  split at h
  ·rename_i r off
   obtain⟨va,rfl,hva⟩:=relVL_one ha
   obtain⟨_,rfl⟩:=hva
   split at h
   ·rename_i t p hg
    split at h
    ·rename_i hc
     obtain⟨rfl,rfl⟩:=hc
     cases h
     obtain⟨hB,arr,hh,hrel,him⟩:=hI.ob r _ hg
     obtain⟨u,v,rfl,hu,hv⟩:=relCL_two hrel
     obtain rfl:v=.slice none 0 0:=hv
     refine(string_none (G.blk r) u W hh).mono ?_
     rintro e w' ⟨rfl,rfl⟩
     exact⟨_,G,rfl,hI.drew,Ext.drew _ _ _,⟨⟨#[]⟩,rfl,rfl⟩⟩
    ·cases h
   ·rename_i t p n b id hg
    split at h
    ·rename_i es m u l hid hb
     split at h
     ·rename_i hc
      obtain⟨rfl,rfl,rfl,rfl,rfl,hl,hn,hn2⟩:=hc
      cases h;obtain rfl:=allM_byteS hb
      obtain⟨hB,arr,hh,hrel,him⟩:=hI.ob r _ hg
      obtain⟨u,v,rfl,hu,hp,hhas,hown⟩:=relCL_two hrel
      obtain⟨_,hv⟩:=hown _ _ _ hid
      obtain rfl:=hv rfl;subst hl
      have hl0:l≠[]:=fun e=>by rw[e] at hn;simp at hn
      obtain⟨a,c,hac,hnc,hcs⟩:=slice_elems (G:=G) (s:=s) hp
      cases hac
      obtain⟨b,o,hbo,hr⟩:=hcs (by simpa using hl0)
      cases hbo
      obtain⟨hB2,cur,e5,fz,hcur,hsz,hcap,him2,hfz,htg⟩:=hI.ob _ _ hid
      obtain⟨_,rfl,_⟩:=(htg.resolve_left (by decide)).resolve_right fun h=>absurd h.1 (by decide)
      refine(string_some (G.blk r) (G.blk id) (G.cap id) u cur fz l W hl0 hh hcur hcap (by omega) (by omega) fun j x hx=>?_).mono ?_
      ·obtain⟨w,h1,_,h2⟩:=relCs_get hr j (pdOfByte x) (by simp[hx])
       rw[Nat.zero_add,Lib.cell_of_heap hcur] at h1
       rw[h1]
       exact congrArg some h2
      ·rintro e w' ⟨rfl,rfl⟩
       obtain⟨i1,e1⟩:=freeze_ok hI.drew hid (by decide) (by decide)
       exact⟨_,G,rfl,i1,(Ext.drew _ _ _).trans e1,⟨_,rfl,by simp⟩⟩
     ·cases h
    ·cases h
   ·cases h
  ·cases h
end Go.Proofs.YtedcnhbblgmdnaaGreat.Ab
