/- A part of the proof. -/
import Derived.Lib.IndexAny
import Derived.Test.YtedcnhbblgmdnaaGreatT11
import Derived.Test.YtedcnhbblgmdnaaGreatT12
import Derived.Test.YtedcnhbblgmdnaaGreatT1
import Derived.Test.YtedcnhbblgmdnaaGreatProg
import Derived.KernelRfl
import Derived.Laws.StructEq
import Derived.DeepKeys
set_option maxHeartbeats 8000000
set_option maxRecDepth 10000
set_option linter.unusedSimpArgs false
set_option linter.unusedVariables false
/- strings.Contains, of one byte, is told by its effect. -/
namespace Go.Proofs.YtedcnhbblgmdnaaGreat.Ab
open Go.RowKit
theorem relVL_two {G:Gh}{s:St}{W:World}{x y:V}{vs:List Value}(h:relVL G s W [x,y] vs):∃ u v,vs=[u,v]∧relV G s W x u∧relV G s W y v:=by
 cases vs with
 |nil=>exact absurd h (by simp[relVL])
 |cons u r =>
  obtain⟨_,_,he,h1,h2⟩:=h
  cases he
  obtain⟨_,_,he2,h3,h4⟩:=h2
  exact⟨_,_,by rw[he2,show _=[] from h4],h1,h3⟩
theorem conL_ok:XtOK Tryz.prog 137 conL where
 free args s d s' h:=by
  unfold conL at h
  split at h
  ·cases h;exact⟨Nat.le_refl _,fun k _ hn=>hn⟩
  ·cases h
 calls args s d s' X G W vargs hI ha h:=by
  refine⟨fun W=>enters_of Tryz.func137 (by kernel_rfl) rfl _ _,?_⟩
  rw[FW_none]
  refine callsIn_wide.2 ?_;unfold conL at h
  split at h
  ·rename_i l c
   cases h
   obtain⟨u,v,hv,h1,h2⟩:=relVL_two ha
   obtain⟨t1,rfl,rfl⟩:=h1
   obtain⟨t2,rfl,h2⟩:=h2
   have ht:t2=⟨#[c]⟩:=by
    obtain⟨⟨l2⟩⟩:=t2
    simp only at h2
    rw[h2]
   subst ht
   have hva:vargs = #[.string t1,.string ⟨#[c]⟩]:=by
    rw[← Array.toArray_toList (xs:=vargs),hv]
   subst hva
   refine(Tryz.strings_Contains_one t1 c W).mono ?_
   rintro e w' ⟨rfl,rfl⟩
   refine⟨_,G,rfl,hI,Ext.refl _ _ _,?_⟩
   rw[Lib.contains_iff_indexByte]
   rfl
  ·cases h
end Go.Proofs.YtedcnhbblgmdnaaGreat.Ab
/- '==' at the structs of this program that are compared. -/
namespace Go.Proofs.YtedcnhbblgmdnaaGreat.Ab
open Go.RowKit
theorem eqVs_nil {l:List Value}{b:Bool}(h:eqVs [] l=some b):l=[]∧b=true:=by
 cases l with
 |nil=>simp only[eqVs,Option.some.injEq] at h;exact⟨rfl,h.symm⟩
 |cons=>simp[eqVs] at h
theorem eqVs_int {k:IntKind}{a:Int}{r l:List Value}{b:Bool}(h:eqVs (.int k a::r) l=some b):∃ n t c,l=.int k n::t∧eqVs r t=some c∧b=((a==n)&&c):=by
 cases l with
 |nil=>simp[eqVs] at h
 |cons y t =>
  simp only[eqVs] at h;cases y<;>simp only[eqV1,reduceCtorEq] at h
  rename_i k' n
  by_cases hk:k=k'
  ·subst hk
   rw[if_pos rfl] at h
   simp only at h
   split at h
   ·cases h
   ·rename_i c hc
    cases h
    exact⟨n,t,c,rfl,hc,rfl⟩
  ·rw[if_neg hk] at h;cases h
theorem eqVs_str {a:ByteArray}{r l:List Value}{b:Bool}(h:eqVs (.string a::r) l=some b):∃ n t c,l=.string n::t∧eqVs r t=some c∧b=((a.data.toList==n.data.toList)&&c):=by
 cases l with
 |nil=>simp[eqVs] at h
 |cons y t =>
  simp only[eqVs] at h;cases y<;>simp only[eqV1,reduceCtorEq] at h
  split at h
  ·cases h
  ·rename_i c hc
   cases h
   exact⟨_,t,c,rfl,hc,rfl⟩
theorem ifeq {a b:Int}{r:Result Bool}{c:Bool}{W:World}(h:r=.ok c W):(if a=b then r else .ok false W)=.ok (a==b&&c) W:=by
 subst h
 by_cases e:a=b<;>simp[e]
theorem eq39:EqOK Tryz.prog 39:=by
 intro W zv xs ys b b0 hz h0 h
 rw[Tryz.zeroValue39] at hz
 cases hz
 obtain⟨xl⟩:=xs
 obtain⟨yl⟩:=ys
 obtain⟨x0,t0,c0,e0,g0,_⟩:=eqVs_int h0
 obtain⟨x1,t1,c1,e1,g1,_⟩:=eqVs_int g0
 obtain⟨e2,_⟩:=eqVs_nil g1
 subst e2;subst e1;simp only at e0;subst e0;clear g0 g1 h0
 obtain⟨y0,t0,c0,e0,g0,b1⟩:=eqVs_int h
 obtain⟨y1,t1,c1,e1,g1,b2⟩:=eqVs_int g0
 obtain⟨e2,b3⟩:=eqVs_nil g1
 subst e2;subst e1;simp only at e0;subst e0;subst b3;subst b2;subst b1;clear g0 g1 h
 refine⟨fun op x y=>run_eqGuard_agg W op 39 x y _ _ (by kernel_rfl),?_⟩
 show(Op.equalIn 10000 39 _ _).run Tryz.prog W=_
 rw[run_equalIn_agg W 9999 39 _ _ (by kernel_rfl) (by kernel_rfl)]
 simp only[Program.fieldsOf,Tryz.underlying39]
 simp[go_sem]
 by_cases h1:x0=y0<;>by_cases h2:x1=y1<;>simp[h1,h2]
theorem eq205:EqOK Tryz.prog 205:=by
 intro W zv xs ys b b0 hz h0 h
 rw[Tryz.zeroValue205] at hz
 cases hz
 obtain⟨xl⟩:=xs
 obtain⟨yl⟩:=ys
 obtain⟨x0,t0,c0,e0,g0,_⟩:=eqVs_int h0
 obtain⟨x1,t1,c1,e1,g1,_⟩:=eqVs_int g0
 obtain⟨e2,_⟩:=eqVs_nil g1
 subst e2;subst e1;simp only at e0;subst e0;clear g0 g1 h0
 obtain⟨y0,t0,c0,e0,g0,b1⟩:=eqVs_int h
 obtain⟨y1,t1,c1,e1,g1,b2⟩:=eqVs_int g0
 obtain⟨e2,b3⟩:=eqVs_nil g1
 subst e2;subst e1;simp only at e0;subst e0;subst b3;subst b2;subst b1;clear g0 g1 h
 refine⟨fun op x y=>run_eqGuard_agg W op 205 x y _ _ (by kernel_rfl),?_⟩
 show(Op.equalIn 10000 205 _ _).run Tryz.prog W=_
 rw[run_equalIn_agg W 9999 205 _ _ (by kernel_rfl) (by kernel_rfl)]
 simp only[Program.fieldsOf,Tryz.underlying205]
 simp[go_sem]
 by_cases h1:x0=y0<;>by_cases h2:x1=y1<;>simp[h1,h2]
theorem eq117:EqOK Tryz.prog 117:=by
 intro W zv xs ys b b0 hz h0 h
 rw[Tryz.zeroValue117] at hz
 cases hz
 obtain⟨xl⟩:=xs
 obtain⟨yl⟩:=ys
 obtain⟨x0,t0,c0,e0,g0,_⟩:=eqVs_str h0
 obtain⟨x1,t1,c1,e1,g1,_⟩:=eqVs_str g0
 obtain⟨e2,_⟩:=eqVs_nil g1
 subst e2;subst e1;simp only at e0;subst e0;clear g0 g1 h0
 obtain⟨y0,t0,c0,e0,g0,b1⟩:=eqVs_str h
 obtain⟨y1,t1,c1,e1,g1,b2⟩:=eqVs_str g0
 obtain⟨e2,b3⟩:=eqVs_nil g1
 subst e2;subst e1;simp only at e0;subst e0;subst b3;subst b2;subst b1;clear g0 g1 h
 refine⟨fun op x y=>run_eqGuard_agg W op 117 x y _ _ (by kernel_rfl),?_⟩
 show(Op.equalIn 10000 117 _ _).run Tryz.prog W=_
 rw[run_equalIn_agg W 9999 117 _ _ (by kernel_rfl) (by kernel_rfl)]
 simp only[Program.fieldsOf,Tryz.underlying117]
 simp[go_sem]
 simp only[bytes_toList,Array.toList_inj]
 by_cases h1:x0.data=y0.data<;>by_cases h2:x1.data=y1.data<;>simp[h1,h2]
theorem eq94:EqOK Tryz.prog 94:=by
 intro W zv xs ys b b0 hz h0 h
 rw[Tryz.zeroValue94] at hz
 cases hz
 obtain⟨xl⟩:=xs
 obtain⟨yl⟩:=ys
 obtain⟨x0,t0,c0,e0,g0,_⟩:=eqVs_int h0
 obtain⟨x1,t1,c1,e1,g1,_⟩:=eqVs_int g0
 obtain⟨x2,t2,c2,e2,g2,_⟩:=eqVs_int g1
 obtain⟨x3,t3,c3,e3,g3,_⟩:=eqVs_int g2
 obtain⟨x4,t4,c4,e4,g4,_⟩:=eqVs_int g3
 obtain⟨x5,t5,c5,e5,g5,_⟩:=eqVs_int g4
 obtain⟨x6,t6,c6,e6,g6,_⟩:=eqVs_int g5
 obtain⟨x7,t7,c7,e7,g7,_⟩:=eqVs_int g6
 obtain⟨x8,t8,c8,e8,g8,_⟩:=eqVs_int g7
 obtain⟨x9,t9,c9,e9,g9,_⟩:=eqVs_int g8
 obtain⟨x10,t10,c10,e10,g10,_⟩:=eqVs_int g9
 obtain⟨x11,t11,c11,e11,g11,_⟩:=eqVs_int g10
 obtain⟨x12,t12,c12,e12,g12,_⟩:=eqVs_int g11
 obtain⟨e13,_⟩:=eqVs_nil g12
 subst e13;subst e12;subst e11;subst e10;subst e9;subst e8;subst e7;subst e6;subst e5;subst e4;subst e3;subst e2;subst e1;simp only at e0;subst e0;clear g0 g1 g2 g3 g4 g5 g6 g7 g8 g9 g10 g11 g12 h0
 obtain⟨y0,t0,c0,e0,g0,b1⟩:=eqVs_int h
 obtain⟨y1,t1,c1,e1,g1,b2⟩:=eqVs_int g0
 obtain⟨y2,t2,c2,e2,g2,b3⟩:=eqVs_int g1
 obtain⟨y3,t3,c3,e3,g3,b4⟩:=eqVs_int g2
 obtain⟨y4,t4,c4,e4,g4,b5⟩:=eqVs_int g3
 obtain⟨y5,t5,c5,e5,g5,b6⟩:=eqVs_int g4
 obtain⟨y6,t6,c6,e6,g6,b7⟩:=eqVs_int g5
 obtain⟨y7,t7,c7,e7,g7,b8⟩:=eqVs_int g6
 obtain⟨y8,t8,c8,e8,g8,b9⟩:=eqVs_int g7
 obtain⟨y9,t9,c9,e9,g9,b10⟩:=eqVs_int g8
 obtain⟨y10,t10,c10,e10,g10,b11⟩:=eqVs_int g9
 obtain⟨y11,t11,c11,e11,g11,b12⟩:=eqVs_int g10
 obtain⟨y12,t12,c12,e12,g12,b13⟩:=eqVs_int g11
 obtain⟨e13,b14⟩:=eqVs_nil g12
 subst e13;subst e12;subst e11;subst e10;subst e9;subst e8;subst e7;subst e6;subst e5;subst e4;subst e3;subst e2;subst e1;simp only at e0;subst e0;subst b14;subst b13;subst b12;subst b11;subst b10;subst b9;subst b8;subst b7;subst b6;subst b5;subst b4;subst b3;subst b2;subst b1;clear g0 g1 g2 g3 g4 g5 g6 g7 g8 g9 g10 g11 g12 h
 refine⟨fun op x y=>run_eqGuard_agg W op 94 x y _ _ (by kernel_rfl),?_⟩
 show(Op.equalIn 10000 94 _ _).run Tryz.prog W=_
 rw[run_equalIn_agg W 9999 94 _ _ (by kernel_rfl) (by kernel_rfl)]
 simp only[Program.fieldsOf,Tryz.underlying94]
 obtain⟨j,hj⟩:∃ j,Tryz.prog.info? 91=some j:=Option.isSome_iff_exists.1 (by kernel_rfl)
 have hc:Tryz.prog.cellsOf 91=1:=by kernel_rfl
 simp[go_sem]
 rw[run_equalIn_array W 9998 _ _ Tryz.underlying92 hj]
 simp[Op.eqItems,hc,List.range,List.range.loop,go_sem]
 iterate 12 refine ifeq ?_
 by_cases h:x12=y12<;>simp[h]
theorem eq41:EqOK Tryz.prog 41:=by
 intro W zv xs ys b b0 hz h0 h
 rw[Tryz.zeroValue41] at hz
 cases hz
 obtain⟨xl⟩:=xs
 obtain⟨yl⟩:=ys
 obtain⟨x0,t0,c0,e0,g0,_⟩:=eqVs_int h0
 obtain⟨x1,t1,c1,e1,g1,_⟩:=eqVs_int g0
 obtain⟨x2,t2,c2,e2,g2,_⟩:=eqVs_int g1
 obtain⟨x3,t3,c3,e3,g3,_⟩:=eqVs_int g2
 obtain⟨x4,t4,c4,e4,g4,_⟩:=eqVs_int g3
 obtain⟨x5,t5,c5,e5,g5,_⟩:=eqVs_int g4
 obtain⟨x6,t6,c6,e6,g6,_⟩:=eqVs_int g5
 obtain⟨x7,t7,c7,e7,g7,_⟩:=eqVs_int g6
 obtain⟨x8,t8,c8,e8,g8,_⟩:=eqVs_int g7
 obtain⟨x9,t9,c9,e9,g9,_⟩:=eqVs_int g8
 obtain⟨e10,_⟩:=eqVs_nil g9
 subst e10;subst e9;subst e8;subst e7;subst e6;subst e5;subst e4;subst e3;subst e2;subst e1;simp only at e0;subst e0;clear g0 g1 g2 g3 g4 g5 g6 g7 g8 g9 h0
 obtain⟨y0,t0,c0,e0,g0,b1⟩:=eqVs_int h
 obtain⟨y1,t1,c1,e1,g1,b2⟩:=eqVs_int g0
 obtain⟨y2,t2,c2,e2,g2,b3⟩:=eqVs_int g1
 obtain⟨y3,t3,c3,e3,g3,b4⟩:=eqVs_int g2
 obtain⟨y4,t4,c4,e4,g4,b5⟩:=eqVs_int g3
 obtain⟨y5,t5,c5,e5,g5,b6⟩:=eqVs_int g4
 obtain⟨y6,t6,c6,e6,g6,b7⟩:=eqVs_int g5
 obtain⟨y7,t7,c7,e7,g7,b8⟩:=eqVs_int g6
 obtain⟨y8,t8,c8,e8,g8,b9⟩:=eqVs_int g7
 obtain⟨y9,t9,c9,e9,g9,b10⟩:=eqVs_int g8
 obtain⟨e10,b11⟩:=eqVs_nil g9
 subst e10;subst e9;subst e8;subst e7;subst e6;subst e5;subst e4;subst e3;subst e2;subst e1;simp only at e0;subst e0;subst b11;subst b10;subst b9;subst b8;subst b7;subst b6;subst b5;subst b4;subst b3;subst b2;subst b1;clear g0 g1 g2 g3 g4 g5 g6 g7 g8 g9 h
 refine⟨fun op x y=>run_eqGuard_agg W op 41 x y _ _ (by kernel_rfl),?_⟩
 show(Op.equalIn 10000 41 _ _).run Tryz.prog W=_
 rw[run_equalIn_agg W 9999 41 _ _ (by kernel_rfl) (by kernel_rfl)]
 simp only[Program.fieldsOf,Tryz.underlying41]
 simp[go_sem]
 iterate 9 refine ifeq ?_
 by_cases h:x9=y9<;>simp[h]
end Go.Proofs.YtedcnhbblgmdnaaGreat.Ab
