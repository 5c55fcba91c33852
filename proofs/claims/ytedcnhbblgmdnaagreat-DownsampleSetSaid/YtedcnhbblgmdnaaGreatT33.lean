/- A part of the proof. -/
import Derived.Test.YtedcnhbblgmdnaaGreatT3
import Derived.ChangeArms
import Derived.DataReads
import GoSem.ClaimJoined
import Derived.Test.YtedcnhbblgmdnaaGreatT22
import Derived.Test.YtedcnhbblgmdnaaGreatT27
set_option maxHeartbeats 8000000
set_option maxRecDepth 10000
set_option linter.unusedSimpArgs false
set_option linter.unusedVariables false
/- A law's arguments: what the statement's reading tells, as pure data of the evaluator. -/
namespace Go.Proofs.YtedcnhbblgmdnaaGreat.Ab
open Go.RowKit
def oldI (W:World)(b o:Nat):Prop:=b<W.heap.size
def relPL (I:Nat→Nat→Prop)(W:World)(ps:List Pd)(vs:List Value):Prop:=vs.length=ps.length∧∀(j:Nat) y,ps[j]? = some y→∃ v,vs[j]? = some v∧relPd I W y v
section
variable {P:Program} {W:World} {H:Type} {enc:TypeId×Value→H} {A A2:Type} {I:Nat→Nat→Prop}
theorem relPL_one {x : Pd} {v : Value} (h : relPd I W x v) : relPL I W [x] [v] := ⟨rfl, fun j y hj => by
 cases j with
 |zero=>simp at hj;subst hj;exact⟨v,rfl,h⟩
 |succ j=>simp at hj⟩
theorem relPL_app {xs ys:List Pd}{vs ws:List Value}(h1:relPL I W xs vs)(h2:relPL I W ys ws):relPL I W (xs++ys) (vs++ws):=by
 refine⟨by simp[h1.1,h2.1],fun j y hj=>?_⟩
 rw[List.getElem?_append] at hj
 split at hj
 ·rename_i hlt
  obtain⟨v,hv,hr⟩:=h1.2 j y hj
  exact⟨v,by rw[List.getElem?_append_left (by rw[h1.1];exact hlt)];exact hv,hr⟩
 ·rename_i hge
  obtain⟨v,hv,hr⟩:=h2.2 _ y hj
  exact⟨v,by rw[List.getElem?_append_right (by rw[h1.1];omega),h1.1];exact hv,hr⟩
def small {H:Type}(P:Program)(t:TypeId)(d:DataW H):Prop:=∀ w∈d.weights P t,w≤reachBytes
structure Rd (enc:TypeId×Value→H) (P:Program) (W:World) (t n:Nat) (e:A→List Pd) (B:A→Prop):Prop where
 len:∀ a,(e a).length=n
 rd:∀ fuel cs x,DataW.trod enc P W 0 (fun _=>true) true fuel t cs=some x→small P t x.1→∃ a,B a∧relPL (oldI W) W (e a) cs
theorem Rd.int {t:Nat}{k:IntKind}(ht:P.underlying t=some (.int k)):Rd enc P W t 1 (fun n:Int=>[.int k n]) (fun n=>(Lit.int k n).wf=true) where
 len a:=rfl
 rd fuel cs x h _:=by
  obtain⟨n,rfl,_,hw⟩:=DataW.trod_int ht h
  exact⟨n,hw,relPL_one rfl⟩
theorem Rd.bool {t:Nat}(ht:P.underlying t=some .bool):Rd enc P W t 1 (fun b:Bool=>[.bool b]) (fun _=>True) where
 len a:=rfl
 rd fuel cs x h _:=by
  obtain⟨n,rfl,_⟩:=DataW.trod_bool ht h
  exact⟨n,trivial,relPL_one rfl⟩
theorem Rd.str {t:Nat}(ht:P.underlying t=some .string):Rd enc P W t 1 (fun s:List UInt8=>[.str s]) (fun s=>s.length≤reachBytes) where
 len a:=rfl
 rd fuel cs x h hs:=by
  obtain⟨s,rfl,rfl,_⟩:=DataW.trod_string ht h
  exact⟨s.data.toList,hs _ (by simp[DataW.weights]),relPL_one ⟨s,rfl,rfl⟩⟩
theorem Rd.map {t n:Nat}{e:A→List Pd}{B:A→Prop}{e2:A2→List Pd}{B2:A2→Prop}(h:Rd enc P W t n e B)(f:A→A2)(he:∀ a,e2 (f a)=e a)(hl:∀ a,(e2 a).length=n)(hB:∀ a,B a→B2 (f a)):Rd enc P W t n e2 B2 where
 len:=hl
 rd fuel cs x hx hs:=by
  obtain⟨a,h1,h2⟩:=h.rd fuel cs x hx hs
  exact⟨f a,hB a h1,by rw[he];exact h2⟩
theorem pickL {Q:Nat→A→Prop}:∀(n:Nat),(∀ i,i<n→∃ a,Q i a)→∃ l:List A,l.length=n∧∀ i a,l[i]? = some a→Q i a
 |0,_=>⟨[],rfl,fun i a h=>by simp at h⟩
 |n+1,h=>by
  obtain⟨l,h1,h2⟩:=pickL n fun i hi=>h i (by omega)
  obtain⟨a,ha⟩:=h n (by omega)
  refine⟨l++[a],by simp[h1],fun i b hb=>?_⟩
  rw[List.getElem?_append] at hb
  split at hb
  ·exact h2 i b hb
  ·rename_i hge
   have:i-l.length=0:=by
    have:=(List.getElem?_eq_some_iff.1 hb).1
    simp at this;omega
   rw[this] at hb
   simp at hb;subst hb
   have:i=n:=by omega
   rw[this];exact ha
theorem weightsAll_mem {e:TypeId}{d:DataW H}{w:Nat}:∀ {ds:List (DataW H)},d∈ds→w∈d.weights P e→w∈DataW.weightsAll P e ds
 |x::r,hd,hw=>by
  simp only[DataW.weightsAll,List.mem_append];rcases List.mem_cons.1 hd with rfl|hd
  ·exact .inl hw
  ·exact .inr (weightsAll_mem hd hw)
theorem relCs_flat {e:A→List Pd}{n b:Nat}(hn:∀ a,(e a).length=n)(hb:b<W.heap.size):∀(l:List A) (o:Nat),
  (∀ i y,l[i]? = some y→∃ ecs,(∀ k,k<n→W.cell? ⟨b,o+i*n+k,none⟩=ecs[k]?)∧relPL (oldI W) W (e y) ecs)→relCs (oldI W) W b o (l.flatMap e)
 |[],o,_=>trivial
 |a::r,o,h=>by
  rw[List.flatMap_cons]
  refine relCs_append (relCs_mk fun i x hx=>?_) ?_
  ·obtain⟨ecs,h1,h2⟩:=h 0 a rfl
   obtain⟨v,hv,hr⟩:=h2.2 i x hx
   have hi:i<n:=by have:=(List.getElem?_eq_some_iff.1 hx).1;rw[hn] at this;exact this
   refine⟨v,?_,hb,hr⟩
   have:=h1 i hi
   rw[Nat.zero_mul,Nat.add_zero] at this
   rw[this];exact hv
  ·rw[hn]
   refine relCs_flat hn hb r _ fun i y hy=>?_
   obtain⟨ecs,h1,h2⟩:=h (i+1) y hy
   refine⟨ecs,fun k hk=>?_,h2⟩
   have:=h1 k hk
   rw[show o+(i+1)*n+k=o+n+i*n+k by rw[Nat.add_mul];omega] at this
   exact this
theorem add_of {a:Addr}{b o:Nat}(ha:a=⟨b,o,none⟩)(m k:Nat):(a.add m).add k=⟨b,o+m+k,none⟩:=by
 subst ha;unfold Addr.add
 by_cases hm:m=0<;>by_cases hk:k=0<;>simp[hm,hk]
theorem Rd.slice {t e n:Nat}{f:A→List Pd}{B:A→Prop}(h:Rd enc P W e n f B)(ht:P.underlying t=some (.slice e))(hc:P.cellsOf e=n)(hn:0<n)(hb:0<P.bytesOf e) :
  Rd enc P W t 1 (fun l:List A=>[.lst l.length (l.flatMap f)]) (fun l=>l.length*P.bytesOf e≤reachBytes∧∀ a∈l,B a) where
 len a:=rfl
 rd fuel cs x hx hs:=by
  rcases DataW.trod_slice ht hx with ⟨rfl,rfl⟩|⟨a,len,cap,elems,rest,m,rfl,rfl,rfl,hb0,hlc,hcm,hel,hget,-,-⟩
  ·exact⟨[],⟨by simp,fun a ha=>by simp at ha⟩,relPL_one ⟨none,0,rfl,Nat.le_refl _,fun hne=>absurd rfl hne⟩⟩
  ·simp only[small,DataW.weights,ht] at hs
   obtain⟨l,hll,hl⟩:=pickL (Q:=fun i y=>B y∧∃ ecs,W.cells? 0 (a.add (i*n)) n=some ecs∧relPL (oldI W) W (f y) ecs) len fun i hi=>by
    have hg:=hget i hi
    rw[List.getElem?_eq_getElem (by omega),hc] at hg
    simp only[Option.bind_eq_some_iff] at hg
    obtain⟨ecs,h1,h2⟩:=hg
    obtain ⟨y, hy1, hy2⟩ := h.rd _ _ _ h2 fun w hw => hs w (by
     rw[List.mem_cons,List.mem_append]
     exact .inr (.inl (weightsAll_mem (List.mem_map.2 ⟨_,List.getElem_mem _,rfl⟩) hw)))
    exact⟨y,hy1,ecs,h1,hy2⟩
   refine⟨l,⟨?_,fun y hy=>?_⟩,relPL_one ⟨some a,cap,by rw[hll],by omega,fun hne=>?_⟩⟩
   ·have:=hs ((elems.map (·.1)).length*P.bytesOf e+(rest.map (·.1)).length*P.bytesOf e) (by rw[← Nat.add_mul];exact List.mem_cons_self ..)
    rw[List.length_map,hel] at this
    rw[hll];omega
   ·obtain⟨i,hi,rfl⟩:=List.getElem_of_mem hy
    exact(hl i _ (List.getElem?_eq_getElem hi)).1
   ·have hl0:0<l.length:=List.length_pos_iff.2 fun e=>hne (by rw[e];rfl)
    obtain⟨_,ecs,h1,h2⟩:=hl 0 _ (List.getElem?_eq_getElem hl0)
    obtain⟨_,h3,h4⟩:=World.cells?_some h1
    have hc0:=h4 0 hn
    rw[Nat.zero_mul,show(a.add 0).add 0=a by unfold Addr.add;simp,List.getElem?_eq_getElem (by omega)] at hc0
    obtain⟨b,o,sp⟩:=a
    have hsp:sp=none:=by
     cases sp with
     |none=>rfl
     |some z =>
      unfold World.cell? at hc0
      split at hc0
      ·simp at hc0
      ·cases hc0
    subst hsp
    have hbl:b<W.heap.size:=by
     unfold World.cell? at hc0
     split at hc0
     ·rename_i hh;exact(Array.getElem?_eq_some_iff.1 hh).1
     ·cases hc0
    refine⟨b,o,rfl,relCs_flat h.len hbl l o fun i y hy=>?_⟩
    obtain⟨_,ecs,h1,h2⟩:=hl i y hy
    obtain⟨_,h3,h4⟩:=World.cells?_some h1
    refine⟨ecs,fun k hk=>?_,h2⟩
    rw[← add_of rfl]
    exact h4 k hk
structure RdS (enc:TypeId×Value→H) (P:Program) (W:World) (fs:List Field) (off n:Nat) (e:A→List Pd) (B:A→Prop):Prop where
 len:∀ a,(e a).length=n
 rd:∀(fuel:Nat) (cs:List Value) (xs:List (DataW H×List MemPlace)),cs.length=off+n→xs.length=fs.length→(∀(i:Nat) f,fs[i]? = some f→DataW.trod enc P W 0 (fun _=>true) true fuel f.type ((cs.drop f.offset).take (P.cellsOf f.type))=xs[i]?) →
  (∀ w∈DataW.weightsEach P (fs.map (·.type)) (xs.map (·.1)),w≤reachBytes)→∃ a,B a∧relPL (oldI W) W (e a) (cs.drop off)
theorem RdS.nil {off:Nat}:RdS enc P W [] off 0 (fun _:Unit=>[]) (fun _=>True) where
 len _:=rfl
 rd fuel cs xs h _ _ _:=⟨(),trivial,by rw[List.drop_eq_nil_of_le (by omega)];exact⟨rfl,fun j y hj=>by simp at hj⟩⟩
theorem RdS.cons {f:Field}{fs:List Field}{off n1 n2:Nat}{e1:A→List Pd}{e2:A2→List Pd}{B1:A→Prop}{B2:A2→Prop}(h1:Rd enc P W f.type n1 e1 B1)(ho:f.offset=off)(hc:P.cellsOf f.type=n1)(h2:RdS enc P W fs (off+n1) n2 e2 B2) :
  RdS enc P W (f::fs) off (n1+n2) (fun p:A×A2=>e1 p.1++e2 p.2) (fun p=>B1 p.1∧B2 p.2) where
 len p:=by simp[h1.len,h2.len]
 rd fuel cs xs hl hxl hget hw:=by
  cases xs with
  |nil=>simp at hxl
  |cons x xs =>
   have g0:=hget 0 f rfl
   rw[ho,hc] at g0
   simp only[List.map_cons,DataW.weightsEach,List.mem_append] at hw
   obtain⟨a,ha,hr⟩:=h1.rd fuel _ x g0 fun w hx=>hw w (.inl hx)
   obtain⟨b,hb,hr2⟩:=h2.rd fuel cs xs (by omega) (by simpa using hxl) (fun i g hg=>hget (i+1) g hg) fun w hx=>hw w (.inr hx)
   refine⟨(a,b),⟨ha,hb⟩,?_⟩
   have:cs.drop off=(cs.drop off).take n1++cs.drop (off+n1):=by rw[← List.drop_drop,List.take_append_drop]
   rw[this]
   exact relPL_app hr hr2
theorem Rd.struct {t n:Nat}{fs:Array Field}{e:A→List Pd}{B:A→Prop}(ht:P.underlying t=some (.struct fs))(hc:P.cellsOf t=n)(h:RdS enc P W fs.toList 0 n e B):Rd enc P W t n e B where
 len:=h.len
 rd fuel cs x hx hs:=by
  obtain⟨xs,m,rfl,rfl,hl,hxl,hget⟩:=DataW.trod_struct ht hx
  simp only[small,DataW.weights,ht] at hs
  obtain⟨a,ha,hr⟩:=h.rd m cs xs (by omega) (by simpa using hxl) (fun i f hf=>hget i f (by simpa using hf)) hs
  exact⟨a,ha,by simpa using hr⟩
end
end Go.Proofs.YtedcnhbblgmdnaaGreat.Ab
/- The argument of SerieschunkSeries: a series. -/
namespace Go.Proofs.YtedcnhbblgmdnaaGreat.Ab
open Go.RowKit
section
variable {W:World} {H:Type} {enc:TypeId×Value→H}
theorem rdLb:Rd enc Tryz.prog W 117 2 lbP (fun x=>x.1.length≤reachBytes∧x.2.length≤reachBytes) :=
 (Rd.struct (n:=2) Tryz.underlying117 (by kernel_rfl) (RdS.cons (n1:=1) (n2:=1) (Rd.str Tryz.underlying9) rfl (by kernel_rfl) (RdS.cons (n1:=1) (n2:=0) (Rd.str Tryz.underlying9) rfl (by kernel_rfl) RdS.nil))).map (fun p=>(p.1,p.2.1)) (fun _=>rfl) (fun _=>rfl) (fun _ h=>⟨h.1,h.2.1⟩)
theorem rdSm:Rd enc Tryz.prog W 39 2 p2 (fun x=>(Lit.int .i64 x.1).wf=true∧(Lit.int .i64 x.2).wf=true) :=
 (Rd.struct (n:=2) Tryz.underlying39 (by kernel_rfl) (RdS.cons (n1:=1) (n2:=1) (Rd.int Tryz.underlying3) rfl (by kernel_rfl) (RdS.cons (n1:=1) (n2:=0) (Rd.int Tryz.underlying3) rfl (by kernel_rfl) RdS.nil))).map (fun p=>(p.1,p.2.1)) (fun _=>rfl) (fun _=>rfl) (fun _ h=>⟨h.1,h.2.1⟩)
theorem rdBk:Rd enc Tryz.prog W 205 2 p2 (fun x=>(Lit.int .i64 x.1).wf=true∧(Lit.int .i64 x.2).wf=true) :=
 (Rd.struct (n:=2) Tryz.underlying205 (by kernel_rfl) (RdS.cons (n1:=1) (n2:=1) (Rd.int Tryz.underlying3) rfl (by kernel_rfl) (RdS.cons (n1:=1) (n2:=0) (Rd.int Tryz.underlying3) rfl (by kernel_rfl) RdS.nil))).map (fun p=>(p.1,p.2.1)) (fun _=>rfl) (fun _=>rfl) (fun _ h=>⟨h.1,h.2.1⟩)
theorem le_reach {n b:Nat}(h:n*b≤reachBytes)(hb:0<b):n≤reachBytes:=Nat.le_trans (Nat.le_mul_of_pos_right n hb) h
theorem rdHst:Rd enc Tryz.prog W 150 6 Hst.pd (fun x=>x.bs.length≤reachBytes) :=
 (Rd.struct (n := 6) Tryz.underlying150 (by kernel_rfl) (RdS.cons (n1 := 1) (n2 := 5) (Rd.int Tryz.underlying3) rfl (by kernel_rfl) (RdS.cons (n1 := 1) (n2 := 4) (Rd.int Tryz.underlying3) rfl (by kernel_rfl) (RdS.cons (n1 := 1) (n2 := 3) (Rd.int Tryz.underlying3) rfl (by kernel_rfl)
  (RdS.cons (n1:=1) (n2:=2) (Rd.int Tryz.underlying3) rfl (by kernel_rfl) (RdS.cons (n1:=1) (n2:=1) (Rd.int Tryz.underlying3) rfl (by kernel_rfl) (RdS.cons (n1:=1) (n2:=0) (Rd.slice rdBk Tryz.underlying148 (by kernel_rfl) (by decide) (of_decide_eq_true (by kernel_rfl))) rfl (by kernel_rfl) RdS.nil))))))).map
  (fun p=>⟨p.1,p.2.1,p.2.2.1,p.2.2.2.1,p.2.2.2.2.1,p.2.2.2.2.2.1⟩) (fun _=>rfl) (fun _=>rfl) (fun _ h=>le_reach h.2.2.2.2.2.1.1 (of_decide_eq_true (by kernel_rfl)))
theorem rdHSm:Rd enc Tryz.prog W 152 7 HSm.pd (fun x=>x.h.bs.length≤reachBytes) :=
 (Rd.struct (n:=7) Tryz.underlying152 (by kernel_rfl) (RdS.cons (n1:=1) (n2:=6) (Rd.int Tryz.underlying3) rfl (by kernel_rfl) (RdS.cons (n1:=6) (n2:=0) rdHst rfl (by kernel_rfl) RdS.nil))).map
  (fun p=>⟨p.1,p.2.1⟩) (fun _=>rfl) (fun _=>rfl) (fun _ h=>h.2.1)
theorem rdSer:Rd enc Tryz.prog W 26 4 Ser.pd (fun x=>x.lb.length≤reachBytes∧x.hs.length≤reachBytes∧∀ y∈x.hs,y.h.bs.length≤reachBytes) :=
 (Rd.struct (n := 4) Tryz.underlying26 (by kernel_rfl) (RdS.cons (n1 := 1) (n2 := 3) (Rd.slice rdLb Tryz.underlying22 (by kernel_rfl) (by decide) (of_decide_eq_true (by kernel_rfl))) rfl (by kernel_rfl)
  (RdS.cons (n1:=1) (n2:=2) (Rd.int Tryz.underlying3) rfl (by kernel_rfl) (RdS.cons (n1:=1) (n2:=1) (Rd.slice rdSm Tryz.underlying23 (by kernel_rfl) (by decide) (of_decide_eq_true (by kernel_rfl))) rfl (by kernel_rfl)
  (RdS.cons (n1:=1) (n2:=0) (Rd.slice rdHSm Tryz.underlying24 (by kernel_rfl) (by decide) (of_decide_eq_true (by kernel_rfl))) rfl (by kernel_rfl) RdS.nil))))).map
  (fun p=>⟨p.1,p.2.1,p.2.2.1,p.2.2.2.1⟩) (fun _=>rfl) (fun _=>rfl) (fun _ h=>⟨le_reach h.1.1 (of_decide_eq_true (by kernel_rfl)),le_reach h.2.2.2.1.1 (of_decide_eq_true (by kernel_rfl)),h.2.2.2.1.2⟩)
end
end Go.Proofs.YtedcnhbblgmdnaaGreat.Ab
/- The arguments of the Downsample laws: data. -/
namespace Go.Proofs.YtedcnhbblgmdnaaGreat.Ab
open Go.RowKit
theorem i64_wf {n:Int}(h:(Lit.int .i64 n).wf=true) : -2^63≤n∧n<2^63:=by
 simp only[Lit.wf,Bool.and_eq_true,decide_eq_true_eq] at h
 have h1:IntKind.i64.min = -2^63:=by decide
 have h2:IntKind.i64.max=2^63-1:=by decide
 rw[h1,h2] at h
 omega
section
variable {W:World} {H:Type} {enc:TypeId×Value→H}
theorem rdEnt:Rd enc Tryz.prog W 121 5 Ent.pd (fun x=>x.lb.length≤reachBytes∧x.fs.length≤reachBytes) :=
 (Rd.struct (n:=5) Tryz.underlying121 (by kernel_rfl) (RdS.cons (n1:=1) (n2:=4) (Rd.int Tryz.underlying3) rfl (by kernel_rfl) (RdS.cons (n1:=1) (n2:=3) (Rd.slice rdLb Tryz.underlying22 (by kernel_rfl) (by decide) (of_decide_eq_true (by kernel_rfl))) rfl (by kernel_rfl) (RdS.cons (n1:=1) (n2:=2) (Rd.str Tryz.underlying9) rfl (by kernel_rfl) (RdS.cons (n1:=1) (n2:=1) (Rd.slice rdLb Tryz.underlying22 (by kernel_rfl) (by decide) (of_decide_eq_true (by kernel_rfl))) rfl (by kernel_rfl) (RdS.cons (n1:=1) (n2:=0) (Rd.int Tryz.underlying3) rfl (by kernel_rfl) RdS.nil)))))).map
  (fun p=>⟨p.1,p.2.1,p.2.2.1,p.2.2.2.1,p.2.2.2.2.1⟩) (fun _=>rfl) (fun _=>rfl) (fun _ h=>⟨le_reach h.2.1.1 (of_decide_eq_true (by kernel_rfl)),le_reach h.2.2.2.1.1 (of_decide_eq_true (by kernel_rfl))⟩)
theorem rdLk:Rd enc Tryz.prog W 234 2 p2 (fun x=>-2^63≤x.1∧x.1<2^63) :=
 (Rd.struct (n:=2) Tryz.underlying234 (by kernel_rfl) (RdS.cons (n1:=1) (n2:=1) (Rd.int Tryz.underlying3) rfl (by kernel_rfl) (RdS.cons (n1:=1) (n2:=0) (Rd.int Tryz.underlying3) rfl (by kernel_rfl) RdS.nil))).map (fun p=>(p.1,p.2.1)) (fun _=>rfl) (fun _=>rfl) (fun _ h=>i64_wf h.1)
theorem rdSpn:Rd enc Tryz.prog W 128 10 Spn.pd (fun x=>x.ab.length≤reachBytes∧(-2^63≤x.tr∧x.tr<2^63)∧∀ y∈x.lk,-2^63≤y.1∧y.1<2^63) :=
 (Rd.struct (n:=10) Tryz.underlying128 (by kernel_rfl) (RdS.cons (n1:=1) (n2:=9) (Rd.int Tryz.underlying3) rfl (by kernel_rfl) (RdS.cons (n1:=1) (n2:=8) (Rd.int Tryz.underlying3) rfl (by kernel_rfl) (RdS.cons (n1:=1) (n2:=7) (Rd.int Tryz.underlying3) rfl (by kernel_rfl) (RdS.cons (n1:=1) (n2:=6) (Rd.str Tryz.underlying9) rfl (by kernel_rfl) (RdS.cons (n1:=1) (n2:=5) (Rd.str Tryz.underlying9) rfl (by kernel_rfl) (RdS.cons (n1:=1) (n2:=4) (Rd.int Tryz.underlying3) rfl (by kernel_rfl) (RdS.cons (n1:=1) (n2:=3) (Rd.int Tryz.underlying3) rfl (by kernel_rfl) (RdS.cons (n1:=1) (n2:=2) (Rd.int Tryz.underlying3) rfl (by kernel_rfl) (RdS.cons (n1:=1) (n2:=1) (Rd.slice rdLb Tryz.underlying22 (by kernel_rfl) (by decide) (of_decide_eq_true (by kernel_rfl))) rfl (by kernel_rfl) (RdS.cons (n1:=1) (n2:=0) (Rd.slice rdLk Tryz.underlying126 (by kernel_rfl) (by decide) (of_decide_eq_true (by kernel_rfl))) rfl (by kernel_rfl) RdS.nil))))))))))).map
  (fun p=>⟨p.1,p.2.1,p.2.2.1,p.2.2.2.1,p.2.2.2.2.1,p.2.2.2.2.2.1,p.2.2.2.2.2.2.1,p.2.2.2.2.2.2.2.1,p.2.2.2.2.2.2.2.2.1,p.2.2.2.2.2.2.2.2.2.1⟩) (fun _=>rfl) (fun _=>rfl) (fun _ h=>⟨le_reach h.2.2.2.2.2.2.2.2.1.1 (of_decide_eq_true (by kernel_rfl)),i64_wf h.1,fun y hy=>h.2.2.2.2.2.2.2.2.2.1.2 y hy⟩)
theorem rdFrm:Rd enc Tryz.prog W 170 3 Frm.pd (fun _=>True) :=
 (Rd.struct (n:=3) Tryz.underlying170 (by kernel_rfl) (RdS.cons (n1:=1) (n2:=2) (Rd.int Tryz.underlying3) rfl (by kernel_rfl) (RdS.cons (n1:=1) (n2:=1) (Rd.str Tryz.underlying9) rfl (by kernel_rfl) (RdS.cons (n1:=1) (n2:=0) (Rd.int Tryz.underlying3) rfl (by kernel_rfl) RdS.nil)))).map
  (fun p=>⟨p.1,p.2.1,p.2.2.1⟩) (fun _=>rfl) (fun _=>rfl) (fun _ h=>trivial)
theorem rdPrf:Rd enc Tryz.prog W 106 3 Prf.pd (fun x=>x.lb.length≤reachBytes∧x.fl.length≤reachBytes) :=
 (Rd.struct (n:=3) Tryz.underlying106 (by kernel_rfl) (RdS.cons (n1:=1) (n2:=2) (Rd.int Tryz.underlying3) rfl (by kernel_rfl) (RdS.cons (n1:=1) (n2:=1) (Rd.slice rdLb Tryz.underlying22 (by kernel_rfl) (by decide) (of_decide_eq_true (by kernel_rfl))) rfl (by kernel_rfl) (RdS.cons (n1:=1) (n2:=0) (Rd.slice rdFrm Tryz.underlying104 (by kernel_rfl) (by decide) (of_decide_eq_true (by kernel_rfl))) rfl (by kernel_rfl) RdS.nil)))).map
  (fun p=>⟨p.1,p.2.1,p.2.2.1⟩) (fun _=>rfl) (fun _=>rfl) (fun _ h=>⟨le_reach h.2.1.1 (of_decide_eq_true (by kernel_rfl)),le_reach h.2.2.1.1 (of_decide_eq_true (by kernel_rfl))⟩)
theorem rdExm:Rd enc Tryz.prog W 139 5 Exm.pd (fun x=>x.lb.length≤reachBytes∧(-2^63≤x.tr∧x.tr<2^63)) :=
 (Rd.struct (n:=5) Tryz.underlying139 (by kernel_rfl) (RdS.cons (n1:=1) (n2:=4) (Rd.slice rdLb Tryz.underlying22 (by kernel_rfl) (by decide) (of_decide_eq_true (by kernel_rfl))) rfl (by kernel_rfl) (RdS.cons (n1:=1) (n2:=3) (Rd.int Tryz.underlying3) rfl (by kernel_rfl) (RdS.cons (n1:=1) (n2:=2) (Rd.int Tryz.underlying3) rfl (by kernel_rfl) (RdS.cons (n1:=1) (n2:=1) (Rd.int Tryz.underlying3) rfl (by kernel_rfl) (RdS.cons (n1:=1) (n2:=0) (Rd.int Tryz.underlying3) rfl (by kernel_rfl) RdS.nil)))))).map
  (fun p=>⟨p.1,p.2.1,p.2.2.1,p.2.2.2.1,p.2.2.2.2.1⟩) (fun _=>rfl) (fun _=>rfl) (fun _ h=>⟨le_reach h.1.1 (of_decide_eq_true (by kernel_rfl)),i64_wf h.2.2.2.1⟩)
theorem rdDat : Rd enc Tryz.prog W 58 5 Dat.pd (fun x => (x.ss.length ≤ reachBytes ∧ ∀ c ∈ x.ss, c.lb.length ≤ reachBytes ∧ c.hs.length ≤ reachBytes ∧ ∀ y ∈ c.hs, y.h.bs.length ≤ reachBytes) ∧ (x.es.length ≤ reachBytes ∧ ∀ c ∈ x.es, c.lb.length ≤ reachBytes ∧ c.fs.length ≤ reachBytes) ∧
  (x.sp.length≤reachBytes∧∀ c∈x.sp,c.ab.length≤reachBytes∧(-2^63≤c.tr∧c.tr<2^63)∧∀ y∈c.lk,-2^63≤y.1∧y.1<2^63)∧(x.ps.length≤reachBytes∧∀ c∈x.ps,c.lb.length≤reachBytes∧c.fl.length≤reachBytes) ∧
  (x.xs.length≤reachBytes∧∀ c∈x.xs,c.lb.length≤reachBytes∧(-2^63≤c.tr∧c.tr<2^63))) :=
 (Rd.struct (n:=5) Tryz.underlying58 (by kernel_rfl) (RdS.cons (n1:=1) (n2:=4) (Rd.slice rdSer Tryz.underlying52 (by kernel_rfl) (by decide) (of_decide_eq_true (by kernel_rfl))) rfl (by kernel_rfl) (RdS.cons (n1:=1) (n2:=3) (Rd.slice rdEnt Tryz.underlying53 (by kernel_rfl) (by decide) (of_decide_eq_true (by kernel_rfl))) rfl (by kernel_rfl) (RdS.cons (n1:=1) (n2:=2) (Rd.slice rdSpn Tryz.underlying54 (by kernel_rfl) (by decide) (of_decide_eq_true (by kernel_rfl))) rfl (by kernel_rfl) (RdS.cons (n1:=1) (n2:=1) (Rd.slice rdPrf Tryz.underlying55 (by kernel_rfl) (by decide) (of_decide_eq_true (by kernel_rfl))) rfl (by kernel_rfl) (RdS.cons (n1:=1) (n2:=0) (Rd.slice rdExm Tryz.underlying56 (by kernel_rfl) (by decide) (of_decide_eq_true (by kernel_rfl))) rfl (by kernel_rfl) RdS.nil)))))).map
  (fun p=>⟨p.1,p.2.1,p.2.2.1,p.2.2.2.1,p.2.2.2.2.1⟩) (fun _=>rfl) (fun _=>rfl) (fun _ h=>⟨⟨le_reach h.1.1 (of_decide_eq_true (by kernel_rfl)),fun c hc=>h.1.2 c hc⟩,⟨le_reach h.2.1.1 (of_decide_eq_true (by kernel_rfl)),fun c hc=>h.2.1.2 c hc⟩,⟨le_reach h.2.2.1.1 (of_decide_eq_true (by kernel_rfl)),fun c hc=>h.2.2.1.2 c hc⟩,⟨le_reach h.2.2.2.1.1 (of_decide_eq_true (by kernel_rfl)),fun c hc=>h.2.2.2.1.2 c hc⟩,⟨le_reach h.2.2.2.2.1.1 (of_decide_eq_true (by kernel_rfl)),fun c hc=>h.2.2.2.2.1.2 c hc⟩⟩)
end
end Go.Proofs.YtedcnhbblgmdnaaGreat.Ab
