/- A part of the proof. -/
import Derived.Test.YtedcnhbblgmdnaaGreatT0
import Derived.Below
import Derived.Laws.Rows
import Derived.Laws.CopyRow
import Derived.RangeFuncRecord
import Derived.Tactics
import Derived.Laws.Cells
import Derived.Laws.Entries
import Derived.Deep.MidRow
set_option maxHeartbeats 8000000
set_option maxRecDepth 10000
set_option linter.unusedSimpArgs false
set_option linter.unusedVariables false
/- An evaluator of the model's code with slices as pure lists: what its states say of the machine's. -/
namespace Go.Proofs.YtedcnhbblgmdnaaGreat.Ab
open Go.RowKit
structure Gh where
 imm:Nat→Nat→Prop
 blk:Nat→Nat
 cap:Nat→Nat
mutual
def relPd (I:Nat→Nat→Prop)(W:World):Pd→Value→Prop
 |.int k n,v=>v=.int k n
 |.bool b,v=>v=.bool b
 |.str s,v=>∃ t:ByteArray,v=.string t∧t.data.toList=s
 |.lst n cs,v=>∃ a c,v=.slice a n c∧n≤c∧(cs≠[]→∃ b o,a=some ⟨b,o,none⟩∧relCs I W b o cs)
 |.fnc f,v=>v=.func (.func f) #[] #[]
 |.nilp,v=>v=.pointer none
 |.nili,v=>v=.nilIface
 |.nilf,v=>v=.nilFunc
def relCs (I:Nat→Nat→Prop)(W:World)(b:Nat):Nat→List Pd→Prop
 |_,[]=>True
 |o,x::r=>(∃ v,W.cell? ⟨b,o,none⟩=some v∧I b o∧relPd I W x v)∧relCs I W b (o+1) r
end
def ImmLe (I:Nat→Nat→Prop)(W:World)(I':Nat→Nat→Prop)(W':World):Prop :=
 ∀ b o,I b o→I' b o∧W'.cell? ⟨b,o,none⟩=W.cell? ⟨b,o,none⟩
mutual
theorem relPd_mono {I I':Nat→Nat→Prop}{W W':World}(h:ImmLe I W I' W'):∀(x:Pd) (v:Value),relPd I W x v→relPd I' W' x v
 |.int k n,v,hr=>hr
 |.bool b,v,hr=>hr
 |.str s,v,hr=>hr
 |.lst n cs,v,hr=>by
  simp only[relPd] at hr ⊢
  obtain⟨a,c,rfl,hc,hcs⟩:=hr
  refine⟨a,c,rfl,hc,fun hne=>?_⟩
  obtain⟨b,o,rfl,hh⟩:=hcs hne
  exact⟨b,o,rfl,relCs_mono h cs b o hh⟩
 |.fnc f,v,hr=>hr
 |.nilp,v,hr=>hr
 |.nili,v,hr=>hr
 |.nilf,v,hr=>hr
theorem relCs_mono {I I':Nat→Nat→Prop}{W W':World}(h:ImmLe I W I' W'):∀(l:List Pd) (b o:Nat),relCs I W b o l→relCs I' W' b o l
 |[],b,o,hr=>trivial
 |x::r,b,o,hr=>by
  simp only[relCs] at hr ⊢
  obtain⟨⟨v,hv,hi,hx⟩,hr⟩:=hr
  exact⟨⟨v,(h b o hi).2.trans hv,(h b o hi).1,relPd_mono h x v hx⟩,relCs_mono h r b (o+1) hr⟩
end
def St.has (s:St)(k:Nat):Prop:=∃ o,s.get k=some o
def Ob.isFront:Ob→Bool
 |.front _ _ _=>true
 |_=>false
def Ob.isMv:Ob→Bool
 |.front _ _ _=>true
 |.grow _ _ _ _=>true
 |_=>false
def St.nofr (s:St)(k:Nat):Prop:=∃ o,s.get k=some o∧o.isMv=false
theorem St.nofr.has {s:St}{k:Nat}(h:s.nofr k):s.has k:=⟨_,h.choose_spec.1⟩
def relFn (G:Gh)(s:St)(f f':Fn):Prop :=
 match f with
 |.yield l=>s.nofr l∧f'=.yield (G.blk l)
 |f=>f'=f
mutual
def relC (G:Gh)(s:St)(W:World):C→Value→Prop
 |.p x,v=>relPd G.imm W x v
 |.nils,v=>v=.slice none 0 0
 |.own n cs id,v=>relPd G.imm W (.lst n cs) v∧s.has id∧∀ es m tg,s.get id=some (.front es m tg)→n≤m∧(n=m→v=.slice (some ⟨G.blk id,0,none⟩) n (G.cap id))
 |.mt r off n es,v=>s.nofr r∧∃ c,n≤c∧v=.slice (some ⟨G.blk r,off,none⟩) n c
 |.ref r off,v=>s.nofr r∧v=.pointer (some ⟨G.blk r,off,none⟩)
 |.rp cs off,v=>∃ b o,v=.pointer (some ⟨b,o+off,none⟩)∧relCs G.imm W b o cs
 |.fn f fs cap,v=>∃ f' vf vc,v=.func f' vf vc∧relFn G s f f'∧relCL G s W fs vf.toList∧relCL G s W cap vc.toList
 |.zc,v=>∃ a,v=.slice a 0 0
 |.gs m id off n es,v=>s.has id∧∃ b c,v=.slice (some ⟨b,off,none⟩) n c∧n≤c∧∀ es' m' cs fz,s.get id=some (.grow es' m' cs fz)→m≤m'∧(m=m'→b=G.blk id∧(off=0→c=G.cap id))
 |.gref m id off,v=>s.has id∧∃ b,v=.pointer (some ⟨b,off,none⟩)∧∀ es' m' cs fz,s.get id=some (.grow es' m' cs fz)→m≤m'∧(m=m'→b=G.blk id)
 |.mp r,v=>s.nofr r∧v=.map (some (G.blk r))
def relCL (G:Gh)(s:St)(W:World):List C→List Value→Prop
 |[],l=>l=[]
 |c::r,l=>∃ v t,l=v::t∧relC G s W c v∧relCL G s W r t
end
def relV (G:Gh)(s:St)(W:World):V→Value→Prop
 |.c x,v=>relC G s W x v
 |.agg xs,v=>∃ a:Array Value,v=.agg a∧relCL G s W xs a.toList
def relVL (G:Gh)(s:St)(W:World):List V→List Value→Prop
 |[],l=>l=[]
 |c::r,l=>∃ v t,l=v::t∧relV G s W c v∧relVL G s W r t
def relD (G:Gh)(s:St)(W:World):D→Value→Prop
 |.v x,v=>relV G s W x v
 |.tup xs,v=>∃ a:Array Value,v=.tuple a∧relVL G s W xs a.toList
 |.junk,_=>True
def relDL (G:Gh)(s:St)(W:World):List D→List Value→Prop
 |[],l=>l=[]
 |c::r,l=>∃ v t,l=v::t∧relD G s W c v∧relDL G s W r t
/-! ### what goes on -/
structure Ext (G:Gh) (s:St) (W:World) (G':Gh) (s':St) (W':World):Prop where
 imm:ImmLe G.imm W G'.imm W'
 nx:s.nx≤s'.nx
 has:∀ k,s.has k→s'.has k
 fr:∀ k es m' tg',s.has k→s'.get k=some (.front es m' tg')→∃ m tg,s.get k=some (.front es m tg)∧m≤m'∧(m=m'→G'.blk k=G.blk k∧G'.cap k=G.cap k)
 bl:∀ k,s.nofr k→s'.nofr k∧G'.blk k=G.blk k
 gr:∀ k es m' cs' fz',s.has k→s'.get k=some (.grow es m' cs' fz')→∃ m cs fz,s.get k=some (.grow es m cs fz)∧m≤m'∧(m=m'→G'.blk k=G.blk k∧G'.cap k=G.cap k)
theorem Ext.refl (G:Gh)(s:St)(W:World):Ext G s W G s W :=
 ⟨fun _ _ h=>⟨h,rfl⟩,Nat.le_refl _,fun _ h=>h,fun k es m' tg' _ h=>⟨m',tg',h,Nat.le_refl _,fun _=>⟨rfl,rfl⟩⟩,fun _ h=>⟨h,rfl⟩,fun k es m' cs' fz' _ h=>⟨m',cs',fz',h,Nat.le_refl _,fun _=>⟨rfl,rfl⟩⟩⟩
theorem Ext.nofr {G s W G' s' W'}(h:Ext G s W G' s' W'){k:Nat}(hk:s.nofr k):s'.nofr k:=(h.bl k hk).1
theorem ImmLe.trans {I I' I'' W W' W''}(h:ImmLe I W I' W')(k:ImmLe I' W' I'' W''):ImmLe I W I'' W'':=fun b o hi =>
 ⟨(k b o (h b o hi).1).1,(k b o (h b o hi).1).2.trans (h b o hi).2⟩
theorem Ext.trans {G s W G' s' W' G'' s'' W''}(h:Ext G s W G' s' W')(k:Ext G' s' W' G'' s'' W''):Ext G s W G'' s'' W'':=by
 refine⟨h.imm.trans k.imm,Nat.le_trans h.nx k.nx,fun j hj=>k.has j (h.has j hj),fun j es m' tg' hj e=>?_,fun j hj=>⟨k.nofr (h.nofr hj),(k.bl j (h.nofr hj)).2.trans (h.bl j hj).2⟩,fun j es m' cs' fz' hj e=>?_⟩
 ·obtain⟨m1,tg1,h1,hm1,e1⟩:=k.fr j es m' tg' (h.has j hj) e
  obtain⟨m0,tg0,h0,hm0,e0⟩:=h.fr j es m1 tg1 hj h1
  refine⟨m0,tg0,h0,Nat.le_trans hm0 hm1,fun e2=>?_⟩
  have ha:m1=m':=by omega
  have hb:m0=m1:=by omega
  exact⟨(e1 ha).1.trans (e0 hb).1,(e1 ha).2.trans (e0 hb).2⟩
 ·obtain⟨m1,c1,z1,h1,hm1,e1⟩:=k.gr j es m' cs' fz' (h.has j hj) e
  obtain⟨m0,c0,z0,h0,hm0,e0⟩:=h.gr j es m1 c1 z1 hj h1
  refine⟨m0,c0,z0,h0,Nat.le_trans hm0 hm1,fun e2=>?_⟩
  have ha:m1=m':=by omega
  have hb:m0=m1:=by omega
  exact⟨(e1 ha).1.trans (e0 hb).1,(e1 ha).2.trans (e0 hb).2⟩
theorem relFn_ext {G s W G' s' W'}(h:Ext G s W G' s' W'){f f':Fn}(hr:relFn G s f f'):relFn G' s' f f':=by
 cases f<;>simp only[relFn] at hr ⊢<;>first | exact hr | (obtain⟨h1,rfl⟩:=hr;exact⟨h.nofr h1,by rw[(h.bl _ h1).2]⟩)
mutual
theorem relC_ext {G s W G' s' W'}(h:Ext G s W G' s' W'):∀(c:C) (v:Value),relC G s W c v→relC G' s' W' c v
 |.p x,v,hr=>by simp only[relC] at hr ⊢;exact relPd_mono h.imm x v hr
 |.nils,v,hr=>by simp only[relC] at hr ⊢;exact hr
 |.own n cs id,v,hr=>by
  simp only[relC] at hr ⊢
  obtain⟨h1,h2,h3⟩:=hr
  refine⟨relPd_mono h.imm _ v h1,h.has id h2,fun es m tg e=>?_⟩
  obtain⟨m0,tg0,h0,hm,he⟩:=h.fr id es m tg h2 e
  obtain⟨ha,hb⟩:=h3 es m0 tg0 h0
  refine⟨Nat.le_trans ha hm,fun e2=>?_⟩
  have e3:m0=m:=by omega
  rw[(he e3).1,(he e3).2]
  exact hb (by omega)
 |.mt r off n es,v,hr=>by
  simp only[relC] at hr ⊢
  obtain⟨h1,c,hc,rfl⟩:=hr
  exact⟨h.nofr h1,c,hc,by rw[(h.bl _ h1).2]⟩
 |.ref r off,v,hr=>by
  simp only[relC] at hr ⊢
  obtain⟨h1,rfl⟩:=hr
  exact⟨h.nofr h1,by rw[(h.bl _ h1).2]⟩
 |.rp cs off,v,hr=>by
  simp only[relC] at hr ⊢
  obtain⟨b,o,rfl,hh⟩:=hr
  exact⟨b,o,rfl,relCs_mono h.imm cs b o hh⟩
 |.fn f fs cap,v,hr=>by
  simp only[relC] at hr ⊢
  obtain⟨f',vf,vc,rfl,h1,h2,h3⟩:=hr
  exact⟨f',vf,vc,rfl,relFn_ext h h1,relCL_ext h fs _ h2,relCL_ext h cap _ h3⟩
 |.zc,v,hr=>by simp only[relC] at hr ⊢;exact hr
 |.gs m id off n es,v,hr=>by
  simp only[relC] at hr ⊢
  obtain⟨h1,b,c,h2,h4,h3⟩:=hr
  refine⟨h.has id h1,b,c,h2,h4,fun es' m' cs fz e=>?_⟩
  obtain⟨m0,c0,z0,h0,hm,he⟩:=h.gr id es' m' cs fz h1 e
  obtain⟨ha,hb⟩:=h3 es' m0 c0 z0 h0
  refine⟨Nat.le_trans ha hm,fun e2=>?_⟩
  have e3:m0=m':=by omega
  rw[(he e3).1,(he e3).2]
  exact hb (by omega)
 |.gref m id off,v,hr=>by
  simp only[relC] at hr ⊢
  obtain⟨h1,b,h2,h3⟩:=hr
  refine⟨h.has id h1,b,h2,fun es' m' cs fz e=>?_⟩
  obtain⟨m0,c0,z0,h0,hm,he⟩:=h.gr id es' m' cs fz h1 e
  obtain⟨ha,hb⟩:=h3 es' m0 c0 z0 h0
  refine⟨Nat.le_trans ha hm,fun e2=>?_⟩
  have e3:m0=m':=by omega
  rw[(he e3).1]
  exact hb (by omega)
 |.mp r,v,hr=>by
  simp only[relC] at hr ⊢
  obtain⟨h1,rfl⟩:=hr
  exact⟨h.nofr h1,by rw[(h.bl _ h1).2]⟩
theorem relCL_ext {G s W G' s' W'}(h:Ext G s W G' s' W'):∀(l:List C) (vs:List Value),relCL G s W l vs→relCL G' s' W' l vs
 |[],vs,hr=>hr
 |c::r,vs,hr=>by
  simp only[relCL] at hr ⊢
  obtain⟨v,t,rfl,h1,h2⟩:=hr
  exact⟨v,t,rfl,relC_ext h c v h1,relCL_ext h r t h2⟩
end
section
variable {G:Gh} {s:St} {W:World} {G':Gh} {s':St} {W':World}
theorem relV_ext (h:Ext G s W G' s' W'){x:V}{v:Value}(hr:relV G s W x v):relV G' s' W' x v:=by
 cases x with
 |c x=>exact relC_ext h x v hr
 |agg xs=>obtain⟨a,rfl,h1⟩:=hr;exact⟨a,rfl,relCL_ext h xs _ h1⟩
theorem relVL_ext (h:Ext G s W G' s' W'):∀ {l:List V} {vs:List Value},relVL G s W l vs→relVL G' s' W' l vs
 |[],vs,hr=>hr
 |c::r,vs,hr=>by
  obtain⟨v,t,rfl,h1,h2⟩:=hr
  exact⟨v,t,rfl,relV_ext h h1,relVL_ext h h2⟩
theorem relD_ext (h:Ext G s W G' s' W'){x:D}{v:Value}(hr:relD G s W x v):relD G' s' W' x v:=by
 cases x with
 |v x=>exact relV_ext h hr
 |tup xs=>obtain⟨a,rfl,h1⟩:=hr;exact⟨a,rfl,relVL_ext h h1⟩
 |junk=>trivial
theorem relDL_ext (h:Ext G s W G' s' W'):∀ {l:List D} {vs:List Value},relDL G s W l vs→relDL G' s' W' l vs
 |[],vs,hr=>hr
 |c::r,vs,hr=>by
  obtain⟨v,t,rfl,h1,h2⟩:=hr
  exact⟨v,t,rfl,relD_ext h h1,relDL_ext h h2⟩
end
/-! ### the invariant of a state -/
structure Ctx where
 B:Nat
 W0:World
 imm0:Nat→Nat→Prop
def Ob.live:Ob→Prop
 |.dead=>False
 |_=>True
def relOb (X:Ctx)(G:Gh)(s:St)(W:World)(k:Nat):Ob→Prop
 |.cells cs frz=>X.B≤G.blk k∧∃(arr:Array Value) (t:TypeId),W.heap[G.blk k]? = some (.cells arr t (0,0))∧relCL G s W cs arr.toList ∧
   (frz=false→∀ o,¬ G.imm (G.blk k) o)∧(frz=true→(∀ o,o<arr.size→G.imm (G.blk k) o)∧∃ ps:List Pd,cs=ps.map .p)
 |.loop r=>X.B≤G.blk k∧∃ L:Loop,W.heap[G.blk k]? = some (.loop L)∧L.state=r.st∧L.pending=r.pend∧relDL G s W r.e L.tmps.toList ∧
   L.params.toList=r.ps∧L.assign=r.assign∧L.body=r.body∧codeOK r.assign=true∧codeOK r.body=true
 |.defr=>X.B≤G.blk k∧W.heap[G.blk k]? = some (.deferred (some []))
 |.tc t cs=>X.B≤G.blk k∧∃ arr:Array Value,W.heap[G.blk k]? = some (.cells arr t (0,0))∧relCL G s W cs arr.toList∧∀ o,¬ G.imm (G.blk k) o
 |.front es n tg=>X.B≤G.blk k∧∃(arr:Array Value) (t:TypeId) (fz:Nat×Nat),W.heap[G.blk k]? = some (.cells arr t fz)∧arr.size=G.cap k*es∧n≤G.cap k ∧
   (∀ o,n*es≤o→¬ G.imm (G.blk k) o)∧(fz.2≤n*es∨arr.size≤fz.1)∧(tg=0∨(tg≠999983∧t=tg∧fz.2≤n*es)∨tg=999983∧fz=(0,0))
 |.grow es n cs frz=>X.B≤G.blk k∧∃(arr:Array Value) (t:TypeId),W.heap[G.blk k]? = some (.cells arr t (0,0))∧arr.size=G.cap k*es∧n≤G.cap k∧cs.length=n*es∧relCL G s W cs (arr.toList.take (n*es)) ∧
   (frz=false→∀ o,¬ G.imm (G.blk k) o)∧(frz=true→(∀ o,o<n*es→G.imm (G.blk k) o)∧∃ ps:List Pd,cs=ps.map .p)
 |.mapo ks cs=>X.B≤G.blk k∧∃(es:Array MapEntry) (clock:Nat),W.heap[G.blk k]? = some (.map es clock)∧es.toList.map (·.key)=ks.map (fun b=>Value.string ⟨b.toArray⟩)∧relCL G s W cs (es.toList.map (·.val))
 |.dead=>True
structure Inv (X:Ctx) (G:Gh) (s:St) (W:World):Prop where
 below:Below X.B X.W0 W
 bsz:X.B≤W.heap.size
 immlt:∀ b o,G.imm b o→b<W.heap.size
 immnew:∀ b o,G.imm b o→X.imm0 b o∨X.B≤b
 lt:∀ k o,s.get k=some o→k<s.nx
 ob:∀ k o,s.get k=some o→relOb X G s W k o
 inj:∀ j k oj ok,s.get j=some oj→s.get k=some ok→oj.live→ok.live→G.blk j=G.blk k→j=k
section
variable {I:Nat→Nat→Prop} {W:World} {G:Gh} {s:St}
theorem relPd_one {x:Pd}{v:Value}(h:relPd I W x v):v.oneCell'=true:=by
 cases x<;>simp only[relPd] at h
 case str=>obtain⟨t,rfl,_⟩:=h;rfl
 case lst=>obtain⟨a,c,rfl,_⟩:=h;rfl
 all_goals (subst h;rfl)
theorem relC_one {c:C}{v:Value}(h:relC G s W c v):v.oneCell'=true:=by
 cases c<;>simp only[relC] at h
 case p=>exact relPd_one h
 case nils=>subst h;rfl
 case own=>exact relPd_one h.1
 case mt=>obtain⟨_,c,_,rfl⟩:=h;rfl
 case ref=>obtain⟨_,rfl⟩:=h;rfl
 case rp=>obtain⟨_,_,rfl,_⟩:=h;rfl
 case fn=>obtain⟨_,_,_,rfl,_⟩:=h;rfl
 case zc=>obtain⟨_,rfl⟩:=h;rfl
 case gs=>obtain⟨_,_,_,rfl,_⟩:=h;rfl
 case gref=>obtain⟨_,_,rfl,_⟩:=h;rfl
 case mp=>obtain⟨_,rfl⟩:=h;rfl
theorem relCL_one:∀ {l:List C}{vs:List Value},relCL G s W l vs→∀ v∈vs,v.oneCell'=true
 |[],vs,h=>by simp only[relCL] at h;subst h;simp
 |c::r,vs,h=>by
  simp only[relCL] at h
  obtain⟨v,t,rfl,h1,h2⟩:=h
  intro u hu;rcases List.mem_cons.1 hu with rfl|hu
  ·exact relC_one h1
  ·exact relCL_one h2 u hu
theorem relCL_length:∀ {l:List C}{vs:List Value},relCL G s W l vs→vs.length=l.length
 |[],vs,h=>by simp only[relCL] at h;subst h;rfl
 |c::r,vs,h=>by
  simp only[relCL] at h
  obtain⟨v,t,rfl,h1,h2⟩:=h
  simp[relCL_length h2]
theorem relCL_get:∀ {l:List C}{vs:List Value},relCL G s W l vs→∀(i:Nat) c,l[i]? = some c→∃ v,vs[i]? = some v∧relC G s W c v
 |[],vs,h,i,c,e=>by simp at e
 |x::r,vs,h,i,c,e=>by
  simp only[relCL] at h
  obtain⟨v,t,rfl,h1,h2⟩:=h
  cases i with
  |zero=>simp at e;subst e;exact⟨v,rfl,h1⟩
  |succ i=>simp at e;obtain⟨u,hu,hr⟩:=relCL_get h2 i c e;exact⟨u,by simpa using hu,hr⟩
theorem relCL_mk:∀ {l:List C}{vs:List Value},vs.length=l.length→(∀(i:Nat) c v,l[i]? = some c→vs[i]? = some v→relC G s W c v)→relCL G s W l vs
 |[],vs,hl,h=>by simp only[relCL];exact List.length_eq_zero_iff.1 (by simpa using hl)
 |x::r,vs,hl,h=>by
  cases vs with
  |nil=>simp at hl
  |cons v t =>
   simp only[relCL]
   exact⟨v,t,rfl,h 0 x v rfl rfl,relCL_mk (by simpa using hl) (fun i c u e1 e2=>h (i+1) c u (by simpa using e1) (by simpa using e2))⟩
theorem relCL_append {l l':List C}{vs vs':List Value}(h:relCL G s W l vs)(h':relCL G s W l' vs'):relCL G s W (l++l') (vs++vs'):=by
 refine relCL_mk (by simp[relCL_length h,relCL_length h']) fun i c v e1 e2=>?_
 rw[List.getElem?_append] at e1 e2
 rw[relCL_length h] at e2
 split at e1
 ·rename_i hi;rw[if_pos hi] at e2
  obtain⟨u,hu,hr⟩:=relCL_get h i c e1;rw[hu] at e2;cases e2;exact hr
 ·rename_i hi;rw[if_neg hi] at e2
  obtain⟨u,hu,hr⟩:=relCL_get h' _ c e1;rw[hu] at e2;cases e2;exact hr
theorem relCL_take {l:List C}{vs:List Value}(n:Nat)(h:relCL G s W l vs):relCL G s W (l.take n) (vs.take n):=by
 refine relCL_mk (by simp[relCL_length h]) fun i c v e1 e2=>?_
 rw[List.getElem?_take] at e1 e2
 split at e1
 ·rename_i hi;rw[if_pos hi] at e2
  obtain⟨u,hu,hr⟩:=relCL_get h i c e1;rw[hu] at e2;cases e2;exact hr
 ·cases e1
theorem relCL_drop {l:List C}{vs:List Value}(n:Nat)(h:relCL G s W l vs):relCL G s W (l.drop n) (vs.drop n):=by
 refine relCL_mk (by simp[relCL_length h]) fun i c v e1 e2=>?_
 rw[List.getElem?_drop] at e1 e2
 obtain⟨u,hu,hr⟩:=relCL_get h _ c e1;rw[hu] at e2;cases e2;exact hr
theorem relVL_length:∀ {l:List V}{vs:List Value},relVL G s W l vs→vs.length=l.length
 |[],vs,h=>by simp only[relVL] at h;subst h;rfl
 |c::r,vs,h=>by
  simp only[relVL] at h
  obtain⟨v,t,rfl,h1,h2⟩:=h
  simp[relVL_length h2]
theorem relVL_get:∀ {l:List V}{vs:List Value},relVL G s W l vs→∀(i:Nat) c,l[i]? = some c→∃ v,vs[i]? = some v∧relV G s W c v
 |[],vs,h,i,c,e=>by simp at e
 |x::r,vs,h,i,c,e=>by
  simp only[relVL] at h
  obtain⟨v,t,rfl,h1,h2⟩:=h
  cases i with
  |zero=>simp at e;subst e;exact⟨v,rfl,h1⟩
  |succ i=>simp at e;obtain⟨u,hu,hr⟩:=relVL_get h2 i c e;exact⟨u,by simpa using hu,hr⟩
theorem relVL_append:∀ {l l':List V}{vs vs':List Value},relVL G s W l vs→relVL G s W l' vs'→relVL G s W (l++l') (vs++vs')
 |[],l',vs,vs',h,h'=>by simp only[relVL] at h;subst h;exact h'
 |c::r,l',vs,vs',h,h'=>by
  simp only[relVL] at h
  obtain⟨v,t,rfl,h1,h2⟩:=h
  exact⟨v,t++vs',rfl,h1,relVL_append h2 h'⟩
theorem relCL_VL:∀ {l:List C}{vs:List Value},relCL G s W l vs→relVL G s W (l.map .c) vs
 |[],vs,h=>by simp only[relCL] at h;subst h;rfl
 |c::r,vs,h=>by
  simp only[relCL] at h
  obtain⟨v,t,rfl,h1,h2⟩:=h
  exact⟨v,t,rfl,h1,relCL_VL h2⟩
theorem relVL_DL:∀ {l:List V}{vs:List Value},relVL G s W l vs→relDL G s W (l.map .v) vs
 |[],vs,h=>by simp only[relVL] at h;subst h;rfl
 |c::r,vs,h=>by
  simp only[relVL] at h
  obtain⟨v,t,rfl,h1,h2⟩:=h
  exact⟨v,t,rfl,h1,relVL_DL h2⟩
theorem relDL_append:∀ {l l':List D}{vs vs':List Value},relDL G s W l vs→relDL G s W l' vs'→relDL G s W (l++l') (vs++vs')
 |[],l',vs,vs',h,h'=>by simp only[relDL] at h;subst h;exact h'
 |c::r,l',vs,vs',h,h'=>by
  simp only[relDL] at h
  obtain⟨v,t,rfl,h1,h2⟩:=h
  exact⟨v,t++vs',rfl,h1,relDL_append h2 h'⟩
theorem relDL_undef (n:Nat):relDL G s W (List.replicate n (.tup [])) (List.replicate n undef):=by
 induction n with
 |zero=>rfl
 |succ n ih=>exact⟨_,_,rfl,⟨#[],rfl,rfl⟩,ih⟩
theorem relDL_getD:∀ {l:List D}{vs:List Value},relDL G s W l vs→∀ i,relD G s W (l.getD i .junk) (vs.getD i undef)
 |[],vs,h,i=>by simp[relD]
 |x::r,vs,h,i=>by
  simp only[relDL] at h
  obtain⟨v,t,rfl,h1,h2⟩:=h
  cases i with
  |zero=>simpa using h1
  |succ i=>simpa using relDL_getD h2 i
theorem relDL_set:∀ {l:List D}{vs:List Value},relDL G s W l vs→∀ i {d:D} {v:Value},relD G s W d v→relDL G s W (l.set i d) (vs.set i v)
 |[],vs,h,i,d,v,hd=>by simp only[relDL] at h;subst h;rfl
 |x::r,vs,h,i,d,v,hd=>by
  simp only[relDL] at h
  obtain⟨u,t,rfl,h1,h2⟩:=h
  cases i with
  |zero=>exact⟨_,_,rfl,hd,h2⟩
  |succ i=>exact⟨_,_,rfl,h1,relDL_set h2 i hd⟩
theorem relV_cells {x:V}{v:Value}(h:relV G s W x v):relCL G s W (cellsV x) v.cells.toList:=by
 cases x with
 |c x =>
  have h1:=relC_one h
  have:v.cells = #[v]:=by cases v<;>first | rfl | (simp[Value.oneCell'] at h1)
  rw[this]
  exact⟨v,[],rfl,h,rfl⟩
 |agg xs=>obtain⟨a,rfl,h1⟩:=h;exact h1
theorem relV_size {x:V}{v:Value}(h:relV G s W x v):v.cells.size=(cellsV x).length:=by
 have:=relCL_length (relV_cells h)
 simpa using this
theorem relCs_get:∀ {cs:List Pd}{b o:Nat},relCs I W b o cs→∀(i:Nat) x,cs[i]? = some x→∃ v,W.cell? ⟨b,o+i,none⟩=some v∧I b (o+i)∧relPd I W x v
 |[],b,o,h,i,x,e=>by simp at e
 |y::r,b,o,h,i,x,e=>by
  simp only[relCs] at h;cases i with
  |zero=>simp at e;subst e;exact h.1
  |succ i =>
   simp at e
   obtain⟨v,h1,h2,h3⟩:=relCs_get h.2 i x e
   have:o+1+i=o+(i+1):=by omega
   rw[this] at h1 h2
   exact⟨v,h1,h2,h3⟩
theorem relCs_mk:∀ {cs:List Pd}{b o:Nat},(∀(i:Nat) x,cs[i]? = some x→∃ v,W.cell? ⟨b,o+i,none⟩=some v∧I b (o+i)∧relPd I W x v)→relCs I W b o cs
 |[],b,o,h=>trivial
 |y::r,b,o,h=>by
  simp only[relCs]
  refine⟨h 0 y rfl,relCs_mk fun i x e=>?_⟩
  obtain⟨v,h1,h2,h3⟩:=h (i+1) x (by simpa using e)
  have:o+1+i=o+(i+1):=by omega
  rw[this]
  exact⟨v,h1,h2,h3⟩
theorem relCs_drop {cs:List Pd}{b o:Nat}(h:relCs I W b o cs)(n:Nat):relCs I W b (o+n) (cs.drop n) :=
 relCs_mk fun i x e=>by
  rw[List.getElem?_drop] at e
  have:=relCs_get h _ x e
  rwa [← Nat.add_assoc] at this
theorem relCs_take {cs:List Pd}{b o:Nat}(h:relCs I W b o cs)(n:Nat):relCs I W b o (cs.take n) :=
 relCs_mk fun i x e=>by
  rw[List.getElem?_take] at e
  split at e
  ·exact relCs_get h _ x e
  ·cases e
theorem relCs_append {cs ds:List Pd}{b o:Nat}(h:relCs I W b o cs)(h':relCs I W b (o+cs.length) ds):relCs I W b o (cs++ds) :=
 relCs_mk fun i x e=>by
  rw[List.getElem?_append] at e
  split at e
  ·exact relCs_get h _ x e
  ·have:=relCs_get h' _ x e
   have e2:o+cs.length+(i-cs.length)=o+i:=by omega
   rwa [e2] at this
end
end Go.Proofs.YtedcnhbblgmdnaaGreat.Ab
/- An evaluator of the model's code with slices as pure lists: its operations on values are the machine's. -/
namespace Go.Proofs.YtedcnhbblgmdnaaGreat.Ab
open Go.RowKit
section
variable {G:Gh} {s:St} {W:World} {P:Program}
theorem toC_rel {v:Value}{c:C}(h:toC v=some c):relC G s W c v:=by
 unfold toC at h
 split at h<;>first
  |(cases h;simp only[relC,relPd];done)
  |(cases h;simp only[relC,relPd];exact⟨_,rfl,rfl⟩)
  |(cases h;simp only[relC];exact⟨none,rfl⟩)
  |cases h
theorem allM_toC:∀ {l:List Value}{cs:List C},allM toC l=some cs→relCL G s W cs l
 |[],cs,h=>by simp[allM] at h;subst h;rfl
 |v::r,cs,h=>by
  simp only[allM] at h
  split at h
  ·cases h
  ·rename_i y hy
   split at h
   ·cases h
   ·rename_i ys hys
    cases h
    exact⟨v,r,rfl,toC_rel hy,allM_toC hys⟩
theorem constD_rel (v:Value):relD G s W (constD v) v:=by
 unfold constD
 split
 ·rename_i c h;exact toC_rel (G:=G) (s:=s) (W:=W) h
 ·trivial
theorem opd_rel {e:List D}{a:Act}(h:relDL G s W e a.tmps.toList)(x:Operand):relD G s W (opd e x) (a.eval x):=by
 cases x with
 |tmp t =>
  have:=relDL_getD h t
  simpa[opd,Act.eval] using this
 |const v=>exact constD_rel v
 |func f=>simp only[opd,P',relD,relV,relC,relPd,Act.eval]
 |global g=>trivial
/-! ### types -/
structure TOK (P:Program) (t:Nat) (i:TI) (inf:TypeInfo) (d:TypeDesc):Prop where
 info:P.info? t=some inf
 und:P.underlying t=some d
 kn:knOf P d=some i.kn
 size:inf.size=i.size
 agg:isAggD d=i.agg
 bytes:inf.bytes=i.bytes
 zero:∀ z,i.zero=some z→∃ zv,inf.zero=some zv∧allM toC zv.cells.toList=some z
theorem tOK {t:Nat}{i:TI}{b:Bool}(h:tiOf P t=some { i with eq:=b }):∃ inf d,TOK P t i inf d:=by
 unfold tiOf at h
 split at h
 ·rename_i inf d h1 h2
  split at h
  ·rename_i k h3
   cases i;simp only[Option.some.injEq,TI.mk.injEq] at h
   obtain⟨rfl,rfl,rfl,h4,rfl,_⟩:=h
   refine⟨inf,d,h1,h2,h3,rfl,rfl,rfl,fun z hz=>?_⟩
   subst hz;cases hq:inf.zero with
   |none=>rw[hq] at h4;cases h4
   |some zv=>rw[hq] at h4;exact⟨zv,rfl,h4⟩
  ·cases h
 ·cases h
variable {t:Nat} {i:TI} {inf:TypeInfo} {d:TypeDesc}
theorem TOK.sizeOf (h:TOK P t i inf d):(sizeOf t).run P W=.ok i.size W:=by simp[Go.sizeOf,typeInfo,h.info,h.size]
theorem TOK.typeInfo (h:TOK P t i inf d):(typeInfo t).run P W=.ok inf W:=by simp[Go.typeInfo,h.info]
theorem TOK.underlying (h:TOK P t i inf d):(underlying t).run P W=.ok d W:=run_underlying h.und W
theorem TOK.isAgg (h:TOK P t i inf d):(isAgg t).run P W=.ok i.agg W:=by
 rw[← h.agg]
 unfold Go.isAgg
 rw[Sem.run_bind,h.underlying]
 cases d<;>simp[isAggD]
theorem TOK.zeroValue (h:TOK P t i inf d){z:List C}(hz:i.zero=some z):∃ zv,(zeroValue t).run P W=.ok zv W∧allM toC zv.cells.toList=some z:=by
 obtain⟨zv,h1,h2⟩:=h.zero z hz
 exact⟨zv,by simp[Go.zeroValue,Go.typeInfo,h.info,h1],h2⟩
theorem TOK.slice (h:TOK P t i inf d){e:Nat}(hk:i.kn=.slice e):d=.slice e:=by
 have:=h.kn
 rw[hk] at this
 cases d<;>simp[knOf] at this<;>first | (subst this;rfl) | (split at this<;>simp at this)
theorem TOK.map (h:TOK P t i inf d){k e:Nat}{z:C}(hk:i.kn=.map k e (some z)):d=.map k e∧∃ j v,P.info? e=some j∧j.zero=some v∧toC v=some z:=by
 have:=h.kn
 rw[hk] at this
 cases d<;>simp[knOf] at this<;>first
  | (obtain ⟨rfl, rfl, h3⟩ := this
     refine⟨rfl,?_⟩
     split at h3
     · rename_i j hj
       split at h3
       · rename_i v hv;exact⟨j,v,hj,hv,h3⟩
       · cases h3
     · cases h3)
  |(split at this<;>simp at this)
theorem TOK.str (h:TOK P t i inf d)(hk:i.kn=.str):d=.string:=by
 have:=h.kn
 rw[hk] at this
 cases d<;>simp[knOf] at this<;>first | rfl | (split at this<;>simp at this)
theorem TOK.array (h:TOK P t i inf d){n e:Nat}(hk:i.kn=.array n e):d=.array n e:=by
 have:=h.kn
 rw[hk] at this
 cases d<;>simp[knOf] at this<;>first | (obtain⟨rfl,rfl⟩:=this;rfl) | (split at this<;>simp at this)
theorem TOK.boolT (h:TOK P t i inf d)(hk:i.kn=.bool):d=.bool:=by
 have:=h.kn
 rw[hk] at this
 cases d<;>simp[knOf] at this<;>first | rfl | (split at this<;>simp at this)
theorem TOK.intT (h:TOK P t i inf d){k:IntKind}(hk:i.kn=.int k):d=.int k:=by
 have:=h.kn
 rw[hk] at this
 cases d<;>simp[knOf] at this<;>first | (subst this;rfl) | (split at this<;>simp at this)
theorem TOK.structT (h:TOK P t i inf d){fs:List (Nat×Nat×Bool)}(hk:i.kn=.struct fs):∃ fl,d=.struct fl∧allM (fldOf P) fl.toList=some fs:=by
 have:=h.kn
 rw[hk] at this
 cases d<;>simp[knOf] at this<;>(split at this<;>simp at this)
 rename_i fl _ l hl
 subst this
 exact⟨fl,rfl,hl⟩
theorem allM_get {α β:Type}{f:α→Option β}:∀ {l:List α} {ys:List β},allM f l=some ys→∀(i:Nat) y,ys[i]? = some y→∃ x,l[i]? = some x∧f x=some y
 |[],ys,h,i,y,e=>by simp[allM] at h;subst h;simp at e
 |x::r,ys,h,i,y,e=>by
  simp only[allM] at h
  split at h
  ·cases h
  ·rename_i z hz
   split at h
   ·cases h
   ·rename_i zs hzs
    cases h;cases i with
    |zero=>simp at e;subst e;exact⟨x,rfl,hz⟩
    |succ i=>simp at e;obtain⟨u,hu,hf⟩:=allM_get hzs i y e;exact⟨u,by simpa using hu,hf⟩
theorem allM_len {α β:Type}{f:α→Option β}:∀ {l:List α} {ys:List β},allM f l=some ys→ys.length=l.length
 |[],ys,h=>by simp[allM] at h;subst h;rfl
 |x::r,ys,h=>by
  simp only[allM] at h
  split at h
  ·cases h
  ·split at h
   ·cases h
   ·rename_i zs hzs
    cases h
    simp[allM_len hzs]
/-! ### what a program's evaluator is asked -/
def eqV1:Value→Value→Option Bool
 |.int k a,.int k' b=>if k=k' then some (a==b) else none
 |.bool a,.bool b=>some (a==b)
 |.string a,.string b=>some (a.data.toList==b.data.toList)
 |_,_=>none
def eqVs:List Value→List Value→Option Bool
 |[],[]=>some true
 |x::r,y::t=>match eqV1 x y with
  |none=>none
  |some b=>match eqVs r t with
   |none=>none
   |some c=>some (b&&c)
 |_,_=>none
theorem eqS_rel {I:Nat→Nat→Prop}{x y:Pd}{v w:Value}{b:Bool}(hx:relPd I W x v)(hy:relPd I W y w)(h:eqS x y=some b):eqV1 v w=some b:=by
 unfold eqS at h
 split at h
 ·simp only[relPd] at hx hy;subst hx hy;exact h
 ·simp only[relPd] at hx hy;subst hx hy;exact h
 ·simp only[relPd] at hx hy
  obtain⟨s1,rfl,rfl⟩:=hx
  obtain⟨s2,rfl,rfl⟩:=hy
  exact h
 ·cases h
theorem eqL_rel:∀ {xs ys:List C}{vs ws:List Value}{b:Bool},relCL G s W xs vs→relCL G s W ys ws→eqL xs ys=some b→eqVs vs ws=some b
 |[],[],vs,ws,b,hx,hy,h=>by
  simp only[relCL] at hx hy;subst hx hy;simpa[eqL,eqVs] using h
 |.p x::r,.p y::t,vs,ws,b,hx,hy,h=>by
  simp only[relCL] at hx hy
  obtain⟨v,vt,rfl,hv,hr⟩:=hx
  obtain⟨w,wt,rfl,hw,ht⟩:=hy
  simp only[eqL] at h
  split at h
  ·cases h
  ·rename_i b1 hb1
   split at h
   ·cases h
   ·rename_i c hc
    cases h
    have h1:=eqS_rel hv hw hb1
    have h2:=eqL_rel hr ht hc
    simp[eqVs,h1,h2]
 |[],y::t,_,_,_,_,_,h=>by simp[eqL] at h
 |x::r,[],_,_,_,_,_,h=>by cases x<;>simp[eqL] at h
 |.nils::r,y::t,_,_,_,_,_,h=>by simp[eqL] at h
 |.own _ _ _::r,y::t,_,_,_,_,_,h=>by simp[eqL] at h
 |.mt _ _ _ _::r,y::t,_,_,_,_,_,h=>by simp[eqL] at h
 |.ref _ _::r,y::t,_,_,_,_,_,h=>by simp[eqL] at h
 |.rp _ _::r,y::t,_,_,_,_,_,h=>by simp[eqL] at h
 |.fn _ _ _::r,y::t,_,_,_,_,_,h=>by simp[eqL] at h
 |.p x::r,.nils::t,_,_,_,_,_,h=>by simp[eqL] at h
 |.p x::r,.own _ _ _::t,_,_,_,_,_,h=>by simp[eqL] at h
 |.p x::r,.mt _ _ _ _::t,_,_,_,_,_,h=>by simp[eqL] at h
 |.p x::r,.ref _ _::t,_,_,_,_,_,h=>by simp[eqL] at h
 |.p x::r,.rp _ _::t,_,_,_,_,_,h=>by simp[eqL] at h
 |.p x::r,.fn _ _ _::t,_,_,_,_,_,h=>by simp[eqL] at h
theorem kinS_rel {I:Nat→Nat→Prop}{x y:Pd}{v w:Value}(hx:relPd I W x v)(hy:relPd I W y w)(h:kinS x y=true):∃ b,eqV1 v w=some b:=by
 unfold kinS at h
 split at h
 ·simp only[relPd] at hx hy;subst hx hy
  exact⟨_,by simp only[eqV1];rw[if_pos (by simpa using h)]⟩
 ·simp only[relPd] at hx hy;subst hx hy;exact⟨_,rfl⟩
 ·simp only[relPd] at hx hy
  obtain⟨s1,rfl,rfl⟩:=hx
  obtain⟨s2,rfl,rfl⟩:=hy
  exact⟨_,rfl⟩
 ·cases h
theorem kinL_rel:∀ {z xs:List C}{zs vs:List Value},relCL G s W z zs→relCL G s W xs vs→kinL z xs=true→∃ b,eqVs zs vs=some b
 |[],[],zs,vs,hx,hy,h=>by
  simp only[relCL] at hx hy;subst hx hy;exact⟨true,rfl⟩
 |[],y::t,_,_,_,_,h=>by simp[kinL] at h
 |x::r,[],_,_,_,_,h=>by cases x<;>simp[kinL] at h
 |x::r,y::t,zs,vs,hx,hy,h=>by
  cases x<;>cases y<;>first | (simp[kinL] at h;done) | skip
  simp only[relCL] at hx hy
  obtain⟨v,vt,rfl,hv,hr⟩:=hx
  obtain⟨w,wt,rfl,hw,ht⟩:=hy
  simp only[kinL,Bool.and_eq_true] at h
  obtain⟨b1,h1⟩:=kinS_rel hv hw h.1
  obtain⟨b2,h2⟩:=kinL_rel hr ht h.2
  exact⟨b1&&b2,by simp only[eqVs,h1,h2]⟩
def EqOK (P:Program)(t:Nat):Prop:=∀(W:World) (zv:Value) (xs ys:Array Value) (b b0:Bool),(zeroValue t).run P W=.ok zv W→eqVs zv.cells.toList xs.toList=some b0→eqVs xs.toList ys.toList=some b →
 (∀(op:BinOp) (x y:Operand),(eqGuard op t x y (.agg xs) (.agg ys)).run P W=.ok () W)∧(Op.equal t (.agg xs) (.agg ys)).run P W=.ok b W
structure EnvTy (P:Program) (E:Env):Prop where
 ti:∀ t i,E.ti t=some i→tiOf P t=some { i with eq:=false }
 eq:∀ t i,E.ti t=some i→i.eq=true→EqOK P t
theorem EnvTy.tok {E:Env}(h:EnvTy P E){t:Nat}{i:TI}(ht:E.ti t=some i):∃ inf d,TOK P t i inf d:=tOK (h.ti t i ht)
/-! ### numbers and strings -/
theorem bytes_toList (t:ByteArray):t.toList=t.data.toList:=by
 have h:∀(n i:Nat) (r:List UInt8),t.size-i=n→ByteArray.toList.loop t i r=r.reverse++t.data.toList.drop i:=by
  intro n
  induction n with
  |zero =>
   intro i r hn;unfold ByteArray.toList.loop
   rw[if_neg (by omega),List.drop_eq_nil_of_le (by simp;show t.data.size≤i;have:t.size=t.data.size:=rfl;omega)]
   simp
  |succ n ih =>
   intro i r hn;unfold ByteArray.toList.loop
   rw[if_pos (by omega),ih (i+1) _ (by omega)]
   have hi:i<t.data.toList.length:=by have:t.size=t.data.size:=rfl;simp;omega
   rw[List.drop_eq_getElem_cons hi]
   simp[ByteArray.get!]
   have:i<t.data.size:=by simpa using hi
   rw[getElem!_pos t.data i this]
 unfold ByteArray.toList
 rw[h _ 0 [] rfl]
 simp
theorem P'_int {k:IntKind}{n:Int}{v:Value}(h:relD G s W (P' (.int k n)) v):v=.int k n:=by simpa[P',relD,relV,relC,relPd] using h
theorem P'_bool {b:Bool}{v:Value}(h:relD G s W (P' (.bool b)) v):v=.bool b:=by simpa[P',relD,relV,relC,relPd] using h
theorem P'_str {l:List UInt8}{v:Value}(h:relD G s W (P' (.str l)) v):∃ t:ByteArray,v=.string t∧t.data.toList=l:=by simpa[P',relD,relV,relC,relPd] using h
theorem P'_mk {x:Pd}{v:Value}(h:relPd G.imm W x v):relD G s W (P' x) v:=by simpa[P',relD,relV,relC] using h
theorem P'_mkInt (k:IntKind)(n:Int):relD G s W (P' (.int k n)) (.int k n):=by simp[P',relD,relV,relC,relPd]
theorem P'_mkBool (b:Bool):relD G s W (P' (.bool b)) (.bool b):=by simp[P',relD,relV,relC,relPd]
theorem P'_mkStr (t:ByteArray):relD G s W (P' (.str t.data.toList)) (.string t):=by simp[P',relD,relV,relC,relPd]
theorem intI_run {op:BinOp}{k:IntKind}{a b:Int}{r:Pd}(h:intI op k a b=some r)(ht:op≠.shl∧op≠.shr)(t:Nat) :
  ∃ v,(Go.binOp op t (.int k a) (.int k b)).run P W=.ok v W∧relPd G.imm W r v:=by
 cases op<;>simp only[intI] at h<;>first
  |(exact absurd rfl ht.1) | (exact absurd rfl ht.2)
  |(cases h;refine⟨_,?_,rfl⟩;simp[Go.binOp,Op.intArith,Op.intBits,Op.intCmp];done)
  | (split at h
     · cases h
     · rename_i h0;cases h;refine⟨_,?_,rfl⟩;simp[Go.binOp,Op.intDiv,h0])
  |cases h
theorem shiftI_run {op:BinOp}{k k':IntKind}{a b:Int}{r:Pd}(h:shiftI op k a b=some r)(t:Nat) :
  ∃ v,(Go.binOp op t (.int k a) (.int k' b)).run P W=.ok v W∧relPd G.imm W r v:=by
 unfold shiftI at h
 split at h
 ·cases h
 ·rename_i h0
  cases op<;>simp only at h<;>cases h<;>refine⟨_,?_,rfl⟩<;>simp[Go.binOp,Op.shift,h0]
theorem size_data (x:ByteArray):x.size=x.data.toList.length:=by simp
theorem strI_run {op:BinOp}{x y:ByteArray}{r:Pd}(h:strI op x.data.toList y.data.toList=some r)(t:Nat) :
  ∃ v,(Go.binOp op t (.string x) (.string y)).run P W=.ok v W∧relPd G.imm W r v:=by
 by_cases ha:op=.add
 ·subst ha;simp only[strI] at h
  by_cases h0:x.data.toList.length+y.data.toList.length > 9223372036854775807
  ·rw[if_pos h0] at h;cases h
  ·rw[if_neg h0] at h
   cases h
   refine⟨.string (x++y),?_,⟨_,rfl,by simp[ByteArray.data_append]⟩⟩
   have hm:IntKind.i64.max=9223372036854775807:=by decide
   have:¬ (((x.size+y.size:Nat):Int) > IntKind.i64.max):=by
    rw[hm,size_data,size_data];omega
   simp only[Go.binOp,Op.stringOp]
   rw[if_neg this]
   rfl
 ·cases op<;>simp only[strI] at h<;>first
   |exact absurd rfl ha
   |(cases h;refine⟨_,?_,rfl⟩;simp[Go.binOp,Op.stringOp,bytes_toList];done)
   |cases h
end
end Go.Proofs.YtedcnhbblgmdnaaGreat.Ab
/- An evaluator of the model's code with slices as pure lists: its operations on values are the machine's (the second part). -/
namespace Go.Proofs.YtedcnhbblgmdnaaGreat.Ab
open Go.RowKit
section
variable {X:Ctx} {G:Gh} {s:St} {W:World} {P:Program} {E:Env}
theorem eqGuard_int (op:BinOp)(t:Nat)(x y:Operand)(k k':IntKind)(a b:Int):(eqGuard op t x y (.int k a) (.int k' b)).run P W=.ok () W:=by
 unfold eqGuard;cases op<;>simp
theorem eqGuard_str (op:BinOp)(t:Nat)(x y:Operand)(a b:ByteArray):(eqGuard op t x y (.string a) (.string b)).run P W=.ok () W:=by
 unfold eqGuard;cases op<;>simp
theorem eqGuard_bool (op:BinOp)(t:Nat)(x y:Operand)(a b:Bool):(eqGuard op t x y (.bool a) (.bool b)).run P W=.ok () W:=by
 unfold eqGuard;cases op<;>simp
theorem binOp_agg {op:BinOp}(t:Nat)(xs ys:Array Value){b:Bool}(h:(Op.equal t (.agg xs) (.agg ys)).run P W=.ok b W) :
  (op=.eql→(Go.binOp op t (.agg xs) (.agg ys)).run P W=.ok (.bool b) W)∧(op=.neq→(Go.binOp op t (.agg xs) (.agg ys)).run P W=.ok (.bool (!b)) W):=by
 constructor<;>rintro rfl<;>simp[Go.binOp,h]
theorem binOp_bool {op:BinOp}{t:Nat}{i:TI}{inf:TypeInfo}{d:TypeDesc}(ht:TOK P t i inf d)(hk:i.kn=.bool)(a b:Bool) :
  (op=.eql→(Go.binOp op t (.bool a) (.bool b)).run P W=.ok (.bool (a==b)) W)∧(op=.neq→(Go.binOp op t (.bool a) (.bool b)).run P W=.ok (.bool (!(a==b))) W):=by
 have hd:=ht.boolT hk
 subst hd
 have he:(Op.equal t (.bool a) (.bool b)).run P W=.ok (a==b) W:=by
  unfold Op.equal Op.maxDepth Op.equalIn
  simp[ht.underlying]
 constructor<;>rintro rfl<;>simp[Go.binOp,he]
theorem binD_ok (hE:EnvTy P E){op:BinOp}{t:Nat}{x y:D}{d:D}{vx vy:Value}(h:binD E op t x y=some d)(hx:relD G s W x vx)(hy:relD G s W y vy)(ox oy:Operand) :
  ∃ v,(do eqGuard op t ox oy vx vy;Go.binOp op t vx vy:Sem Value).run P W=.ok v W∧relD G s W d v:=by
 unfold binD at h
 split at h
 ·rename_i k a k' b
  obtain rfl:=P'_int hx;obtain rfl:=P'_int hy;simp only[Sem.run_bind,eqGuard_int,Result.andThen_ok]
  split at h
  ·split at h
   ·rename_i r hr
    cases h
    obtain⟨v,h1,h2⟩:=shiftI_run (P:=P) (W:=W) (G:=G) (k':=k') hr t
    exact⟨v,h1,P'_mk h2⟩
   ·cases h
  ·split at h
   ·rename_i r hr
    cases h
    obtain⟨v,h1,h2⟩:=shiftI_run (P:=P) (W:=W) (G:=G) (k':=k') hr t
    exact⟨v,h1,P'_mk h2⟩
   ·cases h
  ·rename_i n1 n2
   split at h
   ·rename_i hk
    subst hk
    split at h
    ·rename_i r hr
     cases h
     obtain⟨v,h1,h2⟩:=intI_run (P:=P) (W:=W) (G:=G) hr ⟨n1,n2⟩ t
     exact⟨v,h1,P'_mk h2⟩
    ·cases h
   ·cases h
 ·rename_i a b
  obtain⟨sa,rfl,rfl⟩:=P'_str hx
  obtain⟨sb,rfl,rfl⟩:=P'_str hy
  simp only[Sem.run_bind,eqGuard_str,Result.andThen_ok]
  split at h
  ·rename_i r hr
   cases h
   obtain⟨v,h1,h2⟩:=strI_run (P:=P) (W:=W) (G:=G) hr t
   exact⟨v,h1,P'_mk h2⟩
  ·cases h
 ·rename_i a b
  obtain rfl:=P'_bool hx;obtain rfl:=P'_bool hy;simp only[Sem.run_bind,eqGuard_bool,Result.andThen_ok]
  split at h
  ·rename_i i hi
   obtain⟨inf,dd,ht⟩:=hE.tok hi
   obtain⟨h1,h2⟩:=binOp_bool (W:=W) (op:=op) ht rfl a b
   split at h
   ·cases h;exact⟨_,h1 rfl,P'_mkBool _⟩
   ·cases h;exact⟨_,h2 rfl,P'_mkBool _⟩
   ·cases h
  ·cases h
 ·rename_i xs ys
  obtain⟨ax,rfl,hxs⟩:=hx
  obtain⟨ay,rfl,hys⟩:=hy
  split at h
  ·rename_i i hi
   split at h
   ·rename_i z hz
    split at h
    ·rename_i hc
     simp only[Bool.and_eq_true] at hc
     split at h
     ·rename_i b hb
      obtain⟨inf,dd,ht⟩:=hE.tok hi
      obtain⟨zv,hz1,hz2⟩:=ht.zeroValue (W:=W) hz
      obtain⟨b0,hb0⟩:=kinL_rel (allM_toC hz2:relCL G s W z zv.cells.toList) hxs hc.2
      obtain⟨h1,h2⟩:=hE.eq t i hi hc.1 W zv ax ay b b0 hz1 hb0 (eqL_rel hxs hys hb)
      simp only[Sem.run_bind,h1,Result.andThen_ok]
      obtain⟨h3,h4⟩:=binOp_agg (op:=op) t ax ay h2
      split at h
      ·cases h;exact⟨_,h3 rfl,P'_mkBool _⟩
      ·cases h;exact⟨_,h4 rfl,P'_mkBool _⟩
      ·cases h
     ·cases h
    ·cases h
   ·cases h
  ·cases h
 ·rename_i n cs
  obtain⟨a,c,rfl,hnc,hcs⟩:=hx
  obtain rfl:=hy
  split at h
  ·rename_i e eq hi
   obtain⟨inf,dd,ht⟩:=hE.tok hi
   have hd:=ht.slice rfl
   subst hd
   split at h
   ·rename_i hlen
    obtain⟨b,o,rfl,_⟩:=hcs (by intro e;rw[e] at hlen;exact absurd hlen (by simp))
    have he:(Op.equal t (.slice (some ⟨b,o,none⟩) n c) (.slice none 0 0)).run P W=.ok false W:=by
     unfold Op.equal Op.maxDepth Op.equalIn
     simp[ht.underlying]
    have hg:(eqGuard op t ox oy (.slice (some ⟨b,o,none⟩) n c) (.slice none 0 0)).run P W=.ok () W:=by
     unfold eqGuard;cases op<;>simp
    simp only[Sem.run_bind,hg,Result.andThen_ok]
    split at h
    ·cases h;exact⟨.bool false,by simp[Go.binOp,he],P'_mkBool _⟩
    ·cases h;exact⟨.bool true,by simp[Go.binOp,he],P'_mkBool _⟩
    ·cases h
   ·cases h
  ·cases h
 ·cases h
theorem unD_ok {op:UnOp}{x d:D}{vx:Value}(h:unD op x=some d)(hx:relD G s W x vx):∃ v,(Op.unary op vx).run P W=.ok v W∧relD G s W d v:=by
 unfold unD at h
 split at h
 ·obtain rfl:=P'_int hx;cases h;exact⟨_,by simp[Op.unary,Op.intArith],P'_mkInt _ _⟩
 ·obtain rfl:=P'_int hx;cases h;exact⟨_,by simp[Op.unary,Op.intBits],P'_mkInt _ _⟩
 ·obtain rfl:=P'_bool hx;cases h;exact⟨_,by simp[Op.unary],P'_mkBool _⟩
 ·cases h
theorem intq {d:D}{k:IntKind}{n:Int}{v:Value}(h:d.int? = some (k,n))(hr:relD G s W d v):v=.int k n:=by
 unfold D.int? at h
 split at h
 ·cases h;exact P'_int hr
 ·cases h
theorem boolq {d:D}{b:Bool}{v:Value}(h:d.bool? = some b)(hr:relD G s W d v):v=.bool b:=by
 unfold D.bool? at h
 split at h
 ·cases h;exact P'_bool hr
 ·cases h
theorem vq {d:D}{x:V}{v:Value}(h:d.v? = some x)(hr:relD G s W d v):relV G s W x v:=by
 unfold D.v? at h
 split at h
 ·cases h;exact hr
 ·cases h
theorem cq {d:D}{x:C}{v:Value}(h:d.c? = some x)(hr:relD G s W d v):relC G s W x v:=by
 unfold D.c? at h
 split at h
 ·cases h;exact hr
 ·cases h
theorem fldOf_ok {f:Field}{o sz:Nat}{ag:Bool}(h:fldOf P f=some (o,sz,ag)) :
  f.offset=o∧(sizeOf f.type).run P W=.ok sz W∧(isAgg f.type).run P W=.ok ag W:=by
 unfold fldOf at h
 split at h
 ·rename_i i d h1 h2
  cases h
  refine⟨rfl,by simp[sizeOf,typeInfo,h1],?_⟩
  unfold isAgg
  rw[Sem.run_bind,run_underlying h2]
  cases d<;>simp[isAggD]
 ·cases h
theorem fieldAddrD_ok (hE:EnvTy P E){t f:Nat}{x d:D}{vx:Value}(h:fieldAddrD E t x f=some d)(hx:relD G s W x vx) :
  ∃ v,(Instr.fieldAt t vx f).run P W=.ok v W∧relD G s W d v:=by
 unfold fieldAddrD at h
 split at h
 ·rename_i fs sz ag by_ z eq hi
  obtain⟨inf,dd,ht⟩:=hE.tok hi
  obtain⟨fl,rfl,hfl⟩:=ht.structT rfl
  split at h
  ·rename_i o fsz fag hf
   split at h
   ·cases h
   ·rename_i h0
    obtain⟨fd,hfd,hfo⟩:=allM_get hfl f _ hf
    obtain⟨h1,h2,h3⟩:=fldOf_ok (W:=W) hfo
    have hfd':fl[f]? = some fd:=by simpa using hfd
    split at h
    ·cases h
     obtain⟨hr,rfl⟩:=hx
     refine⟨_,?_,hr,rfl⟩
     simp[Instr.fieldAt,ht.underlying,hfd',Instr.sureAddr,fieldPlace,h2,h0,h1,Addr.add_mid]
    ·cases h
     obtain⟨b,oo,rfl,hr⟩:=hx
     refine⟨.pointer (some ⟨b,oo+(_+o),none⟩),?_,b,oo,rfl,hr⟩
     simp[Instr.fieldAt,ht.underlying,hfd',Instr.sureAddr,fieldPlace,h2,h0,h1,Addr.add_mid,Nat.add_assoc]
    ·cases h
     obtain⟨hr,b,rfl,hg⟩:=hx
     refine⟨_,?_,hr,b,rfl,hg⟩
     simp[Instr.fieldAt,ht.underlying,hfd',Instr.sureAddr,fieldPlace,h2,h0,h1,Addr.add_mid]
    ·cases h
  ·cases h
 ·cases h
theorem mkV_rel {ag:Bool}{cs:List C}{v:V}{vs:List Value}(h:mkV ag cs=some v)(hr:relCL G s W cs vs) :
  (ag=true→relV G s W v (.agg vs.toArray))∧(ag=false→∃ u,vs=[u]∧relV G s W v u):=by
 unfold mkV at h
 split at h
 ·rename_i ha
  cases h
  exact⟨fun _=>⟨_,rfl,by simpa using hr⟩,fun hf=>by rw[hf] at ha;cases ha⟩
 ·rename_i ha
  split at h
  ·cases h;simp only[relCL] at hr
   obtain⟨u,t,rfl,h1,rfl⟩:=hr
   exact⟨fun hf=>absurd hf ha,fun _=>⟨u,rfl,h1⟩⟩
  ·cases h
theorem extract_toList (cs:Array Value)(o n:Nat):(cs.extract o (o+n)).toList=(cs.toList.drop o).take n:=by
 simp[Array.toList_extract,List.extract_eq_take_drop]
theorem part_ok {t:Nat}{cs:Array Value}{xs:List C}{o sz:Nat}{ag:Bool}{v:V}(hs:(sizeOf t).run P W=.ok sz W)(ha:(isAgg t).run P W=.ok ag W)
  (hr:relCL G s W xs cs.toList) (hm:mkV ag ((xs.drop o).take sz)=some v) (h1:sz=1∨ag=true):∃ u,(part t cs o).run P W=.ok u W∧relV G s W v u:=by
 have hrel:=relCL_take sz (relCL_drop o hr)
 obtain⟨g1,g2⟩:=mkV_rel hm hrel
 cases ag with
 |true =>
  refine⟨_,?_,g1 rfl⟩
  simp only[part,Sem.run_bind,ha,Result.andThen_ok,if_true,hs,Sem.run_pure]
  congr 1
  rw[← extract_toList]
 |false =>
  have:sz=1:=by rcases h1 with h1 | h1;exact h1;cases h1
  subst this
  obtain⟨u,hu,hv⟩:=g2 rfl
  refine⟨u,?_,hv⟩
  have hc:cs[o]? = some u:=by
   have:((cs.toList.drop o).take 1)[0]? = some u:=by rw[hu];rfl
   simpa using this
  simp[part,ha,hc]
theorem fieldD_ok (hE:EnvTy P E){t f:Nat}{x d:D}{vx:Value}(h:fieldD E t x f=some d)(hx:relD G s W x vx) :
  ∃ v,(Instr.field t vx f).run P W=.ok v W∧relD G s W d v:=by
 unfold fieldD at h
 split at h
 ·rename_i fs sz ag by_ z eq hi
  obtain⟨inf,dd,ht⟩:=hE.tok hi
  obtain⟨fl,rfl,hfl⟩:=ht.structT rfl
  split at h
  ·rename_i o fsz fag hf
   obtain⟨fd,hfd,hfo⟩:=allM_get hfl f _ hf
   obtain⟨h1,h2,h3⟩:=fldOf_ok (W:=W) hfo
   have hfd':fl[f]? = some fd:=by simpa using hfd
   split at h
   ·rename_i cs
    obtain⟨a,rfl,hr⟩:=hx
    split at h
    ·split at h
     ·rename_i v hv
      split at h
      ·rename_i hor
       cases h
       obtain⟨u,hu,hru⟩:=part_ok h2 h3 hr hv (by simpa using hor)
       refine⟨u,?_,hru⟩
       simp[Instr.field,ht.underlying,hfd',asAgg,h1,hu]
      ·cases h
     ·cases h
    ·cases h
   ·cases h
  ·cases h
 ·cases h
theorem indexD_ok (hE:EnvTy P E){t:Nat}{x ix d:D}{vx vi:Value}(h:indexD E t x ix=some d)(hx:relD G s W x vx)(hi:relD G s W ix vi) :
  ∃ v,(Instr.index t vx vi).run P W=.ok v W∧relD G s W d v:=by
 unfold indexD at h
 split at h
 ·rename_i i k n hti hn
  obtain rfl:=intq hn hi
  obtain⟨inf,dd,ht⟩:=hE.tok hti
  split at h
  ·rename_i b hk
   obtain⟨tt,rfl,rfl⟩:=P'_str hx
   have hd:=ht.str hk
   subst hd
   split at h
   ·rename_i h0
    split at h
    ·rename_i c hc
     cases h
     refine⟨.int .u8 c.toNat,?_,?_⟩
     ·have:tt[n.toNat]? = some c:=by
       have hl:n.toNat<tt.data.toList.length:=(List.getElem?_eq_some_iff.1 hc).1
       have hl':n.toNat<tt.size:=by rw[size_data];exact hl
       rw[getElem?_pos tt n.toNat hl']
       have:=(List.getElem?_eq_some_iff.1 hc).2
       rw[← this]
       rfl
      simp[Instr.index,ht.underlying,asIntOf,h0,this]
     ·simp[pdOfByte,P',relD,relV,relC,relPd]
    ·cases h
   ·cases h
  ·rename_i m e cs hk
   obtain⟨a,rfl,hr⟩:=hx
   have hd:=ht.array hk
   subst hd
   split at h
   ·rename_i ie hie
    obtain⟨inf2,d2,ht2⟩:=hE.tok hie
    split at h
    ·rename_i hc
     split at h
     ·rename_i v hv
      split at h
      ·rename_i hor
       cases h
       obtain⟨u,hu,hru⟩:=part_ok ht2.sizeOf ht2.isAgg hr hv (by simpa using hor)
       refine⟨u,?_,hru⟩
       simp[Instr.index,ht.underlying,asIntOf,hc.1,hc.2.1,ht2.sizeOf,hu]
      ·cases h
     ·cases h
    ·cases h
   ·cases h
  ·cases h
 ·cases h
theorem slice_elems {n:Nat}{cs:List Pd}{v:Value}(h:relC G s W (.p (.lst n cs)) v):∃ a c,v=.slice a n c∧n≤c∧(cs≠[]→∃ b o,a=some ⟨b,o,none⟩∧relCs G.imm W b o cs):=by
 simpa[relC,relPd] using h
theorem indexAddr_elems {t e:Nat}{i ie:TI}{inf inf2:TypeInfo}{d d2:TypeDesc}(ht:TOK P t i inf d)(hk:i.kn=.slice e)(he:TOK P e ie inf2 d2){m:Nat}{cs:List Pd}{n:Int}{k:IntKind}{v:Value}
  (hv:relC G s W (.p (.lst m cs)) v) (h0:0≤n) (h1:n<m) (h2:(n.toNat+1)*ie.size≤cs.length) (h3:0<ie.size) :
  ∃ u,(Instr.indexAt t v (.int k n)).run P W=.ok u W∧relC G s W (.rp cs (n.toNat*ie.size)) u:=by
 obtain⟨a,c,rfl,hc,hcs⟩:=slice_elems hv
 have hd:=ht.slice hk
 subst hd
 have hne:cs≠[]:=by
  have h3':0<(n.toNat+1)*ie.size:=Nat.mul_pos (by omega) h3
  intro e
  rw[e] at h2
  simp only[List.length_nil] at h2;omega
 obtain⟨b,o,rfl,hr⟩:=hcs hne
 refine⟨.pointer (some ⟨b,o+n.toNat*ie.size,none⟩),?_,b,o,rfl,hr⟩
 simp[Instr.indexAt,asIntOf,ht.underlying,h0,h1,he.sizeOf,Addr.add_mid]
theorem indexAddrD_ok (hE:EnvTy P E){t:Nat}{x ix d:D}{vx vi:Value}(h:indexAddrD E t x ix=some d)(hx:relD G s W x vx)(hi:relD G s W ix vi) :
  ∃ v,(Instr.indexAt t vx vi).run P W=.ok v W∧relD G s W d v:=by
 unfold indexAddrD at h
 split at h
 ·rename_i i k n hti hn
  obtain rfl:=intq hn hi
  obtain⟨inf,dd,ht⟩:=hE.tok hti
  split at h
  ·rename_i e c hk
   split at h
   ·rename_i ie hie
    obtain⟨inf2,d2,ht2⟩:=hE.tok hie
    split at h
    ·rename_i m cs
     split at h
     ·rename_i hc
      cases h;exact indexAddr_elems (s:=s) ht hk ht2 hx hc.1 hc.2.1 hc.2.2.1 hc.2.2.2
     ·cases h
    ·rename_i m cs id
     split at h
     ·rename_i hc
      cases h;exact indexAddr_elems (s:=s) ht hk ht2 (m:=m) (cs:=cs) hx.1 hc.1 hc.2.1 hc.2.2.1 hc.2.2.2
     ·cases h
    ·rename_i r off m es
     split at h
     ·rename_i hc
      cases h
      obtain⟨h1,c,hcc,rfl⟩:=hx
      have hd:=ht.slice hk
      subst hd
      refine⟨.pointer (some ⟨G.blk r,off+n.toNat*es,none⟩),?_,h1,rfl⟩
      simp[Instr.indexAt,asIntOf,ht.underlying,hc.1,hc.2.1,ht2.sizeOf,Addr.add_mid,hc.2.2]
     ·cases h
    ·rename_i q id off m es
     split at h
     ·rename_i hc
      cases h
      obtain⟨h1,b,c,rfl,hcc,hg⟩:=hx
      have hd:=ht.slice hk
      subst hd
      refine⟨.pointer (some ⟨b,off+n.toNat*es,none⟩),?_,h1,b,rfl,fun es' m' cs fz e=>⟨(hg es' m' cs fz e).1,fun e2=>((hg es' m' cs fz e).2 e2).1⟩⟩
      simp[Instr.indexAt,asIntOf,ht.underlying,hc.1,hc.2.1,ht2.sizeOf,Addr.add_mid,hc.2.2]
     ·cases h
    ·cases h
   ·cases h
  ·rename_i m e c hk
   have hd:=ht.array hk
   subst hd
   split at h
   ·rename_i ie hie
    obtain⟨inf2,d2,ht2⟩:=hE.tok hie
    split at h
    ·rename_i hc
     split at h
     ·cases h
      obtain⟨h1,rfl⟩:=hx
      refine⟨_,?_,h1,rfl⟩
      simp[Instr.indexAt,asIntOf,ht.underlying,Instr.sureAddr,hc.1,hc.2.1,ht2.sizeOf,Addr.add_mid]
     ·cases h
      obtain⟨b,o,rfl,hr⟩:=hx
      refine⟨.pointer (some ⟨b,o+(_+n.toNat*ie.size),none⟩),?_,b,o,rfl,hr⟩
      simp[Instr.indexAt,asIntOf,ht.underlying,Instr.sureAddr,hc.1,hc.2.1,ht2.sizeOf,Addr.add_mid,Nat.add_assoc]
     ·cases h
    ·cases h
   ·cases h
  ·cases h
 ·cases h
theorem lenD_ok (hE:EnvTy P E){t:Nat}{x d:D}{vx:Value}(h:lenD E t x=some d)(hx:relD G s W x vx)(ts:Array TypeId)(ht0:ts[0]? = some t)(ty:TypeId) :
  ∃ v,(Builtin.len_ ts ty #[vx]).run P W=.ok v W∧relD G s W d v:=by
 unfold lenD at h
 split at h
 ·rename_i i hti
  obtain⟨inf,dd,ht⟩:=hE.tok hti
  split at h
  ·rename_i b hk
   obtain⟨tt,rfl,rfl⟩:=P'_str hx
   have hd:=ht.str hk
   subst hd;cases h
   refine⟨.int .i64 tt.size,by simp[Builtin.len_,ht0,ht.underlying,goInt],?_⟩
   rw[size_data];exact P'_mkInt _ _
  ·rename_i e n cs hk
   have hd:=ht.slice hk
   subst hd
   obtain⟨a,c,rfl,hc,hcs⟩:=slice_elems (s:=s) hx
   cases h
   exact⟨_,by simp[Builtin.len_,ht0,ht.underlying,goInt],P'_mkInt _ _⟩
  ·rename_i e hk
   have hd:=ht.slice hk
   subst hd
   obtain⟨a,rfl⟩:=hx
   cases h
   exact⟨_,by simp[Builtin.len_,ht0,ht.underlying,goInt],P'_mkInt _ _⟩
  ·rename_i e n cs id hk
   have hd:=ht.slice hk
   subst hd
   obtain⟨a,c,rfl,hc,hcs⟩:=slice_elems (G:=G) (s:=s) hx.1
   cases h
   exact⟨_,by simp[Builtin.len_,ht0,ht.underlying,goInt],P'_mkInt _ _⟩
  ·rename_i e r off n es hk
   have hd:=ht.slice hk
   subst hd
   obtain⟨h1,c,hc,rfl⟩:=hx
   cases h
   exact⟨_,by simp[Builtin.len_,ht0,ht.underlying,goInt],P'_mkInt _ _⟩
  ·rename_i e hk
   have hd:=ht.slice hk
   subst hd
   obtain⟨a,rfl⟩:=hx
   cases h
   exact⟨_,by simp[Builtin.len_,ht0,ht.underlying,goInt],P'_mkInt _ _⟩
  ·rename_i e q id off n es hk
   have hd:=ht.slice hk
   subst hd
   obtain⟨h1,b,c,rfl,hc,hg⟩:=hx
   cases h
   exact⟨_,by simp[Builtin.len_,ht0,ht.underlying,goInt],P'_mkInt _ _⟩
  ·rename_i n e hk
   have hd:=ht.array hk
   subst hd;cases h
   exact⟨_,by simp[Builtin.len_,ht0,ht.underlying,goInt],P'_mkInt _ _⟩
  ·cases h
 ·cases h
theorem foldMin_ok:∀ {r:List D}{k:IntKind}{a:Int}{d:D}{vs:List Value},relDL G s W r vs→foldO minD (P' (.int k a)) r=some d →
  ∃ v,(vs.foldlM Builtin.min2 (.int k a):Sem Value).run P W=.ok v W∧relD G s W d v
 |[],k,a,d,vs,hr,h=>by
  simp only[relDL] at hr;subst hr;simp only[foldO] at h;cases h
  exact⟨_,rfl,P'_mkInt _ _⟩
 |y::r,k,a,d,vs,hr,h=>by
  simp only[relDL] at hr
  obtain⟨v,t,rfl,hv,hr⟩:=hr
  simp only[foldO] at h
  split at h
  ·rename_i z hz
   unfold minD P' at hz
   split at hz
   ·rename_i k1 a1 k2 b h1
    cases h1;cases hz;obtain rfl:=P'_int hv
    obtain⟨u,hu,hru⟩:=foldMin_ok hr h
    exact⟨u,by simpa[List.foldlM,Builtin.min2] using hu,hru⟩
   ·cases hz
  ·cases h
theorem foldMax_ok:∀ {r:List D}{k:IntKind}{a:Int}{d:D}{vs:List Value},relDL G s W r vs→foldO maxD (P' (.int k a)) r=some d →
  ∃ v,(vs.foldlM Builtin.max2 (.int k a):Sem Value).run P W=.ok v W∧relD G s W d v
 |[],k,a,d,vs,hr,h=>by
  simp only[relDL] at hr;subst hr;simp only[foldO] at h;cases h
  exact⟨_,rfl,P'_mkInt _ _⟩
 |y::r,k,a,d,vs,hr,h=>by
  simp only[relDL] at hr
  obtain⟨v,t,rfl,hv,hr⟩:=hr
  simp only[foldO] at h
  split at h
  ·rename_i z hz
   unfold maxD P' at hz
   split at hz
   ·rename_i k1 a1 k2 b h1
    cases h1;cases hz;obtain rfl:=P'_int hv
    obtain⟨u,hu,hru⟩:=foldMax_ok hr h
    exact⟨u,by simpa[List.foldlM,Builtin.max2] using hu,hru⟩
   ·cases hz
  ·cases h
end
end Go.Proofs.YtedcnhbblgmdnaaGreat.Ab
