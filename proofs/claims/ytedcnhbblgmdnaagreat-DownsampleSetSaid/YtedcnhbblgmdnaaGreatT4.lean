/- A part of the proof. -/
import Derived.Test.YtedcnhbblgmdnaaGreatT3
import Derived.Laws.BytesArg
import Derived.Lib.UnsafeStr
import Derived.Lib.Builder
import Derived.MapKept
import Derived.RangeFuncOwn
import Derived.OrdersIn
import Derived.RangeFuncCalls
import Derived.TacticsIn
set_option maxHeartbeats 8000000
set_option maxRecDepth 10000
set_option linter.unusedSimpArgs false
set_option linter.unusedVariables false
/- An evaluator of the model's code with slices as pure lists: conversions and freezing are the machine's. -/
namespace Go.Proofs.YtedcnhbblgmdnaaGreat.Ab
open Go.RowKit
section
variable {X:Ctx} {G G':Gh} {s s':St} {W W':World} {P:Program} {E:Env}
theorem purC_ok (hI:Inv X G s W){c:C}{x:Pd}{v:Value}(h:purC s c=some (x,s'))(hr:relC G s W c v) :
  ∃ G',Inv X G' s' W∧Ext G s W G' s' W∧relPd G'.imm W x v:=by
 have plain:∀ {x:Pd},purS c=some x→∃ G',Inv X G' s W∧Ext G s W G' s W∧relPd G'.imm W x v:=fun hp=>⟨G,hI,Ext.refl _ _ _,purS_rel hp hr⟩
 cases c with
 |mt r off n es =>
  simp only[purC] at h
  split at h
  ·rename_i cs frz ho
   split at h
   ·rename_i ps hps
    split at h
    ·rename_i hfit
     cases h
     obtain⟨hnf,c,hnc,rfl⟩:=hr
     obtain⟨h1,arr,t,h2,h3,h4,h5⟩:=hI.ob r _ ho
     have hal:arr.size=cs.length:=by have:=relCL_length h3;simpa using this
     have hpl:=allM_len hps
     let G':Gh:=G.addImm fun b o=>b=G.blk r∧o<arr.size
     have hoth:∀ j,j≠r→G'.blk j=G.blk j∧G'.cap j=G.cap j:=fun _ _=>⟨rfl,rfl⟩
     have himm:ImmLe G.imm W G'.imm W:=fun b o hi=>⟨.inl hi,rfl⟩
     have hext:Ext G s W G' (s.put r (.cells (ps.map .p) true)) W:=Ext.upd himm hoth (.inr (.inl ⟨_,ho,rfl,rfl,rfl⟩))
     have hps':∀(j:Nat) y,ps[j]? = some y→∃ v,arr.toList[j]? = some v∧relPd G'.imm W y v:=fun j y hj=>by
      obtain⟨v,hv,hrv⟩:=purS_list hps h3 j y hj
      exact⟨v,hv,relPd_mono himm _ _ hrv⟩
     have hlt:G.blk r<W.heap.size:=(Array.getElem?_eq_some_iff.1 h2).1
     refine ⟨G', hI.upd (b0 := G.blk r) (hI.lt r _ ho) (fun _ => rfl) hoth (Below.refl _ _) (fun _ _ _ => rfl)
      (fun j oj hj hl hne e=>hne (hI.inj j r oj _ hj ho hl trivial e)) (fun b o h=>?_) hext ?_,hext,?_⟩
     ·rcases h with h|⟨rfl,_⟩
      ·exact .inl h
      ·exact .inr ⟨rfl,hlt,h1⟩
     ·exact⟨h1,arr,t,h2,relCL_p (by simp[hal,hpl]) hps',(fun e=>by cases e),fun _=>⟨fun o ho=>.inr ⟨rfl,ho⟩,ps,rfl⟩⟩
     ·refine⟨_,c,rfl,hnc,fun _=>⟨_,_,rfl,relCs_mk fun j y hj=>?_⟩⟩
      rw[List.getElem?_take] at hj
      split at hj
      ·rw[List.getElem?_drop] at hj
       obtain⟨v,hv,hrv⟩:=hps' _ y hj
       have hlt2:off+j<arr.size:=by
        have:=(List.getElem?_eq_some_iff.1 hj).1
        omega
       exact⟨v,by rw[cell_of_row W _ _ arr t _ h2];simpa using hv,.inr ⟨rfl,hlt2⟩,hrv⟩
      ·cases hj
    ·cases h
   ·cases h
  ·cases h
 |gs m id off n es =>
  simp only[purC] at h
  split at h
  ·rename_i es' m' cs frz ho
   split at h
   ·rename_i ps hps
    split at h
    ·rename_i hfit
     cases h
     obtain⟨rfl,rfl,hfit⟩:=hfit
     obtain⟨_,b,c,rfl,hnc,hg⟩:=hr
     obtain rfl:=((hg _ _ _ _ ho).2 rfl).1
     obtain⟨h1,arr,t,h2,h3,h4,h5,h6,h7⟩:=hI.ob id _ ho
     have hmul:m' * es'≤G.cap id*es':=Nat.mul_le_mul_right _ h4
     have hpl:=allM_len hps
     have htl:(arr.toList.take (m' * es')).length=m' * es':=by simp only[List.length_take,Array.length_toList];omega
     let G':Gh:=G.addImm fun b o=>b=G.blk id∧o<m' * es'
     have hoth:∀ j,j≠id→G'.blk j=G.blk j∧G'.cap j=G.cap j:=fun _ _=>⟨rfl,rfl⟩
     have himm:ImmLe G.imm W G'.imm W:=fun b o hi=>⟨.inl hi,rfl⟩
     have hext:Ext G s W G' (s.put id (.grow es' m' (ps.map .p) true)) W:=Ext.upd himm hoth (.inr (.inr (.inr ⟨_,_,_,_,_,_,_,ho,rfl,Nat.le_refl _,fun _=>⟨rfl,rfl⟩⟩)))
     have hps':∀(j:Nat) y,ps[j]? = some y→∃ v,(arr.toList.take (m' * es'))[j]? = some v∧relPd G'.imm W y v:=fun j y hj=>by
      obtain⟨v,hv,hrv⟩:=purS_list hps h6 j y hj
      exact⟨v,hv,relPd_mono himm _ _ hrv⟩
     have hlt:G.blk id<W.heap.size:=(Array.getElem?_eq_some_iff.1 h2).1
     refine ⟨G', hI.upd (b0 := G.blk id) (hI.lt id _ ho) (fun _ => rfl) hoth (Below.refl _ _) (fun _ _ _ => rfl)
      (fun j oj hj hl hne e=>hne (hI.inj j id oj _ hj ho hl trivial e)) (fun b o h=>?_) hext ?_,hext,?_⟩
     ·rcases h with h|⟨rfl,_⟩
      ·exact .inl h
      ·exact .inr ⟨rfl,hlt,h1⟩
     ·exact⟨h1,arr,t,h2,h3,h4,by rw[List.length_map,hpl,h5],relCL_p (by rw[htl,hpl,h5]) hps',(fun e=>by cases e),fun _=>⟨fun o ho=>.inr ⟨rfl,ho⟩,ps,rfl⟩⟩
     ·refine⟨_,c,rfl,hnc,fun _=>⟨_,_,rfl,relCs_mk fun j y hj=>?_⟩⟩
      rw[List.getElem?_take] at hj
      split at hj
      ·rw[List.getElem?_drop] at hj
       obtain⟨v,hv,hrv⟩:=hps' _ y hj
       have hlt2:off+j<m' * es':=by
        have:=(List.getElem?_eq_some_iff.1 hj).1
        omega
       rw[List.getElem?_take,if_pos hlt2] at hv
       exact⟨v,by rw[cell_of_row W _ _ arr t _ h2];simpa using hv,.inr ⟨rfl,hlt2⟩,hrv⟩
      ·cases hj
    ·cases h
   ·cases h
  ·cases h
 |_ =>
  simp only[purC] at h
  split at h
  ·rename_i hp;cases h;exact plain hp
  ·cases h
theorem purCs_ok:∀ {l:List C}{G:Gh}{s s':St}{ps:List Pd}{vs:List Value},Inv X G s W→purCs s l=some (ps,s')→relCL G s W l vs →
  ∃ G',Inv X G' s' W∧Ext G s W G' s' W∧vs.length=ps.length∧∀(j:Nat) y,ps[j]? = some y→∃ v,vs[j]? = some v∧relPd G'.imm W y v
 |[],G,s,s',ps,vs,hI,h,hr=>by
  simp only[purCs] at h;cases h;simp only[relCL] at hr;subst hr
  exact⟨G,hI,Ext.refl _ _ _,rfl,fun j y e=>by simp at e⟩
 |c::r,G,s,s',ps,vs,hI,h,hr=>by
  simp only[purCs] at h
  split at h
  ·cases h
  ·rename_i x s1 hc
   split at h
   ·cases h
   ·rename_i xs s2 hcs
    cases h;simp only[relCL] at hr
    obtain⟨v,t,rfl,h1,h2⟩:=hr
    obtain⟨G1,i1,e1,r1⟩:=purC_ok hI hc h1
    obtain⟨G2,i2,e2,hl,r2⟩:=purCs_ok i1 hcs (relCL_ext e1 _ _ h2)
    refine⟨G2,i2,e1.trans e2,by simp[hl],fun j y hj=>?_⟩
    cases j with
    |zero=>simp at hj;subst hj;exact⟨v,rfl,relPd_mono e2.imm _ _ r1⟩
    |succ j=>simp at hj;obtain⟨u,hu,hru⟩:=r2 j y hj;exact⟨u,by simpa using hu,hru⟩
def PureV:V→Prop
 |.c x=>∃ p,x=.p p
 |.agg xs=>∃ ps:List Pd,xs=ps.map .p
theorem relCL_pure {ps:List Pd}{G1 G2:Gh}{s1 s2:St}{W1 W2:World}(h:ImmLe G1.imm W1 G2.imm W2):∀ {vs:List Value},relCL G1 s1 W1 (ps.map .p) vs→relCL G2 s2 W2 (ps.map .p) vs:=by
 induction ps with
 |nil=>intro vs hr;exact hr
 |cons p r ih =>
  intro vs hr;simp only[List.map_cons,relCL] at hr ⊢
  obtain⟨v,t,rfl,h1,h2⟩:=hr
  exact⟨v,t,rfl,relPd_mono h _ _ h1,ih h2⟩
theorem relV_pure {v:V}{G1 G2:Gh}{s1 s2:St}{W1 W2:World}(hp:PureV v)(h:ImmLe G1.imm W1 G2.imm W2){u:Value}(hr:relV G1 s1 W1 v u):relV G2 s2 W2 v u:=by
 cases v with
 |c x=>obtain⟨p,rfl⟩:=hp;exact relPd_mono h _ _ hr
 |agg xs=>obtain⟨ps,rfl⟩:=hp;obtain⟨a,rfl,h1⟩:=hr;exact⟨a,rfl,relCL_pure h h1⟩
theorem purV_ok {G:Gh}{s s':St}{v v':V}{u:Value}(hI:Inv X G s W)(h:purV s v=some (v',s'))(hr:relV G s W v u) :
  ∃ G',Inv X G' s' W∧Ext G s W G' s' W∧relV G' s' W v' u∧PureV v':=by
 cases v with
 |c x =>
  simp only[purV] at h
  split at h
  ·cases h
  ·rename_i y s1 hc
   cases h
   obtain⟨G1,i1,e1,r1⟩:=purC_ok hI hc hr
   exact⟨G1,i1,e1,r1,_,rfl⟩
 |agg xs =>
  simp only[purV] at h
  split at h
  ·cases h
  ·rename_i ys s1 hc
   cases h
   obtain⟨a,rfl,h1⟩:=hr
   obtain⟨G1,i1,e1,hl,r1⟩:=purCs_ok hI hc h1
   exact⟨G1,i1,e1,⟨a,rfl,relCL_p hl r1⟩,_,rfl⟩
theorem purVs_ok:∀ {l l':List V}{G:Gh}{s s':St}{us:List Value},Inv X G s W→purVs s l=some (l',s')→relVL G s W l us →
  ∃ G',Inv X G' s' W∧Ext G s W G' s' W∧relVL G' s' W l' us∧∀ v∈l',PureV v
 |[],l',G,s,s',us,hI,h,hr=>by
  simp only[purVs] at h;cases h
  exact⟨G,hI,Ext.refl _ _ _,hr,fun v hv=>by cases hv⟩
 |v::r,l',G,s,s',us,hI,h,hr=>by
  simp only[purVs] at h
  split at h
  ·cases h
  ·rename_i x s1 hc
   split at h
   ·cases h
   ·rename_i xs s2 hcs
    cases h
    obtain⟨u,t,rfl,h1,h2⟩:=hr
    obtain⟨G1,i1,e1,r1,p1⟩:=purV_ok hI hc h1
    obtain⟨G2,i2,e2,r2,p2⟩:=purVs_ok i1 hcs (relVL_ext e1 h2)
    refine⟨G2,i2,e1.trans e2,⟨u,t,rfl,relV_ext e2 r1,r2⟩,fun v hv=>?_⟩
    rcases List.mem_cons.1 hv with rfl|hv
    ·exact p1
    ·exact p2 v hv
def PureD:D→Prop
 |.v x=>PureV x
 |.tup xs=>∀ v∈xs,PureV v
 |.junk=>False
theorem relVL_pure:∀ {l:List V}{G1 G2:Gh}{s1 s2:St}{W1 W2:World},(∀ v∈l,PureV v)→ImmLe G1.imm W1 G2.imm W2→∀ {us:List Value},relVL G1 s1 W1 l us→relVL G2 s2 W2 l us
 |[],_,_,_,_,_,_,_,_,us,hr=>hr
 |v::r,G1,G2,s1,s2,W1,W2,hp,h,us,hr=>by
  obtain⟨u,t,rfl,h1,h2⟩:=hr
  exact⟨u,t,rfl,relV_pure (hp v (List.mem_cons_self ..)) h h1,relVL_pure (fun v hv=>hp v (List.mem_cons_of_mem _ hv)) h h2⟩
theorem relD_pure {d:D}{G1 G2:Gh}{s1 s2:St}{W1 W2:World}(hp:PureD d)(h:ImmLe G1.imm W1 G2.imm W2){u:Value}(hr:relD G1 s1 W1 d u):relD G2 s2 W2 d u:=by
 cases d with
 |v x=>exact relV_pure hp h hr
 |tup xs=>obtain⟨a,rfl,h1⟩:=hr;exact⟨a,rfl,relVL_pure hp h h1⟩
 |junk=>exact hp.elim
theorem purD_ok {G:Gh}{s s':St}{d d':D}{u:Value}(hI:Inv X G s W)(h:purD s d=some (d',s'))(hr:relD G s W d u) :
  ∃ G',Inv X G' s' W∧Ext G s W G' s' W∧relD G' s' W d' u∧PureD d':=by
 cases d with
 |v x =>
  simp only[purD] at h
  split at h
  ·cases h
  ·rename_i y s1 hc;cases h;exact purV_ok hI hc hr
 |tup xs =>
  simp only[purD] at h
  split at h
  ·cases h
  ·rename_i ys s1 hc
   cases h
   obtain⟨a,rfl,h1⟩:=hr
   obtain⟨G1,i1,e1,r1,p1⟩:=purVs_ok hI hc h1
   exact⟨G1,i1,e1,⟨a,rfl,r1⟩,p1⟩
 |junk=>simp[purD] at h
/-! ### conversions -/
theorem bytes_ns:∀(l:List Value)(t:List UInt8),l.length=t.length→(∀(j:Nat) b,t[j]? = some b→∃ n,l[j]? = some (.int .u8 n)∧b=UInt8.ofNat n.toNat) →
  ∃ ns:List Int,l=ns.map (Value.int .u8)∧t=ns.map fun n=>UInt8.ofNat n.toNat
 |[],t,hl,_=>⟨[],rfl,List.length_eq_zero_iff.1 (by simpa using hl.symm)⟩
 |v::r,[],hl,_=>by simp at hl
 |v::r,b::t,hl,h=>by
  obtain⟨n,hn,rfl⟩:=h 0 b rfl
  simp at hn;subst hn
  obtain ⟨ns, rfl, rfl⟩ := bytes_ns r t (by simpa using hl) (fun j b hj => by
   obtain⟨m,hm,e⟩:=h (j+1) b (by simpa using hj)
   exact⟨m,by simpa using hm,e⟩)
  exact⟨n::ns,rfl,rfl⟩
theorem freeze_new (w:World)(arr:Array Value)(e:TypeId)(n:Nat):(w.alloc (.cells arr e)).freeze { block:=w.heap.size,off:=n } 1=w.alloc (.cells arr e (n,n+1)):=by
 simp only[World.freeze,Nat.one_ne_zero,if_false,World.alloc]
 congr 1
 apply Array.ext_getElem?;intro j
 rw[Array.getElem?_modify]
 by_cases hj:w.heap.size=j
 ·subst hj;simp
 ·rw[if_neg hj]
  simp only[Array.getElem?_push]
  rw[if_neg (fun e=>hj e.symm),if_neg (fun e=>hj e.symm)]
theorem freeze_row {w:World}{g n:Nat}{arr:Array Value}{t:TypeId}(h:w.heap[g]? = some (.cells arr t (0,0))) :
  (w.freeze { block:=g,off:=n } 1).heap[g]? = some (.cells arr t (n,n+1))∧∀ b,b≠g→(w.freeze { block:=g,off:=n } 1).heap[b]? = w.heap[b]?:=by
 unfold World.freeze
 rw[if_neg (by decide)]
 simp only[Array.getElem?_modify]
 refine⟨?_,fun b hb=>if_neg fun e=>hb e.symm⟩
 rw[if_pos trivial,h]
 rfl
theorem stringish_ok (hI:Inv X G s W){id es n:Nat}(hid:s.get id=some (.front es n 999983)) :
  ∃ arr:Array Value,∃ t,W.heap[G.blk id]? = some (.cells arr t (0,0))∧Inv X G (s.put id (.front es n 0)) (W.freeze { block:=G.blk id,off:=arr.size } 1) ∧
   Ext G s W G (s.put id (.front es n 0)) (W.freeze { block:=G.blk id,off:=arr.size } 1)∧∀ b o,(W.freeze { block:=G.blk id,off:=arr.size } 1).cell? ⟨b,o,none⟩=W.cell? ⟨b,o,none⟩:=by
 obtain⟨hB,arr,t,fz,hg,hsz,hn,him,hfz,htg⟩:=hI.ob id _ hid
 have hf0:fz=(0,0):=by
  rcases htg with h|⟨h,_⟩|⟨_,h⟩
  ·cases h
  ·exact absurd rfl h
  ·exact h
 subst hf0
 obtain⟨hnew,hoth⟩:=freeze_row (n:=arr.size) hg
 have hcell:∀ b o,(W.freeze { block:=G.blk id,off:=arr.size } 1).cell? ⟨b,o,none⟩=W.cell? ⟨b,o,none⟩:=fun b o=>by
  by_cases hb:b=G.blk id
  ·subst hb
   rw[Lib.cell_of_heap hnew,Lib.cell_of_heap hg]
  ·exact World.cell?_of_block (w:=W) (hoth b hb)
 have hbel:Below X.B W (W.freeze { block:=G.blk id,off:=arr.size } 1):=Lib.below_freeze (Below.refl X.B W) (p:={ block:=G.blk id,off:=arr.size }) hB 1
 have hext:Ext G s W G (s.put id (.front es n 0)) (W.freeze { block:=G.blk id,off:=arr.size } 1) :=
  Ext.upd (fun b o hi=>⟨hi,hcell b o⟩) (fun _ _=>⟨rfl,rfl⟩) (.inr (.inr (.inl ⟨es,n,n,999983,0,hid,rfl,Nat.le_refl _,fun _=>⟨rfl,rfl⟩⟩)))
 refine ⟨arr, t, hg, hI.upd (b0 := G.blk id) (hI.lt id _ hid) (fun _ => rfl) (fun _ _ => ⟨rfl, rfl⟩) hbel (fun b hb _ => hoth b hb)
  (fun j oj hj hl hne e=>hne (hI.inj j id oj _ hj hid hl trivial e)) (fun b o h=>.inl h) hext ?_,hext,hcell⟩
 exact⟨hB,arr,t,(arr.size,arr.size+1),hnew,hsz,hn,him,.inr (Nat.le_refl _),.inl rfl⟩
theorem convD_ok (hE:EnvTy P E)(hI:Inv X G s W){k a b:Nat}(hk:k<s.nx)(hn:s.get k=none){x d:D}{vx:Value}(h:convD E k a b x s=some (d,s'))(hx:relD G s W x vx) :
  Made X G s W ((convert a b vx).run P W) d s':=by
 unfold convD at h
 split at h
 ·rename_i ia ib hia hib
  obtain⟨infa,da,hta⟩:=hE.tok hia
  obtain⟨infb,db,htb⟩:=hE.tok hib
  split at h
  ·rename_i k1 n hkb
   obtain rfl:=P'_int hx
   have hd:=htb.intT hkb
   subst hd;cases h
   refine⟨_,W,G,?_,hI,Ext.refl _ _ _,P'_mkInt _ _⟩
   simp[convert,hta.underlying,htb.underlying,Conv.intToInt]
  ·rename_i t hka hkb
   obtain⟨tt,rfl,rfl⟩:=P'_str hx
   have hda:=hta.str hka
   have hdb:=htb.str hkb
   subst hda hdb;cases h
   refine⟨_,W,G,?_,hI,Ext.refl _ _ _,P'_mkStr _⟩
   simp[convert,hta.underlying,htb.underlying]
  ·rename_i e hka hkb
   have hda:=hta.slice hka
   have hdb:=htb.str hkb
   subst hda hdb
   split at h
   ·rename_i sz ag by_ z eq hie
    obtain⟨inf2,d2,ht2⟩:=hE.tok hie
    have hd2:=ht2.intT rfl
    subst hd2
    split at h
    ·rename_i n cs hl
     split at h
     ·rename_i t ht
      split at h
      ·rename_i hlen
       cases h
       have hcl:cs.length=n*1:=by rw[← allM_len ht];omega
       obtain⟨a',c',rfl,hnc,ws,hw,hws,hrel⟩:=listOf_ok (P:=P) hI hl hx hcl
       have hbytes:∀(j:Nat) b,t[j]? = some b→∃ m,ws.toList[j]? = some (.int .u8 m)∧b=UInt8.ofNat m.toNat:=fun j b hj=>by
        obtain⟨y,hy,hb⟩:=allM_get ht j b hj
        obtain⟨u,hu,hr⟩:=hrel j y hy
        unfold byteOfPd at hb
        split at hb
        ·cases hb;simp only[relPd] at hr;subst hr
         exact⟨_,by simpa using hu,rfl⟩
        ·cases hb
       obtain⟨ns,hns,rfl⟩:=bytes_ns ws.toList t (by simp;omega) hbytes
       have hws':ws=(ns.map (Value.int .u8)).toArray:=by rw[← hns]
       refine⟨.string (strOfNums ns),W,G,?_,hI,Ext.refl _ _ _,P'_mk ⟨_,rfl,strOfNums_data ns⟩⟩
       rw[run_convert_bytes_string W a b e a' n c' hta.und ht2.und htb.und]
       cases a' with
       |none =>
        simp only[Builtin.firstCells,Sem.run_pure,Result.ok.injEq] at hw
        have h0:ns=[]:=by
         have:=hw.1
         rw[hws'] at this
         simpa using this.symm
        subst h0
        rfl
       |some a' =>
        simp only[Builtin.firstCells,Nat.mul_one] at hw
        rw[hws'] at hw
        rw[run_bytesToString W a' n c' ns hw,foldl_push_bytes]
        simp[strOfNums]
      ·cases h
     ·cases h
    ·cases h
   ·cases h
  ·rename_i e t hka hkb
   obtain⟨tt,rfl,rfl⟩:=P'_str hx
   have hda:=hta.str hka
   have hdb:=htb.slice hkb
   subst hda hdb
   split at h
   ·rename_i ag by_ z eq hie
    obtain⟨inf2,d2,ht2⟩:=hE.tok hie
    have hd2:=ht2.intT rfl
    subst hd2;cases h
    obtain⟨cp,hcp⟩:∃ cp,(Question.appendCap tt.size 0 e).cut (W.tape W.drawn (.appendCap tt.size 0 e))=cp:=⟨_,rfl⟩
    have hle:tt.size≤cp:=by rw[← hcp];simp[Question.cut]
    obtain⟨arr,harr⟩:∃ arr,(tt.data.map fun b=>Value.int .u8 b.toNat)++Array.replicate (cp-tt.size) (Value.int .u8 0)=arr:=⟨_,rfl⟩
    have hds:tt.data.size=tt.size:=rfl
    have hasz:arr.size=cp:=by rw[← harr];simp[hds];omega
    obtain⟨G',g1,g2,g3,g4,g5⟩:=new_front hI.drew hk (es:=1) (n:=tt.size) (tg:=0) (.inl hn) (ys:=tt.data.toList.map pdOfByte) (arr:=arr) e (fz:=(cp,cp+1)) (cap:=cp)
     (by omega) hle (by simp [hds]) (.inr (by omega)) (.inl rfl) (fun j y hj => by
      rw[List.getElem?_map] at hj
      cases hq:tt.data.toList[j]? with
      |none=>rw[hq] at hj;cases hj
      |some c =>
       rw[hq] at hj;cases hj
       have hlt:j<tt.data.size:=by have:=(List.getElem?_eq_some_iff.1 hq).1;simpa using this
       have hq':tt.data[j]? = some c:=by simpa using hq
       refine⟨.int .u8 c.toNat,?_,rfl⟩
       rw[← harr,Array.getElem?_append_left (by simpa using hlt)]
       simp[hq'])
    have hlen:tt.data.toList.length=tt.size:=(size_data tt).symm
    rw[hlen]
    refine⟨.slice (some ⟨W.heap.size,0,none⟩) tt.size cp,_,G',?_,g1,(Ext.drew G s W).trans g2,?_⟩
    ·have hdr:({ W with drawn:=W.drawn+1 }:World)=W.drew:=rfl
     have hsh:(W.drew.alloc (.cells arr e)).shape? W.heap.size=some (e,cp):=by
      have h1:(W.drew.alloc (.cells arr e)).heap[W.heap.size]? = some (.cells arr e):=heap_alloc_new W.drew _
      unfold World.shape?
      rw[h1,← hasz]
     have hfz:(W.drew.alloc (.cells arr e)).freeze { block:=W.heap.size,off:=cp } 1=W.drew.alloc (.cells arr e (cp,cp+1)):=freeze_new W.drew arr e cp
     have hal:({ W.drew with heap:=W.drew.heap.push (.cells arr e) }:World)=W.drew.alloc (.cells arr e):=rfl
     have hsz:W.drew.heap.size=W.heap.size:=rfl
     simp only [convert, Sem.run_bind, hta.underlying, htb.underlying, ht2.underlying, Result.andThen_ok, Conv.stringToBytes, run_choose, Question.forced, Bool.false_eq_true, if_false, hcp, hdr, harr, newRow, run_newObj,
      Sem.run_pure,markStringish,run_shape]
     have hw2:({ heap:=W.heap.push (.cells arr e),tape:=W.tape,drawn:=W.drawn+1,os:=W.os,output:=W.output }:World)=W.drew.alloc (.cells arr e):=rfl
     rw[hw2,hsh]
     simp only[run_freeze,hfz,Result.andThen_ok]
    ·have e3:G'.blk k=W.heap.size:=g3
     rw[← e3]
     exact own_rel' (St.get_put_same _ _ _) hle g4 (by rw[e3];exact g5)
   ·cases h
  ·rename_i e0 e n cs id hka hkb
   have hda:=hta.slice hka
   have hdb:=htb.slice hkb
   subst hda hdb
   split at h
   ·rename_i sz ag by_ z eq hie
    obtain⟨inf2,d2,ht2⟩:=hE.tok hie
    have hd2:=ht2.intT rfl
    subst hd2
    split at h
    ·rename_i es m tg hid
     split at h
     ·rename_i hc
      obtain⟨rfl,rfl,rfl,h0⟩:=hc
      have he0:=hta.und.symm.trans htb.und
      cases he0;cases h
      obtain⟨hr1,hr2,hr3⟩:=hx
      obtain rfl:=(hr3 _ _ _ hid).2 rfl
      obtain⟨arr,t,hg,i1,e1,hcell⟩:=stringish_ok (es:=es) (n:=m) hI hid
      have hsh:W.shape? (G.blk id)=some (t,arr.size):=by
       unfold World.shape?
       rw[hg]
      refine⟨.slice (some ⟨G.blk id,0,none⟩) m (G.cap id),_,G,?_,i1,e1,?_,⟨_,St.get_put_same _ _ _⟩,fun es' m' tg' e2=>?_⟩
      ·simp only[convert,Sem.run_bind,hta.underlying,ht2.underlying,Result.andThen_ok,beq_self_eq_true,markStringish,run_shape,hsh,run_freeze,Sem.run_pure]
      ·exact relPd_mono e1.imm _ _ hr1
      ·rw[St.get_put_same] at e2
       cases e2
       exact⟨Nat.le_refl _,fun _=>rfl⟩
     ·cases h
    ·cases h
   ·cases h
  ·cases h
 ·cases h
end
end Go.Proofs.YtedcnhbblgmdnaaGreat.Ab
/- An evaluator of the model's code with slices as pure lists: maps with strings as keys. -/
namespace Go.Proofs.YtedcnhbblgmdnaaGreat.Ab
open Go.RowKit
section
variable {X:Ctx} {G G':Gh} {s s':St} {W W':World} {P:Program} {E:Env}
theorem below_putObj {B:Nat}{w:World}{g:Nat}(h:B≤g)(o:Obj):Below B w (w.putObj g o) :=
 ⟨rfl,rfl,rfl,by simp[World.putObj],fun k hk=>World.putObj_heap_other (by omega)⟩
theorem cell_putObj {w:World}{g:Nat}{o o':Obj}(h:w.heap[g]? = some o)(h1:o.isCells=false)(h2:o'.isCells=false)(a:Addr):(w.putObj g o').cell? a=w.cell? a:=by
 by_cases e:a.block=g
 ·have hlt:g<w.heap.size:=(Array.getElem?_eq_some_iff.1 h).1
  simp only[World.cell?,e,World.putObj_heap_same hlt,h];cases o<;>cases o'<;>simp_all[Obj.isCells]
 ·simp only[World.cell?,World.putObj_heap_other e]
theorem put_other (hI:Inv X G s W){k:Nat}{ob0 ob:Ob}(hk:s.get k=some ob0)(hl0:ob0.live)(hf0:ob0.isMv=false)(hf:ob.isMv=false){o o':Obj}(hW:W.heap[G.blk k]? = some o)(hB:X.B≤G.blk k)
  (h1:o.isCells=false) (h2:o'.isCells=false) (hrel:Ext G s W G (s.put k ob) (W.putObj (G.blk k) o')→relOb X G (s.put k ob) (W.putObj (G.blk k) o') k ob) :
  Inv X G (s.put k ob) (W.putObj (G.blk k) o')∧Ext G s W G (s.put k ob) (W.putObj (G.blk k) o'):=by
 have hoth:∀ j,j≠k→G.blk j=G.blk j∧G.cap j=G.cap j:=fun _ _=>⟨rfl,rfl⟩
 have hext:Ext G s W G (s.put k ob) (W.putObj (G.blk k) o') :=
  Ext.upd (fun b o hi=>⟨hi,cell_putObj hW h1 h2 _⟩) hoth (.inr (.inl ⟨ob0,hk,hf0,hf,rfl⟩))
 exact ⟨hI.upd (b0 := G.blk k) (hI.lt k _ hk) (fun _ => rfl) hoth (below_putObj hB _) (fun b hb _ => World.putObj_heap_other hb)
  (fun j oj hj hl hne e=>hne (hI.inj j k oj _ hj hk hl hl0 e)) (fun b o h=>.inl h) hext (hrel hext),hext⟩
theorem new_map (hI:Inv X G s W){k:Nat}(hk:k<s.nx)(hn:s.get k=none) :
  Inv X (G.set k W.heap.size 0) (s.put k (.mapo [] [])) (W.alloc (.map #[] 0))∧Ext G s W (G.set k W.heap.size 0) (s.put k (.mapo [] [])) (W.alloc (.map #[] 0)):=by
 have hoth:=Gh.set_oth G k W.heap.size 0
 have hext:Ext G s W (G.set k W.heap.size 0) (s.put k (.mapo [] [])) (W.alloc (.map #[] 0)) :=
  Ext.upd (fun b o hi=>⟨hi,cell_alloc_old W _ o (hI.immlt b o hi)⟩) (fun j h=>hoth j h) (.inl hn)
 refine ⟨hI.upd (b0 := W.heap.size) hk (fun _ => (Gh.set_same G k _ 0).1) (fun j h => hoth j h) ((Below.refl _ W).alloc hI.bsz _) (fun b hb hlt => Below.heap_alloc W _ b hlt)
  (fun j oj hj hl _=>Nat.ne_of_lt (hI.blk_lt hj hl)) (fun b o h=>.inl h) hext ?_,hext⟩
 exact⟨by rw[(Gh.set_same G k _ 0).1];exact hI.bsz,#[],0,by rw[(Gh.set_same G k _ 0).1];exact heap_alloc_new W _,rfl,rfl⟩
theorem mapTy_ok (hE:EnvTy P E){t:Nat}{z:C}(h:mapTy E t=some z):∃ k e j v,P.underlying t=some (.map k e)∧P.underlying k=some .string∧P.info? e=some j∧j.zero=some v∧toC v=some z:=by
 unfold mapTy at h
 split at h
 ·rename_i size agg by_ z0 k e z1 eq hti
  obtain⟨inf,d,ht⟩:=hE.tok hti
  obtain⟨hd,j,v,h1,h2,h3⟩:=ht.map rfl
  subst hd
  split at h
  ·rename_i hk
   cases h
   obtain⟨inf2,d2,ht2⟩:=hE.tok hk
   have hd2:=ht2.str rfl
   subst hd2
   exact⟨k,e,j,v,ht.und,ht2.und,h1,h2,h3⟩
  ·cases h
 ·cases h
theorem makeMapD_ok (hE:EnvTy P E)(hI:Inv X G s W){k t:Nat}(hk:k<s.nx)(hn:s.get k=none){d:D}(h:makeMapD E k t s=some (d,s')) :
  Made X G s W ((Instr.makeMap t none).run P W) d s':=by
 unfold makeMapD at h
 split at h
 ·cases h
  obtain⟨g1,g2⟩:=new_map hI hk hn
  refine⟨.map (some W.heap.size),W.alloc (.map #[] 0),_,?_,g1,g2,⟨_,St.get_put_same _ _ _,rfl⟩,by rw[(Gh.set_same G k _ 0).1]⟩
  simp only[Instr.makeMap,Sem.run_bind,run_newObj,Result.andThen_ok,Sem.run_pure]
  rfl
 ·cases h
theorem findNow_idx (b:List UInt8):∀(l:List MapEntry) (ks:List (List UInt8)) (i:Nat),l.map (·.key)=ks.map (fun b=>Value.string ⟨b.toArray⟩) →
  Instr.findNow .string (.string ⟨b.toArray⟩) l i = some (match idxM b ks with
   |some j=>(l[j]?).map fun e=>(i+j,e.val)
   |none=>none)
 |[],ks,i,h=>by
  have:ks=[]:=by simpa using h.symm
  subst this;rfl
 |e::l,ks,i,h=>by
  cases ks with
  |nil=>simp at h
  |cons k ks =>
   simp only[List.map_cons,List.cons.injEq] at h
   obtain⟨h1,h2⟩:=h
   have ih:=findNow_idx b l ks (i+1) h2
   have hb:((⟨b.toArray⟩:ByteArray) == ⟨k.toArray⟩)=(k==b):=by
    rw[Bool.eq_iff_iff,MapKept.bytes_beq,beq_iff_eq]
    constructor
    ·intro h;have:=congrArg (fun x:ByteArray=>x.data.toList) h;exact this.symm
    ·rintro rfl;rfl
   unfold Instr.findNow
   rw[h1]
   simp only[Instr.sameNow,hb,idxM,List.findIdx?_cons];cases hk:(k==b) with
   |true=>simp
   |false =>
    simp only[Bool.false_eq_true,if_false]
    rw[ih]
    unfold idxM;cases ks.findIdx? fun k=>k==b with
    |none=>rfl
    |some j =>
     simp only[Option.map_some,List.getElem?_cons_succ]
     congr 2
     funext e
     rw[show i+1+j=i+(j+1) by omega]
def foundM (b:List UInt8)(ks:List (List UInt8))(l:List MapEntry):Option (Nat×Value) :=
 match idxM b ks with
 |some j=>(l[j]?).map fun(e:MapEntry)=>(j,e.val)
 |none=>none
theorem findNow_found {b:List UInt8}{l:List MapEntry}{ks:List (List UInt8)}(h:l.map (·.key)=ks.map (fun b=>Value.string ⟨b.toArray⟩)):Instr.findNow .string (.string ⟨b.toArray⟩) l 0=some (foundM b ks l):=by
 rw[findNow_idx b l ks 0 h]
 unfold foundM;cases idxM b ks with
 |none=>rfl
 |some j=>simp only[Nat.zero_add]
theorem idxM_lt {b:List UInt8}{ks:List (List UInt8)}{i:Nat}(h:idxM b ks=some i):i<ks.length∧ks[i]? = some b:=by
 unfold idxM at h
 rw[List.findIdx?_eq_some_iff_getElem] at h
 obtain⟨h1,h2,_⟩:=h
 exact⟨h1,by rw[List.getElem?_eq_getElem h1];exact congrArg some (by simpa using h2)⟩
theorem strq {b:List UInt8}{v:Value}(h:relD G s W (.v (.c (.p (.str b)))) v):v=.string ⟨b.toArray⟩:=by
 obtain⟨t,rfl,ht⟩:=h
 obtain⟨⟨l⟩⟩:=t
 simp only at ht
 rw[ht]
theorem lookupD_ok (hE:EnvTy P E)(hI:Inv X G s W){t:Nat}{m k d:D}{ok:Bool}{vm vk:Value}(h:lookupD E t m k ok s=some (d,s'))(hm:relD G s W m vm)(hk:relD G s W k vk) :
  ∃ v,(Instr.lookup t vm vk ok).run P W=.ok v W∧relD G s W d v∧s'=s:=by
 unfold lookupD at h
 split at h
 ·rename_i z id b hz
  split at h
  ·rename_i ks cs hid
   cases h
   obtain⟨kt,e,j,zv,u1,u2,u3,u4,u5⟩:=mapTy_ok hE hz
   obtain rfl:=strq hk
   obtain⟨_,rfl⟩:=hm
   obtain⟨hB,es,cl,hW,hks,hcs⟩:=hI.ob id _ hid
   have hzr:relC G s W z zv:=toC_rel u5
   have hzv:(zeroValue e).run P W=.ok zv W:=by simp[Go.zeroValue,Go.typeInfo,u3,u4]
   have hf:=findNow_found (b:=b) hks
   have hlen:es.toList.length=ks.length:=by have:=congrArg List.length hks;simpa using this
   have hkey:MapKept.IsKey .string (.string ⟨b.toArray⟩):=trivial
   have hres : ∃ v, (match foundM b ks es.toList with
     |some (_,v)=>v
     |none=>zv)=v∧relC G s W ((getM b ks cs).getD z) v∧(foundM b ks es.toList).isSome=(getM b ks cs).isSome:=by
    unfold getM foundM;cases hi:idxM b ks with
    |none=>exact⟨zv,rfl,hzr,rfl⟩
    |some i =>
     obtain⟨i1,_⟩:=idxM_lt hi
     have hl2:i<es.toList.length:=by omega
     have hl3:(es.toList.map (·.val)).length=cs.length:=relCL_length hcs
     have hl4:i<cs.length:=by rw[← hl3,List.length_map];exact hl2
     obtain⟨v,hv,hr⟩:=relCL_get hcs i cs[i] (List.getElem?_eq_getElem hl4)
     rw[List.getElem?_map,List.getElem?_eq_getElem hl2,Option.map_some] at hv
     cases hv
     refine⟨es.toList[i].val,?_,?_,?_⟩
     ·simp only[List.getElem?_eq_getElem hl2,Option.map_some]
     ·simp only[List.getElem?_eq_getElem hl4];exact hr
     ·simp only[List.getElem?_eq_getElem hl2,List.getElem?_eq_getElem hl4,Option.map_some,Option.isSome_some]
   obtain⟨v,hv1,hv2,hv3⟩:=hres
   generalize foundM b ks es.toList=F at hf hv1 hv3
   refine⟨if ok then .tuple #[v,.bool F.isSome] else v,?_,?_,rfl⟩
   ·simp only[Instr.lookup,Sem.run_bind,run_underlying u1,Result.andThen_ok,MapKept.run_getObj_map hW,Sem.run_pure,MapKept.run_checkKey (e:=es.isEmpty) (n:=9999) u2 hkey,MapKept.run_findKey u2 hf];cases F with
    |none =>
     simp only at hv1;subst hv1;simp only[Sem.run_bind,hzv,Result.andThen_ok,Sem.run_pure]
     rfl
    |some q =>
     obtain⟨q1,q2⟩:=q
     simp only at hv1;subst hv1;simp only[Sem.run_bind,Result.andThen_ok,Sem.run_pure]
     rfl
   ·cases ok with
    |true=>exact⟨_,rfl,_,_,rfl,hv2,_,_,rfl,by rw[hv3];rfl,rfl⟩
    |false=>exact hv2
  ·cases h
 ·cases h
theorem modify_vals {es:Array MapEntry}{cs:List C}{x:C}{v:Value}{i:Nat}{f:MapEntry→MapEntry}(hf:∀ e,(f e).val=v)(h:relCL G s W cs (es.toList.map (·.val)))(hx:relC G s W x v):relCL G s W (cs.set i x) ((es.modify i f).toList.map (·.val)):=by
 have hl:=relCL_length h
 refine relCL_mk (by simp at hl ⊢;exact hl) fun j c u e1 e2=>?_;simp only[List.getElem?_map,Array.getElem?_toList,Array.getElem?_modify] at e2
 rw[List.getElem?_set] at e1
 by_cases hij:i=j
 ·subst hij;simp only[if_true] at e1 e2
  split at e1
  ·cases e1;cases he:es[i]? with
   |none=>rw[he] at e2;simp at e2
   |some e=>rw[he] at e2;simp at e2;rw[← e2,hf];exact hx
  ·cases e1
 ·rw[if_neg hij] at e1
  simp only[if_neg hij] at e2
  obtain⟨u',hu,hr⟩:=relCL_get h j c e1
  rw[List.getElem?_map,Array.getElem?_toList,e2] at hu
  cases hu;exact hr
theorem mapUpdD_ok (hE:EnvTy P E)(hI:Inv X G s W){t:Nat}{m k x d:D}{vm vk vx:Value}(h:mapUpdD E t m k x s=some (d,s'))(hm:relD G s W m vm)(hk:relD G s W k vk)(hx:relD G s W x vx) :
  ∃ W',(Instr.mapUpdate t vm vk vx).run P W=.ok () W'∧Inv X G s' W'∧Ext G s W G s' W'∧d=.tup []:=by
 unfold mapUpdD at h
 split at h
 ·rename_i z id b c hz
  split at h
  ·rename_i ks cs hid
   cases h
   obtain⟨kt,e,j,zv,u1,u2,u3,u4,u5⟩:=mapTy_ok hE hz
   obtain rfl:=strq hk
   obtain⟨_,rfl⟩:=hm
   obtain⟨hB,es,cl,hW,hks,hcs⟩:=hI.ob id _ hid
   have hx':relC G s W c vx:=hx
   have hf:=findNow_found (b:=b) hks
   unfold foundM at hf
   have hlen:es.toList.length=ks.length:=by have:=congrArg List.length hks;simpa using this
   have hkey:MapKept.IsKey .string (.string ⟨b.toArray⟩):=trivial
   cases hi:idxM b ks with
   |none =>
    rw[hi] at hf
    obtain ⟨i1, e1⟩ := put_other hI (ob := updM b c ks cs) (o' := .map (es.push { key := .string ⟨b.toArray⟩, val := vx, born := cl }) (cl + 1)) hid trivial rfl (by unfold updM; rw [hi]; rfl) hW hB rfl rfl (fun hext => by
     unfold updM at hext ⊢
     rw[hi] at hext ⊢
     refine⟨hB,_,_,World.putObj_heap_same (Array.getElem?_eq_some_iff.1 hW).1,by simp[hks],?_⟩
     rw[Array.toList_push,List.map_append]
     exact relCL_append (relCL_ext hext cs _ hcs) ⟨vx,[],rfl,relC_ext hext c vx hx',rfl⟩)
    refine⟨_,?_,i1,e1,rfl⟩
    simp only[Instr.mapUpdate,Sem.run_bind,run_underlying u1,Result.andThen_ok,MapKept.run_getObj_map hW,MapKept.run_checkKey (e:=false) (n:=9999) u2 hkey,MapKept.run_findKey u2 hf,MapKept.run_setObj_map _ hW]
    rfl
   |some i =>
    rw[hi] at hf
    obtain⟨i0,i1⟩:=idxM_lt hi
    have hl2:i<es.toList.length:=by omega
    simp only[List.getElem?_eq_getElem hl2,Option.map_some] at hf
    have hke:es.toList[i].key=.string ⟨b.toArray⟩:=by
     have:=congrArg (fun l=>l[i]?) hks
     simp only[List.getElem?_map,List.getElem?_eq_getElem hl2,i1,Option.map_some,Option.some.injEq] at this;exact this
    have hei:es[i]? = some es.toList[i]:=by rw[← Array.getElem?_toList,List.getElem?_eq_getElem hl2]
    obtain ⟨g1, e1⟩ := put_other hI (ob := updM b c ks cs) (o' := .map (es.modify i fun e => { e with key := .string ⟨b.toArray⟩, val := vx }) cl) hid trivial rfl (by unfold updM; rw [hi]; rfl) hW hB rfl rfl (fun hext => by
     unfold updM at hext ⊢
     rw[hi] at hext ⊢
     refine⟨hB,_,_,World.putObj_heap_same (Array.getElem?_eq_some_iff.1 hW).1,?_,?_⟩
     ·rw[MapKept.modify_keys _ _ (fun e he=>by rw[hei] at he;cases he;exact hke.symm)]
      exact hks
     ·exact modify_vals (fun _=>rfl) (relCL_ext hext cs _ hcs) (relC_ext hext c vx hx'))
    refine⟨_,?_,g1,e1,rfl⟩
    simp only [Instr.mapUpdate, Sem.run_bind, run_underlying u1, Result.andThen_ok, MapKept.run_getObj_map hW, MapKept.run_checkKey (e := false) (n := 9999) u2 hkey, MapKept.run_findKey u2 hf, hei, Option.map_some, Option.getD_some, hke,
     MapKept.run_keyThatStays hkey,MapKept.run_setObj_map _ hW]
    rfl
  ·cases h
 ·cases h
end
end Go.Proofs.YtedcnhbblgmdnaaGreat.Ab
/- An evaluator of the model's code with slices as pure lists: each operation, and regions without an open order, are the machine's. -/
namespace Go.Proofs.YtedcnhbblgmdnaaGreat.Ab
open Go.RowKit
def FW (r:Option Nat):Fence:={ Fence.wide with round:=r }
theorem FW_none:FW none=Fence.wide:=rfl
theorem FW_in (r:Option Nat)(l:Nat):(FW r).inRound l=FW (some l):=rfl
theorem callsIn_FW {r r':Option Nat}{n n':Nat}{P:Program}{f:FuncId}{args:Array Value}{w:World}{R:Ending→World→Prop}(h:CallsIn (FW r) n P f args w R):CallsIn (FW r') n' P f args w R :=
 ⟨trivial,fun cs _=>h.2 cs (room_wide _)⟩
theorem roundIn_FW {r r':Option Nat}{n n' l:Nat}{P:Program}{f:FuncId}{tmps:Array Value}{a b:Code}{w:World}{R:Ending→World→Prop}(h:RoundIn (FW r) n P l f tmps a b w R):RoundIn (FW r') n' P l f tmps a b w R :=
 ⟨trivial,fun c cs _=>h.2 c cs (room_wide _)⟩
def PostT (X:Ctx)(G:Gh)(s:St)(W:World)(d:D)(s':St)(e:Ending)(W':World):Prop :=
 ∃ v G',e=.returned v∧Inv X G' s' W'∧Ext G s W G' s' W'∧relD G' s' W' d v
def Fresh (s s':St):Prop:=∀ k,k<s.nx→s.get k=none→s'.get k=none
structure CallsOK (P:Program) (E:Env) (T:CallT):Prop where
 fresh:∀ t args s d s',T t args s=some (d,s')→Fresh s s'
 calls:∀ g args s d s' X G W vargs (_:Inv X G s W) (_:relVL G s W args vargs.toList),(T (.f g) args s=some (d,s')∨T (.o g) args s=some (d,s')) →
  (∀ W,(callFunc g vargs).run P W=.ok (.enter g vargs) W)∧CallsIn (FW none) 0 P g vargs W (PostT X G s W d s')
 yields:∀ l args s d s' X G W vargs (_:Inv X G s W) (_:relVL G s W args vargs.toList),T (.y l) args s=some (d,s') →
  ∃ f tmps assign body,(Instr.yield (G.blk l) vargs).run P W=.ok (.round (G.blk l) f tmps assign body) W∧RoundIn (FW none) 0 P (G.blk l) f tmps assign body W (PostT X G s W d s')
section
variable {X:Ctx} {G G':Gh} {s s':St} {W W':World} {P:Program} {E:Env} {T:CallT}
theorem fresh_put {k0:Nat}{o:Ob}(h:(s.get k0).isSome=true):Fresh s (s.put k0 o):=fun k hk hn=>by
 rw[St.get_put]
 split
 ·rename_i e;subst e;rw[hn] at h;cases h
 ·exact hn
theorem Fresh.refl (s:St):Fresh s s:=fun _ _ h=>h
def FreshBut (key:Nat)(s s':St):Prop:=s'.nx=s.nx∧∀ k,k<s.nx→k≠key→s.get k=none→s'.get k=none
theorem freshBut_put {key k0 : Nat} {o : Ob} (h : k0 = key ∨ (s.get k0).isSome = true) : FreshBut key s (s.put k0 o) := ⟨rfl, fun k hk hne hn => by
 rw[St.get_put]
 split
 ·rename_i e
  subst e;rcases h with h|h
  ·exact absurd h hne
  ·rw[hn] at h;cases h
 ·exact hn⟩
theorem keep_eq {d:Option D}{d':D}(h:keep s d=some (d',s')):d=some d'∧s'=s:=by
 cases d with
 |none=>cases h
 |some x=>cases h;exact⟨rfl,rfl⟩
theorem upon_value {F:Fence}{o:Oper}{a:Act}{next:Act→World→Prop}{Q:Exit→Act→World→Prop}(hF:∀ f,F.fn f)(hd:∀ c,o.op≠.defer c){v:Value}
  (h:(execOp a.eval o).run P W=.ok (.value v) W') (hk:next (a.put o.dst v) W'):o.wpIn F 0 P a W next Q:=by
 refine⟨fun f _=>hF f,?_⟩
 rw[Oper.semAt_eq _ _ _ hd,h]
 exact hk
theorem upon_skip {F:Fence}{o:Oper}{a:Act}{next:Act→World→Prop}{Q:Exit→Act→World→Prop}(hF:∀ f,F.fn f)(hd:∀ c,o.op≠.defer c)
  (h:(execOp a.eval o).run P W=.ok .skip W') (hk:next (a.put o.dst undef) W'):o.wpIn F 0 P a W next Q:=by
 refine⟨fun f _=>hF f,?_⟩
 rw[Oper.semAt_eq _ _ _ hd,h]
 exact hk
theorem upon_enter {r:Option Nat}{o:Oper}{a:Act}{next:Act→World→Prop}{Q:Exit→Act→World→Prop}(hd:∀ c,o.op≠.defer c){f:FuncId}{args:Array Value}
  (h:(execOp a.eval o).run P W=.ok (.enter f args) W) {R:Ending→World→Prop} (hc:CallsIn (FW none) 0 P f args W R) (hR:∀ e W',R e W'→∃ v,e=.returned v∧next (a.put o.dst v) W'):o.wpIn (FW r) 0 P a W next Q:=by
 refine⟨fun f _=>trivial,?_⟩
 rw[Oper.semAt_eq _ _ _ hd,h]
 refine⟨fun hh=>by simp[FW,Fence.wide] at hh,(callsIn_FW hc).mono fun e W' hr=>?_⟩
 obtain⟨v,rfl,hn⟩:=hR e W' hr
 exact hn
theorem upon_round {r:Option Nat}{o:Oper}{a:Act}{next:Act→World→Prop}{Q:Exit→Act→World→Prop}(hd:∀ c,o.op≠.defer c){l f:Nat}{tmps:Array Value}{as bo:Code}
  (h:(execOp a.eval o).run P W=.ok (.round l f tmps as bo) W) {R:Ending→World→Prop} (hc:RoundIn (FW none) 0 P l f tmps as bo W R) (hR:∀ e W',R e W'→∃ v,e=.returned v∧next (a.put o.dst v) W'):o.wpIn (FW r) 0 P a W next Q:=by
 refine⟨fun f _=>trivial,?_⟩
 rw[Oper.semAt_eq _ _ _ hd,h]
 refine⟨fun hh=>by simp[FW,Fence.wide] at hh,(roundIn_FW hc).mono fun e W' hr=>?_⟩
 obtain⟨v,rfl,hn⟩:=hR e W' hr
 exact hn
theorem vs_rel:∀ {ds:List D}{vs:List V}{us:List Value},vs? ds=some vs→relDL G s W ds us→relVL G s W vs us
 |[],vs,us,h,hr=>by simp only[vs?] at h;cases h;exact hr
 |d::r,vs,us,h,hr=>by
  simp only[vs?] at h
  split at h
  ·rename_i c cs hc hcs
   cases h
   obtain⟨v,t,rfl,h1,h2⟩:=hr
   exact⟨v,t,rfl,vq hc h1,vs_rel hcs h2⟩
  ·cases h
theorem cs_rel:∀ {ds:List D}{cs:List C}{us:List Value},cs? ds=some cs→relDL G s W ds us→relCL G s W cs us
 |[],vs,us,h,hr=>by simp only[cs?] at h;cases h;exact hr
 |d::r,vs,us,h,hr=>by
  simp only[cs?] at h
  split at h
  ·rename_i c cs hc hcs
   cases h
   obtain⟨v,t,rfl,h1,h2⟩:=hr
   exact⟨v,t,rfl,cq hc h1,cs_rel hcs h2⟩
  ·cases h
theorem opds_rel {e:List D}{a:Act}(h:relDL G s W e a.tmps.toList):∀ l:List Operand,relDL G s W (l.map (opd e)) (l.map a.eval)
 |[]=>rfl
 |x::r=>⟨_,_,rfl,opd_rel h x,opds_rel h r⟩
theorem pairs_rel {e:List D}{a:Act}(h:relDL G s W e a.tmps.toList)(l:List (Nat×Operand)) :
  (l.map fun(i,x)=>(i,opd e x)).map (·.1)=(l.map fun(i,x)=>(i,a.eval x)).map (·.1) ∧
   relDL G s W ((l.map fun(i,x)=>(i,opd e x)).map (·.2)) ((l.map fun(i,x)=>(i,a.eval x)).map (·.2)):=by
 induction l with
 |nil=>exact⟨rfl,rfl⟩
 |cons p r ih =>
  obtain⟨i,x⟩:=p
  refine⟨by simp,?_⟩
  exact⟨_,_,rfl,opd_rel h x,ih.2⟩
theorem map1 {f:Operand→D}{args:Array Operand}{x:D}(hx:args.toList.map f=[x]):∃ y,args = #[y]∧f y=x:=by
 have:args.toList.length=1:=by have:=congrArg List.length hx;simpa using this
 obtain⟨y,hy⟩:=List.length_eq_one_iff.1 this
 rw[hy] at hx
 refine⟨y,by apply Array.ext';simpa using hy,by simpa using hx⟩
theorem map2 {f:Operand→D}{args:Array Operand}{x y:D}(hx:args.toList.map f=[x,y]):∃ u v,args = #[u,v]∧f u=x∧f v=y:=by
 have hl:args.toList.length=2:=by have:=congrArg List.length hx;simpa using this
 obtain⟨u,v,hy⟩:∃ u v,args.toList=[u,v]:=by
  cases hq:args.toList with
  |nil=>rw[hq] at hl;simp at hl
  |cons u t=>cases t with
   |nil=>rw[hq] at hl;simp at hl
   |cons v t=>cases t with
    |nil=>exact⟨u,v,rfl⟩
    |cons _ _=>rw[hq] at hl;simp at hl
 rw[hy] at hx
 simp at hx
 exact⟨u,v,by apply Array.ext';simpa using hy,hx.1,hx.2⟩
theorem mapC {f:Operand→D}{args:Array Operand}{x:D}{r:List D}(hx:args.toList.map f=x::r):∃ u us,args.toList=u::us∧f u=x∧us.map f=r:=by
 cases hq:args.toList with
 |nil=>rw[hq] at hx;cases hx
 |cons u us=>rw[hq] at hx;simp at hx;exact⟨u,us,rfl,hx.1,hx.2⟩
theorem op_ok {r:Option Nat}(hE:EnvTy P E)(hT:CallsOK P E T)(hI:Inv X G s W){e:List D}{a:Act}(he:relDL G s W e a.tmps.toList){key:Nat}(hk:key<s.nx)(hn:s.get key=none)
  {o:Oper} {d:D} (h:evalOp E T key o.op (opd e) s=some (d,s')) {next:Act→World→Prop} {Q:Exit→Act→World→Prop}
  (hnext:∀ v W' G',Inv X G' s' W'→Ext G s W G' s' W'→relD G' s' W' d v→next (a.put o.dst v) W'):o.wpIn (FW r) 0 P a W next Q:=by
 have hF:∀ f,(FW r).fn f:=fun _=>trivial
 obtain⟨dst,op,type,pos,after,guard⟩:=o
 simp only at h hnext
 have val:∀ {v:Value} {W':World} {G':Gh},(∀ c,op≠.defer c)→(execOp a.eval ⟨dst,op,type,pos,after,guard⟩).run P W=.ok (.value v) W'→Inv X G' s' W'→Ext G s W G' s' W'→relD G' s' W' d v →
   (⟨dst,op,type,pos,after,guard⟩:Oper).wpIn (FW r) 0 P a W next Q:=fun hd hrun h1 h2 h3=>upon_value hF hd hrun (hnext _ _ _ h1 h2 h3)
 have pur:∀ {v:Value},s'=s→(∀ c,op≠.defer c)→(execOp a.eval ⟨dst,op,type,pos,after,guard⟩).run P W=.ok (.value v) W→relD G s W d v →
   (⟨dst,op,type,pos,after,guard⟩:Oper).wpIn (FW r) 0 P a W next Q:=fun hs hd hrun h3=>by
  subst hs;exact val hd hrun hI (Ext.refl _ _ _) h3
 cases op<;>simp only[evalOp] at h
 case move x=>cases h;exact pur rfl (by simp) (by simp[execOp]) (opd_rel he x)
 case assign x=>cases h;exact pur rfl (by simp) (by simp[execOp]) (opd_rel he x)
 case pick c x y =>
  split at h
  ·rename_i b hb
   cases h
   have hc:=boolq hb (opd_rel he c)
   refine pur (v:=if b then a.eval x else a.eval y) rfl (by simp) (by simp[execOp,hc,asBool]) ?_;cases b
   ·exact opd_rel he y
   ·exact opd_rel he x
  ·cases h
 case alloc t =>
  split at h
  ·rename_i size agg by_ z kn eq hti
   cases h
   obtain⟨v,W1,G1,h1,h2,h3,h4⟩:=allocD_ok hE hI hk hn hti rfl
   exact val (by simp) (by simp[execOp,h1]) h2 h3 h4
  ·cases h
 case box t x =>
  split at h
  ·rename_i v hv
   cases h
   obtain⟨u,W1,G1,h1,h2,h3,h4⟩:=boxD_ok (P:=P) (t:=t) hI hk hn (vq hv (opd_rel he x))
   exact val (by simp) (by simp[execOp,h1]) h2 h3 h4
  ·cases h
 case build t ps =>
  obtain⟨h,hs⟩:=keep_eq h
  obtain⟨p1,p2⟩:=pairs_rel he ps.toList
  obtain⟨v,h1,h2⟩:=buildD_ok (P:=P) (vps:=ps.map fun(i,x)=>(i,a.eval x)) hE h (by simp) (by simpa using p2)
  exact pur hs (by simp) (by simp only[execOp,Sem.run_bind,h1];rfl) h2
 case buildSlice t n ps =>
  obtain⟨p1,p2⟩:=pairs_rel he ps.toList
  obtain⟨v,W1,G1,h1,h2,h3,h4⟩:=buildSliceD_ok (P:=P) (vps:=ps.map fun(i,x)=>(i,a.eval x)) hE hI hk hn h (by simp) (by simpa using p2)
  exact val (by simp) (by simp only[execOp,Sem.run_bind,h1];rfl) h2 h3 h4
 case load t x =>
  split at h
  ·rename_i i cs hti hcs
   split at h
   ·rename_i v hv
    cases h
    obtain⟨u,h1,h2⟩:=loadD_ok (P:=P) hE hI hti hcs hv (opd_rel he x)
    exact pur rfl (by simp) (by simp[execOp,h1]) h2
   ·cases h
  ·cases h
 case store t x y =>
  split at h
  ·rename_i k off v i hx hv hti
   split at h
   ·rename_i cs hget
    split at h
    ·rename_i hc
     cases h
     have hx':=opd_rel he x
     rw[hx] at hx'
     obtain⟨W1,h1,h2,h3⟩:=storeD_ok (P:=P) hE hI hti hget hc.1 hc.2 hx' (vq hv (opd_rel he y))
     exact upon_skip hF (by simp) (by simp[execOp,h1]) (hnext _ _ _ h2 h3 ⟨#[],rfl,rfl⟩)
    ·cases h
   ·rename_i u cs hget
    split at h
    ·rename_i hc
     cases h
     have hx':=opd_rel he x
     rw[hx] at hx'
     obtain⟨W1,h1,h2,h3⟩:=storeT_ok (P:=P) hE hI hti hget hc.1 hc.2 hx' (vq hv (opd_rel he y))
     exact upon_skip hF (by simp) (by simp[execOp,h1]) (hnext _ _ _ h2 h3 ⟨#[],rfl,rfl⟩)
    ·cases h
   ·cases h
  ·rename_i q k off v i hx hv hti
   split at h
   ·rename_i es q' cs hget
    split at h
    ·rename_i hc
     cases h
     obtain⟨rfl,hc1,hc2⟩:=hc
     have hx':=opd_rel he x
     rw[hx] at hx'
     obtain⟨W1,h1,h2,h3⟩:=storeG_ok (P:=P) hE hI hti hget hc1 hc2 hx' (vq hv (opd_rel he y))
     exact upon_skip hF (by simp) (by simp[execOp,h1]) (hnext _ _ _ h2 h3 ⟨#[],rfl,rfl⟩)
    ·cases h
   ·cases h
  ·cases h
 case nilCheck x =>
  split at h
  ·rename_i k off hx
   cases h
   have hx':=opd_rel he x
   have hx2:=hx'
   rw[hx] at hx2
   obtain⟨_,hv⟩:=hx2
   exact pur rfl (by simp) (by simp[execOp,hv];rfl) (by rw[hv] at hx';exact hx')
  ·rename_i cs off hx
   cases h
   have hx':=opd_rel he x
   have hx2:=hx'
   rw[hx] at hx2
   obtain⟨b,o,hv,_⟩:=hx2
   exact pur rfl (by simp) (by simp[execOp,hv];rfl) (by rw[hv] at hx';exact hx')
  ·rename_i q k off hx
   cases h
   have hx':=opd_rel he x
   have hx2:=hx'
   rw[hx] at hx2
   obtain⟨_,b,hv,_⟩:=hx2
   exact pur rfl (by simp) (by simp[execOp,hv];rfl) (by rw[hv] at hx';exact hx')
  ·cases h
 case binOp op t x y yt =>
  obtain⟨h,hs⟩:=keep_eq h
  obtain⟨v,h1,h2⟩:=binD_ok (P:=P) hE h (opd_rel he x) (opd_rel he y) x y
  exact pur hs (by simp) (by simp only[execOp,Sem.run_bind] at h1 ⊢;simp only[h1];rfl) h2
 case unOp op t x =>
  obtain⟨h,hs⟩:=keep_eq h
  obtain⟨v,h1,h2⟩:=unD_ok (P:=P) (W:=W) h (opd_rel he x)
  exact pur hs (by simp) (by simp[execOp,h1]) h2
 case convert t u x =>
  obtain⟨v,W1,G1,h1,h2,h3,h4⟩:=convD_ok (P:=P) hE hI hk hn h (opd_rel he x)
  exact val (by simp) (by simp[execOp,h1]) h2 h3 h4
 case makeFunc f fs cap =>
  split at h
  ·rename_i cfs ccap h1 h2
   have r1:=cs_rel h1 (opds_rel he fs.toList)
   have r2:=cs_rel h2 (opds_rel he cap.toList)
   split at h
   ·cases h;simp only[relCL] at r1 r2
    have e1:fs.map a.eval = #[]:=by apply Array.ext';simpa using r1
    have e2:cap.map a.eval = #[]:=by apply Array.ext';simpa using r2
    exact pur rfl (by simp) (by simp[execOp,Instr.makeFunc,e1,e2]) (P'_mk rfl)
   ·cases h;refine pur rfl (by simp) (by simp[execOp,Instr.makeFunc];rfl) ?_
    exact⟨_,_,_,rfl,rfl,by simpa using r1,by simpa using r2⟩
   ·cases h
  ·cases h
 case makeSlice t l c =>
  obtain⟨v,W1,G1,h1,h2,h3,h4⟩:=makeSliceD_ok (P:=P) hE hI hk hn h (opd_rel he l) (opd_rel he c)
  exact val (by simp) (by simp[execOp,h1]) h2 h3 h4
 case slice t x lo hi mx =>
  obtain⟨h,hs⟩:=keep_eq h
  obtain⟨v,h1,h2⟩:=sliceD_ok (P:=P) hE h (opd_rel he x) (relO_map he lo) (relO_map he hi) (relO_map he mx)
  exact pur hs (by simp) (by simp[execOp,h1]) h2
 case fieldAddr t x f =>
  obtain⟨h,hs⟩:=keep_eq h
  obtain⟨v,h1,h2⟩:=fieldAddrD_ok (P:=P) hE h (opd_rel he x)
  exact pur hs (by simp) (by simp[execOp,h1]) h2
 case field t x f =>
  obtain⟨h,hs⟩:=keep_eq h
  obtain⟨v,h1,h2⟩:=fieldD_ok (P:=P) hE h (opd_rel he x)
  exact pur hs (by simp) (by simp[execOp,h1]) h2
 case indexAddr t x i =>
  obtain⟨h,hs⟩:=keep_eq h
  obtain⟨v,h1,h2⟩:=indexAddrD_ok (P:=P) hE h (opd_rel he x) (opd_rel he i)
  exact pur hs (by simp) (by simp[execOp,h1]) h2
 case index t x i =>
  obtain⟨h,hs⟩:=keep_eq h
  obtain⟨v,h1,h2⟩:=indexD_ok (P:=P) hE h (opd_rel he x) (opd_rel he i)
  exact pur hs (by simp) (by simp[execOp,h1]) h2
 case makeMap t hint =>
  cases hint with
  |some x=>simp at h
  |none =>
   simp only at h
   obtain⟨v,W1,G1,h1,h2,h3,h4⟩:=makeMapD_ok (P:=P) hE hI hk hn h
   exact val (by simp) (by simp[execOp,h1]) h2 h3 h4
 case mapUpdate t m k x =>
  obtain⟨W1,h1,h2,h3,rfl⟩:=mapUpdD_ok (P:=P) hE hI h (opd_rel he m) (opd_rel he k) (opd_rel he x)
  exact upon_skip hF (by simp) (by simp[execOp,h1]) (hnext _ _ _ h2 h3 ⟨#[],rfl,rfl⟩)
 case lookup t m k ok =>
  obtain⟨v,h1,h2,hs⟩:=lookupD_ok (P:=P) hE hI h (opd_rel he m) (opd_rel he k)
  exact pur hs (by simp) (by simp[execOp,h1]) h2
 case extract x i =>
  split at h
  ·rename_i vs hx
   split at h
   ·rename_i v hv
    cases h
    have hx':=opd_rel he x
    rw[hx] at hx'
    obtain⟨arr,harr,hr⟩:=hx'
    obtain⟨u,hu,hru⟩:=relVL_get hr _ _ hv
    have hu':arr[i]? = some u:=by simpa using hu
    exact pur rfl (by simp) (by simp[execOp,harr,Instr.extract,hu']) hru
   ·cases h
  ·cases h
 case call c =>
  obtain⟨callee,args,argTypes⟩:=c
  cases callee with
  |invoke recv m=>simp at h
  |builtin b =>
   simp only at h
   have hargs:=opds_rel he args.toList
   unfold builtinD at h
   have hres:∀ m:Sem Value,(∀ consts,builtin b argTypes type consts (args.map a.eval)=(do pure (.value (← m)):Sem Next))→∀ {v:Value} {W':World},m.run P W=.ok v W' →
     (execOp a.eval ⟨dst,.call ⟨.builtin b,args,argTypes⟩,type,pos,after,guard⟩).run P W=.ok (.value v) W':=by
    intro m hm v W' hv
    have:∃ consts,(execOp a.eval ⟨dst,.call ⟨.builtin b,args,argTypes⟩,type,pos,after,guard⟩).run P W=(builtin b argTypes type consts (args.map a.eval)).run P W :=
     ⟨_,by simp only[execOp,resolve,Sem.run_bind,Sem.run_pure,Result.andThen_ok,invoke];rfl⟩
    obtain⟨consts,this⟩:=this
    rw[this,hm,Sem.run_bind,hv]
    rfl
   split at h
   ·rename_i x hx
    obtain⟨y,rfl,rfl⟩:=map1 hx
    split at h
    ·rename_i t r0 hts
     split at h
     ·rename_i dd hd
      cases h
      obtain⟨v,h1,h2⟩:=lenD_ok (P:=P) hE hd (opd_rel he y) argTypes (by rw[← Array.getElem?_toList,hts];rfl) type
      exact pur rfl (by simp) (hres (Builtin.len_ argTypes type #[a.eval y]) (fun c=>by simp[builtin]) h1) h2
     ·cases h
    ·cases h
   ·rename_i x y hx
    obtain⟨u,v,rfl,rfl,rfl⟩:=map2 hx
    obtain⟨v',W1,G1,h1,h2,h3,h4⟩:=appendD_ok (P:=P) hE hI hk hn h (opd_rel he u) (opd_rel he v) type
    exact val (by simp) (hres (Builtin.append_ argTypes type #[a.eval u,a.eval v]) (fun c=>by simp[builtin]) h1) h2 h3 h4
   ·rename_i k n r0 hx
    obtain⟨u,us,hus,hu,hr⟩:=mapC hx
    split at h
    ·rename_i dd hd
     cases h
     have hargs':=opds_rel he us
     rw[hr] at hargs'
     have hu':=opd_rel he u
     rw[hu] at hu'
     have hu2:=P'_int hu'
     obtain⟨v,h1,h2⟩:=foldMin_ok (P:=P) hargs' hd
     refine pur rfl (by simp) (hres (Builtin.min_ argTypes type (args.map a.eval)) (fun c=>rfl) ?_) h2;unfold Builtin.min_
     rw[show(args.map a.eval).toList=a.eval u::us.map a.eval by simp[hus],hu2]
     exact h1
    ·cases h
   ·rename_i k n r0 hx
    obtain⟨u,us,hus,hu,hr⟩:=mapC hx
    split at h
    ·rename_i dd hd
     cases h
     have hargs':=opds_rel he us
     rw[hr] at hargs'
     have hu':=opd_rel he u
     rw[hu] at hu'
     have hu2:=P'_int hu'
     obtain⟨v,h1,h2⟩:=foldMax_ok (P:=P) hargs' hd
     refine pur rfl (by simp) (hres (Builtin.max_ argTypes type (args.map a.eval)) (fun c=>rfl) ?_) h2;unfold Builtin.max_
     rw[show(args.map a.eval).toList=a.eval u::us.map a.eval by simp[hus],hu2]
     exact h1
    ·cases h
   ·rename_i x hx
    obtain⟨y,rfl,rfl⟩:=map1 hx
    obtain⟨W',h1,h2,h3,rfl⟩:=clearD_ok (P:=P) hE hI h (opd_rel he y) type
    exact val (by simp) (hres (Builtin.clear_ argTypes type #[a.eval y]) (fun c=>by simp[builtin]) h1) h2 h3 ⟨#[],rfl,rfl⟩
   ·cases h
  |value f =>
   simp only at h
   have hargs:=opds_rel he args.toList
   have hf:=opd_rel he f
   unfold callD at h
   split at h
   ·rename_i g as hfe has
    rw[hfe] at hf
    have hfv:a.eval f=.func (.func g) #[] #[]:=by simpa[relD,relV,relC,relPd] using hf
    have hrel:relVL G s W as (args.map a.eval).toList:=by simpa using vs_rel has hargs
    obtain⟨h1,h2⟩:=hT.calls g as s d s' X G W (args.map a.eval) hI hrel (.inl h)
    refine upon_enter (by simp) (f:=g) (args:=args.map a.eval) ?_ h2 (fun e W' ⟨v,G',hv,i1,i2,i3⟩=>⟨v,hv,hnext v W' G' i1 i2 i3⟩)
    simp[execOp,resolve,hfv,Deferred.ofValue,invoke,h1]
   ·rename_i g fs cap as hfe has
    rw[hfe] at hf
    obtain⟨f',vf,vc,hfv,hfn,hfs,hcap⟩:=hf
    simp only[relFn] at hfn;subst hfn
    have hrel:relVL G s W (fs.map .c++as++cap.map .c) (vf++args.map a.eval++vc).toList:=by
     simp only[Array.toList_append];exact relVL_append (relVL_append (relCL_VL hfs) (by simpa using vs_rel has hargs)) (relCL_VL hcap)
    obtain⟨h1,h2⟩:=hT.calls g _ s d s' X G W _ hI hrel (.inr h)
    refine upon_enter (by simp) (f:=g) (args:=vf++args.map a.eval++vc) ?_ h2 (fun e W' ⟨v,G',hv,i1,i2,i3⟩=>⟨v,hv,hnext v W' G' i1 i2 i3⟩);simp only[execOp,resolve,hfv,Deferred.ofValue,invoke,Sem.run_bind,Sem.run_pure,Result.andThen_ok,h1]
   ·rename_i l fs cap as hfe has
    split at h
    ·rw[hfe] at hf
     obtain⟨f',vf,vc,hfv,hfn,hfs,hcap⟩:=hf
     simp only[relFn] at hfn
     obtain⟨hnf,rfl⟩:=hfn
     simp only[relCL] at hfs hcap
     have e1:vf = #[]:=by apply Array.ext';simpa using hfs
     subst e1
     have hrel:relVL G s W as (args.map a.eval).toList:=by simpa using vs_rel has hargs
     obtain⟨f2,tmps,asg,bdy,h1,h2⟩:=hT.yields l as s d s' X G W (args.map a.eval) hI hrel h
     refine upon_round (by simp) ?_ h2 (fun e W' ⟨v,G',hv,i1,i2,i3⟩=>⟨v,hv,hnext v W' G' i1 i2 i3⟩);simp only[execOp,resolve,hfv,Deferred.ofValue,invoke,Sem.run_bind,Sem.run_pure,Result.andThen_ok,Array.empty_append,h1]
    ·cases h
   ·cases h
 all_goals cases h
end
end Go.Proofs.YtedcnhbblgmdnaaGreat.Ab
