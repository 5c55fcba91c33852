/- A part of the proof. -/
import Derived.Test.YtedcnhbblgmdnaaGreatT2
import Derived.Laws.Append
set_option maxHeartbeats 8000000
set_option maxRecDepth 10000
set_option linter.unusedSimpArgs false
set_option linter.unusedVariables false
/- An evaluator of the model's code with slices as pure lists: making, appending, converting, freezing are the machine's. -/
namespace Go.Proofs.YtedcnhbblgmdnaaGreat.Ab
open Go.RowKit
section
variable {X:Ctx} {G G':Gh} {s s':St} {W W':World} {P:Program} {E:Env}
def Made (X:Ctx)(G:Gh)(s:St)(W:World)(m:Result Value)(d:D)(s':St):Prop :=
 ∃ v W' G',m=.ok v W'∧Inv X G' s' W'∧Ext G s W G' s' W'∧relD G' s' W' d v
theorem allocD_ok (hE:EnvTy P E)(hI:Inv X G s W){k t:Nat}(hk:k<s.nx)(hn:s.get k=none){i:TI}{z:List C}(hti:E.ti t=some i)(hz:i.zero=some z) :
  Made X G s W ((Instr.alloc t true (.tuple #[])).run P W) (.v (.c (.ref k 0))) (s.put k (if E.bt t then .tc t z else .cells z false)):=by
 obtain⟨inf,dd,ht⟩:=hE.tok hti
 obtain⟨zv,h1,h2⟩:=ht.zeroValue (W:=W) hz
 split
 ·obtain⟨g1,g2⟩:=new_tc hI hk hn (cs:=z) (arr:=zv.cells) t (allM_toC h2)
  refine⟨.pointer (some ⟨W.heap.size,0,none⟩),_,_,?_,g1,g2,⟨⟨_,St.get_put_same _ _ _,rfl⟩,by rw[(Gh.set_same G k _ 0).1]⟩⟩
  simp only[Instr.alloc,Sem.run_bind,h1,Result.andThen_ok,newVar,newRow,run_newObj,Sem.run_pure]
  rfl
 obtain⟨g1,g2⟩:=new_cells hI hk hn (cs:=z) (arr:=zv.cells) t (allM_toC h2)
 refine⟨.pointer (some ⟨W.heap.size,0,none⟩),_,_,?_,g1,g2,⟨⟨_,St.get_put_same _ _ _,rfl⟩,by rw[(Gh.set_same G k _ 0).1]⟩⟩
 simp only[Instr.alloc,Sem.run_bind,h1,Result.andThen_ok,newVar,newRow,run_newObj,Sem.run_pure]
 rfl
theorem boxD_ok (hI:Inv X G s W){k t:Nat}(hk:k<s.nx)(hn:s.get k=none){v:V}{vx:Value}(hx:relV G s W v vx) :
  Made X G s W ((Instr.box t vx).run P W) (.v (.c (.ref k 0))) (s.put k (.cells (cellsV v) false)):=by
 obtain⟨g1,g2⟩:=new_cells hI hk hn (cs:=cellsV v) (arr:=vx.cells) t (relV_cells hx)
 refine⟨.pointer (some ⟨W.heap.size,0,none⟩),_,_,?_,g1,g2,⟨⟨_,St.get_put_same _ _ _,rfl⟩,by rw[(Gh.set_same G k _ 0).1]⟩⟩
 simp only[Instr.box,Sem.run_bind,newVar,newRow,run_newObj,Result.andThen_ok,Sem.run_pure]
 rfl
theorem storeD_ok (hE:EnvTy P E)(hI:Inv X G s W){k off t:Nat}{i:TI}{cs:List C}{v:V}{va vx:Value}(hti:E.ti t=some i)(hk:s.get k=some (.cells cs false))
  (hlen:(cellsV v).length=i.size) (hfit:off+i.size≤cs.length) (ha:relD G s W (.v (.c (.ref k off))) va) (hx:relV G s W v vx) :
  ∃ W',(Instr.storeAt t va vx).run P W=.ok () W'∧Inv X G (s.put k (.cells (setR cs off (cellsV v)) false)) W'∧Ext G s W G (s.put k (.cells (setR cs off (cellsV v)) false)) W':=by
 obtain⟨inf,dd,ht⟩:=hE.tok hti
 obtain⟨_,rfl⟩:=ha
 obtain⟨W',h1,h2,h3⟩:=store_cells (P:=P) hI hk (relV_cells hx) (off:=off) (by omega)
 refine⟨W',?_,h2,h3⟩
 have hsz:=relV_size hx
 simp[Instr.storeAt,Instr.sureAddr,storeVar,ht.sizeOf,hsz,hlen,h1]
theorem storeT_ok (hE:EnvTy P E)(hI:Inv X G s W){k off t u:Nat}{i:TI}{cs:List C}{v:V}{va vx:Value}(hti:E.ti t=some i)(hk:s.get k=some (.tc u cs))
  (hlen:(cellsV v).length=i.size) (hfit:off+i.size≤cs.length) (ha:relD G s W (.v (.c (.ref k off))) va) (hx:relV G s W v vx) :
  ∃ W',(Instr.storeAt t va vx).run P W=.ok () W'∧Inv X G (s.put k (.tc u (setR cs off (cellsV v)))) W'∧Ext G s W G (s.put k (.tc u (setR cs off (cellsV v)))) W':=by
 obtain⟨inf,dd,ht⟩:=hE.tok hti
 obtain⟨_,rfl⟩:=ha
 obtain⟨W',h1,h2,h3⟩:=store_tc (P:=P) hI hk (relV_cells hx) (off:=off) (by omega)
 refine⟨W',?_,h2,h3⟩
 have hsz:=relV_size hx
 simp[Instr.storeAt,Instr.sureAddr,storeVar,ht.sizeOf,hsz,hlen,h1]
theorem storeG_ok (hE:EnvTy P E)(hI:Inv X G s W){k off t m es:Nat}{i:TI}{cs:List C}{v:V}{va vx:Value}(hti:E.ti t=some i)(hk:s.get k=some (.grow es m cs false))
  (hlen:(cellsV v).length=i.size) (hfit:off+i.size≤cs.length) (ha:relD G s W (.v (.c (.gref m k off))) va) (hx:relV G s W v vx) :
  ∃ W',(Instr.storeAt t va vx).run P W=.ok () W'∧Inv X G (s.put k (.grow es m (setR cs off (cellsV v)) false)) W'∧Ext G s W G (s.put k (.grow es m (setR cs off (cellsV v)) false)) W':=by
 obtain⟨inf,dd,ht⟩:=hE.tok hti
 obtain⟨_,b,rfl,hg⟩:=ha
 obtain rfl:=(hg _ _ _ _ hk).2 rfl
 obtain⟨_,arr,t',_,h3,h4,h5,_⟩:=hI.ob k _ hk
 obtain⟨W',h1,h2,h3⟩:=grow_put (P:=P) hI hk (relV_cells hx) (n':=m) (off:=off) (cs':=setR cs off (cellsV v)) (Nat.le_refl _) h4 (by omega) (by omega) rfl (by simp only[setR,List.length_append,List.length_take,List.length_drop];omega)
 refine⟨W',?_,h2,h3⟩
 have hsz:=relV_size hx
 simp[Instr.storeAt,Instr.sureAddr,storeVar,ht.sizeOf,hsz,hlen,h1]
/-! ### pure data out of cells -/
theorem purS_rel {c:C}{x:Pd}{v:Value}(h:purS c=some x)(hr:relC G s W c v):relPd G.imm W x v:=by
 cases c<;>simp only[purS] at h
 case p=>cases h;exact hr
 case nils=>cases h;obtain rfl:=hr;exact⟨none,0,rfl,Nat.le_refl _,fun h=>absurd rfl h⟩
 case own=>cases h;exact hr.1
 case zc=>cases h;obtain⟨a,rfl⟩:=hr;exact⟨a,0,rfl,Nat.le_refl _,fun h=>absurd rfl h⟩
 all_goals cases h
theorem purS_list {cs:List C}{ps:List Pd}{vs:List Value}(h:allM purS cs=some ps)(hr:relCL G s W cs vs) :
  ∀(j:Nat) y,ps[j]? = some y→∃ v,vs[j]? = some v∧relPd G.imm W y v:=fun j y hj=>by
 obtain⟨c,hc,hp⟩:=allM_get h j y hj
 obtain⟨v,hv,hrc⟩:=relCL_get hr j c hc
 exact⟨v,hv,purS_rel hp hrc⟩
theorem relCL_p:∀ {ps:List Pd}{vs:List Value},vs.length=ps.length→(∀(j:Nat) y,ps[j]? = some y→∃ v,vs[j]? = some v∧relPd G.imm W y v)→relCL G s W (ps.map .p) vs:=fun {ps vs} hl h =>
 relCL_mk (by simp[hl]) fun i c v e1 e2=>by
  rw[List.getElem?_map] at e1
  cases hq:ps[i]? with
  |none=>rw[hq] at e1;cases e1
  |some y =>
   rw[hq] at e1;cases e1
   obtain⟨u,hu,hr⟩:=h i y hq
   rw[hu] at e2;cases e2;exact hr
theorem own_rel {k es n cap tg:Nat}{ys:List Pd}(hb:G'.blk k=W'.heap.size-1)(hget:s'.get k=some (.front es n tg))(hnc:n≤cap)(hc:G'.cap k=cap)
  (hr:relCs G'.imm W' (G'.blk k) 0 ys):relC G' s' W' (.own n ys k) (.slice (some ⟨G'.blk k,0,none⟩) n cap):=by
 refine⟨⟨_,cap,rfl,hnc,fun _=>⟨_,_,rfl,hr⟩⟩,⟨_,hget⟩,fun es' m tg' e=>?_⟩
 rw[hget] at e
 cases e
 exact⟨Nat.le_refl _,fun _=>by rw[hc]⟩
theorem repl_length (n:Nat)(z:List C):(repl n z).length=n*z.length:=by
 induction n with
 |zero=>simp[repl]
 |succ n ih=>simp[repl,ih,Nat.succ_mul,Nat.add_comm]
theorem repl_get (z:List C)(n i:Nat)(h:i<n*z.length):(repl n z)[i]? = z[i % z.length]?:=by
 induction n generalizing i with
 |zero=>simp at h
 |succ n ih =>
  simp only[repl]
  by_cases h1:i<z.length
  ·rw[List.getElem?_append_left h1,Nat.mod_eq_of_lt h1]
  ·rw[List.getElem?_append_right (by omega),ih (i-z.length) (by rw[Nat.succ_mul] at h;omega)]
   rw[Nat.mod_eq_sub_mod (by omega:i ≥ z.length)]
theorem repl_rel {n:Nat}{z:List C}{zv:Array Value}(h0:0<z.length)(hz:relCL G s W z zv.toList) :
  relCL G s W (repl n z) ((Array.range (n*z.length)).map (zv[· % zv.size]!)).toList:=by
 have hsz:zv.size=z.length:=by have:=relCL_length hz;simpa using this
 refine relCL_mk (by simp[repl_length]) fun i c v e1 e2=>?_
 have hi:i<n*z.length:=by
  have:=(List.getElem?_eq_some_iff.1 e1).1
  rwa [repl_length] at this
 rw[repl_get z n i hi] at e1
 obtain⟨u,hu,hr⟩:=relCL_get hz _ c e1
 simp[hi] at e2
 subst e2
 rw[hsz]
 have hlt:i % z.length<zv.size:=by rw[hsz];exact Nat.mod_lt _ h0
 rw[getElem!_pos zv _ hlt]
 have:zv[i % z.length]? = some u:=by simpa using hu
 rw[Array.getElem?_eq_getElem hlt] at this
 cases this;exact hr
theorem buildSliceD_ok (hE:EnvTy P E)(hI:Inv X G s W){k t n:Nat}(hk:k<s.nx)(hn:s.get k=none){ps:List (Nat×D)}{vps:Array (Nat×Value)}{d:D}
  (h:buildSliceD E k t n ps s=some (d,s')) (he:ps.map (·.1)=vps.toList.map (·.1)) (hv:relDL G s W (ps.map (·.2)) (vps.toList.map (·.2))) :
  Made X G s W ((Instr.buildSlice t n vps).run P W) d s':=by
 unfold buildSliceD at h
 split at h
 ·rename_i size agg by_ z0 e eq hti
  obtain⟨inf,dd,ht⟩:=hE.tok hti
  have hd:=ht.slice rfl
  subst hd
  split at h
  ·rename_i sz ag2 by2 z kn2 eq2 hie
   obtain⟨inf2,d2,ht2⟩:=hE.tok hie
   obtain⟨zv,hz1,hz2⟩:=ht2.zeroValue (W:=W) rfl
   split at h
   ·cases h
   ·rename_i hcond
    simp only[not_or,Nat.not_lt,ne_eq,Decidable.not_not] at hcond
    obtain⟨hc1,hc2,hc3⟩:=hcond
    split at h
    ·rename_i cs hcs
     have hzr:relCL G s W z zv.cells.toList:=allM_toC hz2
     have hrep:relCL G s W (repl n z) ((Array.range (n*sz)).map ((if n*sz=0 then (#[]:Array Value) else zv.cells)[· % (if n*sz=0 then (#[]:Array Value) else zv.cells).size]!)).toList:=by
      by_cases h0:n*sz=0
      ·have:n=0:=by rcases Nat.mul_eq_zero.1 h0 with h0 | h0<;>omega
       subst this
       simp[repl,relCL]
      ·rw[if_neg h0]
       have:=repl_rel (n:=n) (by omega) hzr
       rwa [hc3] at this
     obtain⟨arr',h1,h2⟩:=fill_ok (vps:=vps.toList) he hv hrep hcs
     have hlen:cs.length=n*sz:=by
      have e1:∀ {pl:Nat→Option (Nat×Nat)} {ps:List (Nat×D)} {cs out:List C},fillD pl cs ps=some out→out.length=cs.length:=by
       intro pl ps
       induction ps with
       |nil=>intro cs out h;simp only[fillD] at h;cases h;rfl
       |cons p r ih =>
        intro cs out h
        obtain⟨i,dd⟩:=p
        simp only[fillD] at h
        split at h
        ·split at h
         ·rename_i hc
          rw[ih h]
          simp[setR];omega
         ·cases h
        ·cases h
      rw[e1 hcs,repl_length,hc3]
     have hal:arr'.size=n*sz:=by have:=relCL_length h2;simp at this;omega
     have hrun:(Instr.buildSlice t n vps).run P W=.ok (.slice (some ⟨W.heap.size,0,none⟩) n n) (W.alloc (.cells arr' e)):=by
      have hng:¬ (n*sz > 2 ^ 24):=by omega
      by_cases h0:n*sz=0
      ·simp only[if_pos h0] at h1;simp only[Instr.buildSlice,Sem.run_bind,ht.underlying,Result.andThen_ok,ht2.sizeOf,if_neg hng,if_pos h0,Sem.run_pure,h1,newRow,run_newObj]
       rfl
      ·simp only[if_neg h0] at h1;simp only[Instr.buildSlice,Sem.run_bind,ht.underlying,Result.andThen_ok,ht2.sizeOf,if_neg hng,if_neg h0,Sem.run_pure,hz1,h1,newRow,run_newObj]
       rfl
     split at h
     ·rename_i hn0
      cases h
      obtain⟨g1,g2⟩:=new_grow hI hk (es:=sz) (n:=n) (.inl hn) (cs:=cs) (arr:=arr') e (cap:=n) hal (Nat.le_refl _) hlen (by rw[List.take_of_length_le (by simp[hal])];exact h2)
      refine⟨_,_,_,hrun,g1,g2,⟨_,St.get_put_same _ _ _⟩,_,n,rfl,Nat.le_refl _,fun es' m' cs' fz e=>?_⟩
      rw[St.get_put_same] at e
      cases e
      exact⟨Nat.le_refl _,fun _=>⟨((Gh.set_same G k _ n).1).symm,fun _=>((Gh.set_same G k W.heap.size n).2).symm⟩⟩
     split at h
     ·rename_i qs hqs
      cases h
      have hql:qs.length=n*sz:=by rw[allM_len hqs,hlen]
      obtain⟨G',g1,g2,g3,g4,g5⟩:=new_front hI hk (es:=sz) (n:=n) (tg:=999983) (.inl hn) (ys:=qs) (arr:=arr') e (fz:=(0,0)) (cap:=n) hal (Nat.le_refl _) hql (.inl (by simp)) (.inr (.inr ⟨rfl,rfl⟩))
       (fun j y hj=>by obtain⟨v,hv,hr⟩:=purS_list hqs h2 j y hj;exact⟨v,by simpa using hv,hr⟩)
      refine⟨.slice (some ⟨W.heap.size,0,none⟩) n n,_,G',hrun,g1,g2,?_⟩
      rw[← g3]
      exact own_rel (by rw[g3];simp) (St.get_put_same _ _ _) (Nat.le_refl _) g4 (by rw[g3];exact g5)
     ·cases h
    ·cases h
  ·cases h
 ·cases h
theorem wrap_i64 {n:Int}(h : -9223372036854775808≤n)(h2:n≤9223372036854775807):IntKind.i64.wrap n=n:=by
 simp[IntKind.wrap,IntKind.bits,IntKind.signed]
 split<;>omega
theorem makeSliceD_ok (hE:EnvTy P E)(hI:Inv X G s W){k t:Nat}(hk:k<s.nx)(hn:s.get k=none){l c d:D}{vl vc:Value}
  (h:makeSliceD E k t l c s=some (d,s')) (hl:relD G s W l vl) (hc:relD G s W c vc):Made X G s W ((Instr.makeSlice t vl vc).run P W) d s':=by
 unfold makeSliceD at h
 split at h
 ·rename_i size agg by_ z0 e eq kl l' kc c' hti hl' hc'
  obtain rfl:=intq hl' hl;obtain rfl:=intq hc' hc
  obtain⟨inf,dd,ht⟩:=hE.tok hti
  have hd:=ht.slice rfl
  subst hd
  split at h
  ·rename_i sz ag2 by2 z kn2 eq2 hie
   obtain⟨inf2,d2,ht2⟩:=hE.tok hie
   obtain⟨zv,hz1,hz2⟩:=ht2.zeroValue (W:=W) rfl
   split at h
   ·rename_i hcond
    obtain⟨c1,c2,c3,c4,c5,c6⟩:=hcond
    have hzr:relCL G s W z zv.cells.toList:=allM_toC hz2
    have hrep:=repl_rel (n:=c'.toNat) (by omega) hzr
    rw[c5] at hrep
    have hwl:IntKind.i64.wrap l'=l':=wrap_i64 (by omega) (by omega)
    have hwc:IntKind.i64.wrap c'=c':=wrap_i64 (by omega) (by omega)
    have hb:inf2.bytes=by2:=ht2.bytes
    have hrun:(Instr.makeSlice t (.int kl l') (.int kc c')).run P W=.ok (.slice (some ⟨W.heap.size,0,none⟩) l'.toNat c'.toNat)
      (W.alloc (.cells ((Array.range (c'.toNat*sz)).map (zv.cells[· % zv.cells.size]!)) e)):=by
     have hnt:¬ ((decide (c' < 0) || decide ((by2:Int)*c' > 2 ^ 48)) || decide (l' < 0) || decide (l' > c'))=true:=by
      simp;omega
     by_cases h0:c'.toNat*sz=0
     ·simp only[Instr.makeSlice,Sem.run_bind,ht.underlying,Result.andThen_ok,asInt,asIntOf,Sem.run_pure,ht2.typeInfo,hb,hwl,hwc,if_neg hnt,run_askRoom,ht2.sizeOf,if_pos h0,newRow,run_newObj]
      rw[h0]
      have e0:(Array.range 0).map ((#[]:Array Value)[· % (#[]:Array Value).size]!)=(Array.range 0).map (zv.cells[· % zv.cells.size]!):=by simp
      rw[e0]
      rfl
     ·simp only[Instr.makeSlice,Sem.run_bind,ht.underlying,Result.andThen_ok,asInt,asIntOf,Sem.run_pure,ht2.typeInfo,hb,hwl,hwc,if_neg hnt,run_askRoom,ht2.sizeOf,if_neg h0,hz1,newRow,run_newObj]
      rfl
    split at h
    ·rename_i h0
     subst h0
     split at h
     ·cases h
      obtain⟨g1,g2⟩:=new_grow hI hk (es:=sz) (n:=0) (.inl hn) (cs:=[]) (arr:=((Array.range (c'.toNat*sz)).map (zv.cells[· % zv.cells.size]!))) e (cap:=c'.toNat) (by simp) (Nat.zero_le _) (by simp) (by simp[relCL])
      refine⟨_,_,_,hrun,g1,g2,⟨_,St.get_put_same _ _ _⟩,_,c'.toNat,rfl,Nat.zero_le _,fun es' m' cs' fz e=>?_⟩
      rw[St.get_put_same] at e
      cases e
      exact⟨Nat.le_refl _,fun _=>⟨((Gh.set_same G k _ _).1).symm,fun _=>((Gh.set_same G k W.heap.size _).2).symm⟩⟩
     cases h
     obtain⟨G',g1,g2,g3,g4,g5⟩:=new_front hI hk (es:=sz) (n:=0) (tg:=0) (.inl hn) (ys:=[]) (arr:=((Array.range (c'.toNat*sz)).map (zv.cells[· % zv.cells.size]!))) e (fz:=(0,0)) (cap:=c'.toNat) (by simp) (by omega) (by simp) (.inl (by simp)) (.inl rfl)
      (fun j y hj=>by simp at hj)
     refine⟨_,_,G',hrun,g1,g2,?_⟩
     rw[← g3]
     exact own_rel (by rw[g3];simp) (St.get_put_same _ _ _) (by simp) g4 (by rw[g3];exact g5)
    ·cases h
     obtain⟨g1,g2⟩:=new_cells hI hk hn (cs:=repl c'.toNat z) (arr:=((Array.range (c'.toNat*sz)).map (zv.cells[· % zv.cells.size]!))) e hrep
     refine⟨_,_,_,hrun,g1,g2,⟨⟨_,St.get_put_same _ _ _,rfl⟩,c'.toNat,by omega,by rw[(Gh.set_same G k _ 0).1]⟩⟩
   ·cases h
  ·cases h
 ·cases h
/-! ### a slice's elements, read -/
theorem src_cells {a:Option Addr}{n c:Nat}{cs:List Pd}(hcs:cs≠[]→∃ b o,a=some ⟨b,o,none⟩∧relCs G.imm W b o cs){sz:Nat}(hl:cs.length=n*sz) :
  ∃ ws:Array Value,(Builtin.firstCells sz n (.slice a n c)).run P W=.ok ws W∧ws.size=cs.length∧∀(j:Nat) y,cs[j]? = some y→∃ u,ws[j]? = some u∧relPd G.imm W y u:=by
 by_cases he:cs=[]
 ·subst he;simp only[List.length_nil] at hl
  refine⟨#[],?_,rfl,fun j y e=>by simp at e⟩
  cases a with
  |none=>rfl
  |some a=>simp[Builtin.firstCells,← hl,loadCells,loadCellsFrom]
 ·obtain⟨b,o,rfl,hr⟩:=hcs he
  obtain ⟨vs, e1, e2, e3⟩ := cells_list (G := G) (s := { ob := [], nx := 0 }) (W := W) (b := b) (o := o) (cs := cs.map .p) (fun j c hj => by
   rw[List.getElem?_map] at hj
   cases hq:cs[j]? with
   |none=>rw[hq] at hj;cases hj
   |some x=>rw[hq] at hj;cases hj;obtain⟨u,h1,h2,h3⟩:=relCs_get hr j x hq;exact⟨u,h1,h3⟩)
  have hvl:vs.length=n*sz:=by rw[e1];simp[hl]
  have hld:=run_loadCells_list (P:=P) W ⟨b,o,none⟩ vs (fun j v hj=>by rw[Addr.add_mid];exact e3 j v hj)
  rw[hvl] at hld
  refine⟨vs.toArray,by simp[Builtin.firstCells,hld],by simp[hvl,hl],fun j y hj=>?_⟩
  obtain⟨u,hu,hru⟩:=relCL_get e2 j (.p y) (by simp[hj])
  exact⟨u,by simpa using hu,hru⟩
theorem listOf_ok (hI:Inv X G s W){d:D}{v:Value}{m sz:Nat}{ys:List Pd}(h:listOf s d=some (m,ys))(hr:relD G s W d v)(hl:ys.length=m*sz) :
  ∃ a c,v=.slice a m c∧m≤c∧∃ ws:Array Value,(Builtin.firstCells sz m v).run P W=.ok ws W∧ws.size=ys.length∧∀(j:Nat) y,ys[j]? = some y→∃ u,ws[j]? = some u∧relPd G.imm W y u:=by
 unfold listOf at h
 split at h
 ·cases h
  obtain⟨a,c,rfl,hc,hcs⟩:=slice_elems (s:=s) hr
  exact⟨a,c,rfl,hc,src_cells hcs hl⟩
 ·cases h;obtain rfl:=hr
  exact⟨none,0,rfl,Nat.le_refl _,src_cells (cs:=[]) (fun h=>absurd rfl h) hl⟩
 ·cases h
  obtain⟨a,c,rfl,hc,hcs⟩:=slice_elems (G:=G) (s:=s) hr.1
  exact⟨a,c,rfl,hc,src_cells hcs hl⟩
 ·rename_i r off n es
  split at h
  ·rename_i cs frz ho
   split at h
   ·rename_i ps hps
    split at h
    ·rename_i hfit
     cases h
     obtain⟨_,c,hc,rfl⟩:=hr
     refine⟨_,c,rfl,hc,?_⟩
     obtain⟨_,arr,t,hh,hrel,_⟩:=hI.ob r _ ho
     have hpl:=allM_len hps
     have hrt:=relCL_take (m*es) (relCL_drop off hrel)
     have hq:=purS_list hps hrt
     have hal:arr.size=cs.length:=by have:=relCL_length hrel;simpa using this
     have hlen:((arr.toList.drop off).take (m*es)).length=m*sz:=by
      have e1:=relCL_length hrt
      rw[e1,← hpl,hl]
     have hld := run_loadCells_list (P := P) W ⟨G.blk r, off, none⟩ ((arr.toList.drop off).take (m * es)) (fun j v hj => by
      rw[Addr.add_mid,cell_of_row W _ _ arr t _ hh]
      rw[List.getElem?_take] at hj
      split at hj
      ·rw[List.getElem?_drop] at hj;simpa using hj
      ·cases hj)
     rw[hlen] at hld
     refine⟨((arr.toList.drop off).take (m*es)).toArray,by simp[Builtin.firstCells,hld],by rw[List.size_toArray,hlen,hl],fun j y hj=>?_⟩
     obtain⟨u,hu,hru⟩:=hq j y hj
     exact⟨u,by simpa using hu,hru⟩
    ·cases h
   ·cases h
  ·cases h
 ·cases h
  obtain⟨a,rfl⟩:=hr
  exact⟨a,0,rfl,Nat.le_refl _,src_cells (cs:=[]) (fun h=>absurd rfl h) hl⟩
 ·rename_i q id off n es
  split at h
  ·rename_i es' q' cs frz ho
   split at h
   ·rename_i ps hps
    split at h
    ·rename_i hfit
     cases h
     obtain⟨rfl,rfl,hfit⟩:=hfit
     obtain⟨_,b,c,rfl,hc,hg⟩:=hr
     obtain rfl:=((hg _ _ _ _ ho).2 rfl).1
     refine⟨_,c,rfl,hc,?_⟩
     obtain⟨_,arr,t,hh,hsz,hnc,hcl,hrel,_⟩:=hI.ob id _ ho
     have hpl:=allM_len hps
     have hrt:=relCL_take (m*es') (relCL_drop off hrel)
     have hq:=purS_list hps hrt
     have hlen:(((arr.toList.take (q' * es')).drop off).take (m*es')).length=m*sz:=by
      have e1:=relCL_length hrt
      rw[e1,← hpl,hl]
     have hld := run_loadCells_list (P := P) W ⟨G.blk id, off, none⟩ (((arr.toList.take (q' * es')).drop off).take (m * es')) (fun j v hj => by
      rw[Addr.add_mid,cell_of_row W _ _ arr t _ hh]
      rw[List.getElem?_take] at hj
      split at hj
      ·rw[List.getElem?_drop,List.getElem?_take] at hj
       split at hj
       ·simpa using hj
       ·cases hj
      ·cases hj)
     rw[hlen] at hld
     refine⟨(((arr.toList.take (q' * es')).drop off).take (m*es')).toArray,by simp[Builtin.firstCells,hld],by rw[List.size_toArray,hlen,hl],fun j y hj=>?_⟩
     obtain⟨u,hu,hru⟩:=hq j y hj
     exact⟨u,by simpa using hu,hru⟩
    ·cases h
   ·cases h
  ·cases h
 ·cases h
theorem srcD_ok (hE:EnvTy P E)(hI:Inv X G s W){u:Nat}{y:D}{vy:Value}{m sz:Nat}{ys:List Pd}(h:srcD E u s y=some (m,ys))(hr:relD G s W y vy)(hl:ys.length=m*sz) :
  (P.underlying u=some .string∨∃ e,P.underlying u=some (.slice e))∧(Builtin.lenOf vy).run P W=.ok m W ∧
   ∃ ws:Array Value,(Builtin.firstCells sz m vy).run P W=.ok ws W∧ws.size=ys.length∧∀(j:Nat) y,ys[j]? = some y→∃ u,ws[j]? = some u∧relPd G.imm W y u:=by
 unfold srcD at h
 split at h
 ·rename_i iu hiu
  obtain⟨inf,du,ht⟩:=hE.tok hiu
  split at h
  ·rename_i b hk
   cases h
   obtain⟨t,rfl,rfl⟩:=P'_str hr
   have hd:=ht.str hk
   subst hd
   refine⟨.inl ht.und,by rw[show t.data.toList.length=t.size from(size_data t).symm];rfl,?_⟩
   have hx:t.extract 0 t.size=t:=by
    apply ByteArray.ext
    simp[ByteArray.data_extract]
   refine⟨t.data.map fun b=>.int .u8 b.toNat,?_,by simp,fun j y hj=>?_⟩
   ·simp only[Builtin.firstCells]
    rw[show t.data.toList.length=t.size from(size_data t).symm,hx]
    rfl
   ·rw[List.getElem?_map] at hj
    cases hq:t.data.toList[j]? with
    |none=>rw[hq] at hj;cases hj
    |some c =>
     rw[hq] at hj;cases hj
     refine⟨.int .u8 c.toNat,?_,rfl⟩
     have:t.data[j]? = some c:=by simpa using hq
     simp[this]
  ·rename_i e hk
   have hd:=ht.slice hk
   subst hd
   obtain⟨a,c,rfl,hc,hws⟩:=listOf_ok (P:=P) hI h hr hl
   exact⟨.inr ⟨e,ht.und⟩,by simp[Builtin.lenOf],hws⟩
  ·cases h
 ·cases h
/-! ### clear -/
theorem clearD_ok (hE:EnvTy P E)(hI:Inv X G s W){ts:List Nat}{x d:D}{vx:Value}(h:clearD E ts x s=some (d,s'))(hx:relD G s W x vx)(ty:Nat) :
  ∃ W',(Builtin.clear_ ts.toArray ty #[vx]).run P W=.ok (.tuple #[]) W'∧Inv X G s' W'∧Ext G s W G s' W'∧d=.tup []:=by
 unfold clearD at h
 split at h
 ·rename_i t
  split at h
  ·rename_i size agg by_ z0 e eq hti
   obtain⟨inf,dd,ht⟩:=hE.tok hti
   have hd:=ht.slice rfl
   subst hd
   split at h
   ·rename_i sz ag2 by2 z kn2 eq2 hie
    obtain⟨inf2,d2,ht2⟩:=hE.tok hie
    obtain⟨zv,hz1,hz2⟩:=ht2.zeroValue (W:=W) rfl
    split at h
    ·rename_i m id off n es
     split at h
     ·rename_i es' m' cs hk
      split at h
      ·rename_i hcond
       cases h
       obtain⟨rfl,rfl,rfl,c5,c6,c7,c8⟩:=hcond
       obtain⟨_,b,c,rfl,hnc,hg⟩:=hx
       obtain⟨rfl,_⟩:=(hg _ _ _ _ hk).2 rfl
       obtain⟨_,arr,t',_,h3,h4,h5,_⟩:=hI.ob id _ hk
       have hzr:relCL G s W z zv.cells.toList:=allM_toC hz2
       have hrep:=repl_rel (n:=n) (by omega) hzr
       have hzs:zv.cells.size=z.length:=by have:=relCL_length hzr;simpa using this
       have hrl:=repl_length n z
       rw[c5] at hrl
       obtain⟨W',h1,h2,h3⟩:=grow_put (P:=P) hI hk hrep (n':=m') (off:=off) (cs':=setR cs off (repl n z)) (Nat.le_refl _) h4 (by rw[hrl];omega) (by rw[Nat.add_comm] at c8;omega) rfl (by simp only[setR,List.length_append,List.length_take,List.length_drop,hrl];omega)
       refine⟨W',?_,h2,h3,rfl⟩
       obtain⟨n,rfl⟩:∃ q,n=q+1:=⟨n-1,by omega⟩
       have hzc:Builtin.zeroCells zv.cells (n+1)=(Array.range ((n+1)*z.length)).map (zv.cells[· % zv.cells.size]!):=by rw[Builtin.zeroCells,hzs]
       rw[← hzc] at h1
       simp[Builtin.clear_,ht.underlying,hz1,h1]
      ·cases h
     ·cases h
    ·cases h
     obtain⟨a,c,rfl,_⟩:=hx
     refine⟨W,?_,hI,Ext.refl _ _ _,rfl⟩
     cases a<;>simp[Builtin.clear_,ht.underlying]
    ·cases h;obtain rfl:=hx
     refine⟨W,?_,hI,Ext.refl _ _ _,rfl⟩
     simp[Builtin.clear_,ht.underlying]
    ·cases h
   ·cases h
  ·cases h
 ·cases h
end
end Go.Proofs.YtedcnhbblgmdnaaGreat.Ab
/- An evaluator of the model's code with slices as pure lists: append, conversions and freezing are the machine's. -/
namespace Go.Proofs.YtedcnhbblgmdnaaGreat.Ab
open Go.RowKit
section
variable {X:Ctx} {G G':Gh} {s s':St} {W W':World} {P:Program} {E:Env}
theorem append_room {t u e ty:Nat}{i ie:TI}{inf inf2:TypeInfo}{d d2:TypeDesc}(ht:TOK P t i inf d)(hk:i.kn=.slice e)(he:TOK P e ie inf2 d2)
  (hu:P.underlying u=some .string∨∃ e,P.underlying u=some (.slice e)) {base:Option Addr} {n c m:Nat} {vy:Value} {ws:Array Value} (hl:(Builtin.lenOf vy).run P W=.ok m W)
  (hw:(Builtin.firstCells ie.size m vy).run P W=.ok ws W) (hroom:n+m≤c)
  (hst:match base with | some a=>(storeCells (a.add (n*ie.size)) ws.toList 0).run P W=.ok () W' | none=>W'=W) :
  (Builtin.append_ #[t,u] ty #[.slice base n c,vy]).run P W=.ok (.slice base (n+m) c) W':=by
 have hd:=ht.slice hk
 subst hd;cases base with
 |none =>
  subst hst;rcases hu with hu|⟨e',hu⟩<;>simp[Builtin.append_,ht.underlying,he.sizeOf,run_underlying hu,hl,hroom,hw]
 |some a =>
  simp only at hst;rcases hu with hu|⟨e',hu⟩<;>simp[Builtin.append_,ht.underlying,he.sizeOf,run_underlying hu,hl,hroom,hw,hst]
theorem append_grow {t u e ty:Nat}{i ie:TI}{inf inf2:TypeInfo}{d d2:TypeDesc}(ht:TOK P t i inf d)(hk:i.kn=.slice e)(he:TOK P e ie inf2 d2)
  (hu:P.underlying u=some .string∨∃ e,P.underlying u=some (.slice e)) {base:Option Addr} {n c m:Nat} {vy:Value} {ws0 ws:Array Value} (hl:(Builtin.lenOf vy).run P W=.ok m W)
  (hw0:(Builtin.firstCells ie.size n (.slice base n c)).run P W.drew=.ok ws0 W.drew) (hw:(Builtin.firstCells ie.size m vy).run P W.drew=.ok ws W.drew) (hroom:¬ n+m≤c)
  (hb:(n+m)*ie.bytes≤140737488355328) (hb0:0<ie.bytes) {zv:Value} (hz:(zeroValue e).run P W.drew=.ok zv W.drew) :
  ∃ nc,n+m≤nc∧(Builtin.append_ #[t,u] ty #[.slice base n c,vy]).run P W =
   .ok (.slice (some ⟨W.heap.size,0,none⟩) (n+m) nc) (W.drew.alloc (.cells (ws0++ws++Builtin.zeroCells zv.cells (nc-(n+m))) e)):=by
 have hd:=ht.slice hk
 subst hd
 have hle:n+m≤140737488355328:=by
  have:=Nat.mul_le_mul_left (n+m) hb0
  omega
 have hgs:¬ Builtin.nextslicecap (n+m) c*inf2.bytes > 2 ^ 48:=by
  have:=growslice_fits (need:=n+m) (old:=c) (bytes:=ie.bytes) (by omega) hb
  rw[he.bytes];omega
 refine⟨(Question.appendCap (n+m) c e).cut (W.tape W.drawn (.appendCap (n+m) c e)),by simp[Question.cut],?_⟩
 have hb2:inf2.bytes=ie.bytes:=he.bytes
 have hne:¬ ie.bytes=0:=by omega
 rw[hb2] at hgs
 have hdr:({ W with drawn:=W.drawn+1 }:World)=W.drew:=rfl
 rcases hu with hu|⟨e',hu⟩ <;>
 ·simp only [Builtin.append_, List.getElem?_toArray, List.getElem?_cons_zero, List.getElem?_cons_succ, Sem.run_bind, ht.underlying, Result.andThen_ok, he.sizeOf, run_underlying hu, Sem.run_pure, Bool.false_eq_true, if_false,
   hl,if_neg hroom,he.typeInfo,hb2,hne,or_self,and_false,hgs,Bool.not_false,if_true,run_choose,Question.forced,hdr,run_askRoom,hw0,hw,hz,newRow,run_newObj]
  rfl
theorem zeroCells_size (z:Array Value)(n:Nat):(Builtin.zeroCells z n).size=n*z.size:=by simp[Builtin.zeroCells]
theorem own_rel' {k es n cap tg:Nat}{ys:List Pd}(hget:s'.get k=some (.front es n tg))(hnc:n≤cap)(hc:G'.cap k=cap)
  (hr:relCs G'.imm W' (G'.blk k) 0 ys):relC G' s' W' (.own n ys k) (.slice (some ⟨G'.blk k,0,none⟩) n cap):=by
 refine⟨⟨_,cap,rfl,hnc,fun _=>⟨_,_,rfl,hr⟩⟩,⟨_,hget⟩,fun es' m tg' e=>?_⟩
 rw[hget] at e
 cases e
 exact⟨Nat.le_refl _,fun _=>by rw[hc]⟩
theorem get_app (a b c:Array Value)(j:Nat):(j<a.size→(a++b++c)[j]? = a[j]?)∧(j<b.size→(a++b++c)[a.size+j]? = b[j]?):=by
 constructor<;>intro h
 ·rw[Array.append_assoc,Array.getElem?_append_left h]
 ·rw[Array.append_assoc,Array.getElem?_append_right (by omega),Nat.add_sub_cancel_left,Array.getElem?_append_left h]
theorem grow_rel (hI:Inv X G s W){k es n m nc e tg tg0:Nat}(hk:k<s.nx)(hn:s.get k=none∨s.get k=some (.front es n tg0))(htg:tg=0∨e=tg)(hm:0<m){xs ys:List Pd}{ws0 ws z:Array Value}
  (hxl:xs.length=n*es) (hyl:ys.length=m*es) (h0s:ws0.size=xs.length) (hws:ws.size=ys.length) (hzs:z.size=(nc-(n+m))*es) (hnc:n+m≤nc)
  (h0:∀(j:Nat) y,xs[j]? = some y→∃ u,ws0[j]? = some u∧relPd G.imm W y u) (h1:∀(j:Nat) y,ys[j]? = some y→∃ u,ws[j]? = some u∧relPd G.imm W y u) :
  ∃ G',Inv X G' (s.put k (.front es (n+m) tg)) (W.alloc (.cells (ws0++ws++z) e))∧Ext G s W G' (s.put k (.front es (n+m) tg)) (W.alloc (.cells (ws0++ws++z) e)) ∧
   relC G' (s.put k (.front es (n+m) tg)) (W.alloc (.cells (ws0++ws++z) e)) (.own (n+m) (xs++ys) k) (.slice (some ⟨W.heap.size,0,none⟩) (n+m) nc):=by
 have hlen:(xs++ys).length=(n+m)*es:=by simp[hxl,hyl,Nat.add_mul]
 obtain ⟨G', g1, g2, g3, g4, g5⟩ := new_front hI hk (es := es) (n := n + m) (by
   rcases hn with hn|hn
   ·exact .inl hn
   ·exact .inr ⟨n,tg0,hn,by omega⟩) (ys:=xs++ys) (arr:=ws0++ws++z) e (fz:=(0,0)) (cap:=nc)
  (by
   have:nc*es=(n+m)*es+(nc-(n+m))*es:=by rw[← Nat.add_mul];congr 1;omega
   simp only[Array.size_append,h0s,hws,hzs,hxl,hyl]
   rw[this,Nat.add_mul]) hnc hlen (.inl (by simp)) (htg.imp id fun h=>if h9:tg=999983 then .inr ⟨h9,rfl⟩ else .inl ⟨h9,h,by simp⟩)
  (fun j y hj => by
   rw[List.getElem?_append] at hj
   split at hj
   ·rename_i hlt
    obtain⟨u,hu,hr⟩:=h0 j y hj
    exact⟨u,by rw[(get_app ws0 ws z j).1 (by omega)];exact hu,hr⟩
   ·rename_i hge
    obtain⟨u,hu,hr⟩:=h1 _ y hj
    have hlt:=(List.getElem?_eq_some_iff.1 hj).1
    refine⟨u,?_,hr⟩
    have:=(get_app ws0 ws z (j-xs.length)).2 (by omega)
    rw[h0s,show xs.length+(j-xs.length)=j by omega] at this
    rw[this];exact hu)
 refine⟨G',g1,g2,?_⟩
 rw[← g3]
 exact own_rel (by rw[g3];simp) (St.get_put_same _ _ _) hnc g4 (by rw[g3];exact g5)
theorem grow_relG (hI:Inv X G s W){k es n m nc e:Nat}{xs:List C}{ys:List Pd}(hk:k<s.nx)(hn:(s.get k=none∧n=0)∨s.get k=some (.grow es n xs false))(hm:0<m){ws0 ws z:Array Value}
  (hxl:xs.length=n*es) (hyl:ys.length=m*es) (h0s:ws0.size=xs.length) (hws:ws.size=ys.length) (hzs:z.size=(nc-(n+m))*es) (hnc:n+m≤nc)
  (h0:relCL G s W xs ws0.toList) (h1:∀(j:Nat) y,ys[j]? = some y→∃ u,ws[j]? = some u∧relPd G.imm W y u) :
  ∃ G',Inv X G' (s.put k (.grow es (n+m) (xs++ys.map .p) false)) (W.alloc (.cells (ws0++ws++z) e))∧Ext G s W G' (s.put k (.grow es (n+m) (xs++ys.map .p) false)) (W.alloc (.cells (ws0++ws++z) e)) ∧
   relC G' (s.put k (.grow es (n+m) (xs++ys.map .p) false)) (W.alloc (.cells (ws0++ws++z) e)) (.gs (n+m) k 0 (n+m) es) (.slice (some ⟨W.heap.size,0,none⟩) (n+m) nc):=by
 have hlen:(xs++ys.map C.p).length=(n+m)*es:=by simp[hxl,hyl,Nat.add_mul]
 have hmul:nc*es=(n+m)*es+(nc-(n+m))*es:=by rw[← Nat.add_mul];congr 1;omega
 have hsz:(ws0++ws++z).size=nc*es:=by
  simp only[Array.size_append,h0s,hws,hzs,hxl,hyl]
  rw[hmul,Nat.add_mul]
 obtain ⟨g1, g2⟩ := new_grow hI hk (es := es) (n := n + m) (by
   rcases hn with hn|hn
   ·exact .inl hn.1
   ·exact .inr ⟨n,xs,hn,by omega⟩) (cs:=xs++ys.map .p) (arr:=ws0++ws++z) e (cap:=nc) hsz hnc hlen (by
   have e1:((ws0++ws++z).toList.take ((n+m)*es))=ws0.toList++ws.toList:=by
    rw[Array.toList_append,Array.toList_append]
    rw[List.take_append_of_le_length (by simp only[List.length_append,Array.length_toList,h0s,hws,hxl,hyl,Nat.add_mul];omega)]
    rw[List.take_of_length_le (by simp only[List.length_append,Array.length_toList,h0s,hws,hxl,hyl,Nat.add_mul];omega)]
   rw[e1]
   exact relCL_append h0 (relCL_p (by simpa using hws) (fun j y hj=>by obtain⟨u,hu,hr⟩:=h1 j y hj;exact⟨u,by simpa using hu,hr⟩)))
 refine⟨_,g1,g2,⟨_,St.get_put_same _ _ _⟩,_,nc,rfl,hnc,fun es' m' cs' fz e=>?_⟩
 rw[St.get_put_same] at e
 cases e
 exact⟨Nat.le_refl _,fun _=>⟨((Gh.set_same G k _ nc).1).symm,fun _=>((Gh.set_same G k W.heap.size nc).2).symm⟩⟩
set_option maxHeartbeats 1000000 in
theorem appendD_ok (hE:EnvTy P E)(hI:Inv X G s W){k:Nat}(hk:k<s.nx)(hn:s.get k=none){ts:List Nat}{x y d:D}{vx vy:Value}(h:appendD E k ts x y s=some (d,s'))
  (hx:relD G s W x vx) (hy:relD G s W y vy) (ty:Nat):Made X G s W ((Builtin.append_ ts.toArray ty #[vx,vy]).run P W) d s':=by
 unfold appendD at h
 split at h
 ·rename_i t u
  split at h
  ·rename_i size agg by_ z0 e eq hti
   obtain⟨inf,dd,ht⟩:=hE.tok hti
   split at h
   ·rename_i ie hie
    obtain⟨inf2,d2,ht2⟩:=hE.tok hie
    split at h
    ·cases h
    ·rename_i m ys hsrc
     split at h
     ·rename_i hlen
      obtain⟨hu,hl,ws,hw,hws,hrel⟩:=srcD_ok (P:=P) hE hI hsrc hy hlen
      have hI':=hI.drew
      have hy':=relD_ext (Ext.drew G s W) hy
      obtain⟨_,_,ws',hw',hws',hrel'⟩:=srcD_ok (P:=P) hE hI' hsrc hy' hlen
      split at h
      ·rename_i hm
       subst hm
       have hws0:ws.toList=[]:=by
        have:ws.size=0:=by rw[hws,hlen];simp
        have:ws = #[]:=Array.eq_empty_of_size_eq_zero this
        rw[this]
       have done:∀ {a:Option Addr} {n c:Nat},n≤c→(Builtin.append_ #[t,u] ty #[.slice a n c,vy]).run P W=.ok (.slice a n c) W:=by
        intro a n c hnc;refine append_room ht rfl ht2 hu hl hw hnc ?_;cases a with
        |none=>rfl
        |some a=>simp[hws0,storeCells]
       split at h
       ·cases h;obtain rfl:=hx
        exact⟨_,W,G,done (Nat.le_refl _),hI,Ext.refl _ _ _,rfl⟩
       ·cases h
        obtain⟨a,c,rfl,hc,hcs⟩:=slice_elems (G:=G) (s:=s) hx.1
        exact⟨_,W,G,done hc,hI,Ext.refl _ _ _,hx⟩
       ·cases h
        obtain⟨a,c,rfl,hc,hcs⟩:=slice_elems (s:=s) hx
        exact⟨_,W,G,done hc,hI,Ext.refl _ _ _,hx⟩
       ·cases h
        obtain⟨a,rfl⟩:=hx
        exact⟨_,W,G,done (Nat.le_refl _),hI,Ext.refl _ _ _,⟨_,rfl⟩⟩
       ·split at h
        ·cases h
         obtain⟨hh,b,c,rfl,hc,hg⟩:=hx
         exact⟨_,W,G,done hc,hI,Ext.refl _ _ _,⟨hh,b,c,rfl,hc,hg⟩⟩
        ·cases h
       ·cases h
      ·rename_i hm
       have fresh:∀ {a:Option Addr} {d:D},m*ie.bytes≤140737488355328∧0<ie.size∧0<ie.bytes∧ie.zok=true→
         (if E.gt t then some (D.v (.c (.gs m k 0 m ie.size)),s.put k (.grow ie.size m (ys.map .p) false)) else some (.v (.c (.own m ys k)),s.put k (.front ie.size m e)))=some (d,s') →
         Made X G s W ((Builtin.append_ #[t,u] ty #[.slice a 0 0,vy]).run P W) d s':=by
        intro a d hc h
        obtain⟨hc1,hc2,hc3,hc4⟩:=hc
        obtain⟨z,hz,hzl⟩:∃ z,ie.zero=some z∧z.length=ie.size:=by
         unfold TI.zok at hc4
         split at hc4
         ·rename_i z hz;exact⟨z,hz,by simpa using hc4⟩
         ·cases hc4
        obtain⟨zv,hz1,hz2⟩:=ht2.zeroValue (W:=W.drew) hz
        have hzs:zv.cells.size=ie.size:=by
         have:=allM_len hz2
         simp at this;omega
        have hw0:(Builtin.firstCells ie.size 0 (.slice a 0 0)).run P W.drew=.ok #[] W.drew:=by
         cases a<;>simp[Builtin.firstCells,loadCells,loadCellsFrom]
        obtain⟨nc,hnc,hrun⟩:=append_grow (ty:=ty) ht rfl ht2 hu (n:=0) (c:=0) hl hw0 hw' (by omega) (by simpa using hc1) hc3 hz1
        have e0:0+m=m:=by omega
        split at h
        ·cases h
         obtain⟨G',g1,g2,g3⟩:=grow_relG hI' (es:=ie.size) (n:=0) (m:=m) (nc:=nc) (e:=e) (xs:=[]) hk (.inl ⟨hn,rfl⟩) (by omega) (ys:=ys) (ws0:=#[]) (ws:=ws') (z:=Builtin.zeroCells zv.cells (nc-(0+m)))
          (by simp) hlen rfl hws' (by rw[zeroCells_size,hzs]) hnc rfl hrel'
         rw[e0] at g1 g2 g3 hrun
         exact⟨_,_,G',by rw[hrun];rfl,g1,(Ext.drew G s W).trans g2,g3⟩
        ·cases h
         obtain⟨G',g1,g2,g3⟩:=grow_rel hI' (es:=ie.size) (n:=0) (m:=m) (nc:=nc) (e:=e) (tg:=e) (tg0:=0) hk (.inl hn) (.inr rfl) (by omega) (xs:=[]) (ys:=ys) (ws0:=#[]) (ws:=ws') (z:=Builtin.zeroCells zv.cells (nc-(0+m)))
          (by simp) hlen rfl hws' (by rw[zeroCells_size,hzs]) hnc (fun j y hj=>by simp at hj) hrel'
         rw[e0] at g1 g2 g3 hrun
         exact⟨_,_,G',by rw[hrun];rfl,g1,(Ext.drew G s W).trans g2,g3⟩
       split at h
       ·split at h
        ·rename_i hc
         obtain⟨a,rfl⟩:=hx
         exact fresh hc h
        ·cases h
       ·rename_i q id off n es
        split at h
        ·rename_i es' q' cs hid
         split at h
         ·rename_i hc
          cases h
          obtain⟨_,rfl,rfl,rfl,rfl,hes,hc1,hc2,hc3,hc4⟩:=hc
          obtain⟨hh,b,c,rfl,hcn,hg⟩:=hx
          obtain⟨rfl,hcc⟩:=(hg _ _ _ _ hid).2 rfl
          obtain rfl:=hcc rfl
          obtain⟨z,hz,hzl⟩:∃ z,ie.zero=some z∧z.length=ie.size:=by
           unfold TI.zok at hc4
           split at hc4
           ·rename_i z hz;exact⟨z,hz,by simpa using hc4⟩
           ·cases hc4
          have hidlt:=hI.lt id _ hid
          obtain⟨_,arr,t0,hh0,hsz0,hnc0,hcl0,hrel0,_⟩:=hI.ob id _ hid
          have hmv:(s.put id (.grow es' (n+m) (cs++ys.map .p) false)).get id=some (.grow es' (n+m) (cs++ys.map .p) false):=St.get_put_same _ _ _
          by_cases hroom:n+m≤G.cap id
          ·have hwsr:relCL G s W (ys.map .p) ws.toList:=relCL_p (by simpa using hws) (fun j y hj=>by obtain⟨u,hu,hr⟩:=hrel j y hj;exact⟨u,by simpa using hu,hr⟩)
           have hyl:(ys.map C.p).length=m*es':=by rw[List.length_map,hlen,hes]
           obtain⟨W',hst,g1,g2⟩:=grow_put (P:=P) hI hid hwsr (n':=n+m) (off:=n*es') (cs':=cs++ys.map .p) (by omega) hroom (by rw[hyl,Nat.add_mul];omega) (Nat.le_refl _)
            (by rw[List.take_of_length_le (by omega),List.drop_of_length_le (by omega),List.append_nil]) (by rw[List.length_append,hyl,hcl0,Nat.add_mul])
           have hrun := append_room (W' := W') (ty := ty) ht rfl ht2 hu (base := some ⟨G.blk id, 0, none⟩) (n := n) (c := G.cap id) hl hw hroom (by
            simp only[Addr.add_mid,Nat.zero_add,← hes];exact hst)
           refine⟨_,W',G,hrun,g1,g2,⟨_,hmv⟩,_,G.cap id,rfl,hroom,fun e1 e2 e3 e4 e5=>?_⟩
           rw[hmv] at e5
           cases e5
           exact⟨Nat.le_refl _,fun _=>⟨rfl,fun _=>rfl⟩⟩
          ·obtain⟨zv,hz1,hz2⟩:=ht2.zeroValue (W:=W.drew) hz
           have hzs:zv.cells.size=ie.size:=by
            have:=allM_len hz2
            simp at this;omega
           obtain⟨_,arr,t0,hh0,hsz0,hnc0,hcl0,hrel0,_⟩:=hI'.ob id _ hid
           have hmul:n*es'≤G.cap id*es':=Nat.mul_le_mul_right _ hnc0
           have hw0l := run_loadCells_list (P := P) W.drew ⟨G.blk id, 0, none⟩ (arr.toList.take (n * es')) (fun j v hj => by
            rw[Addr.add_mid,Nat.zero_add,cell_of_row W.drew _ _ arr t0 _ hh0]
            rw[List.getElem?_take] at hj
            split at hj
            ·simpa using hj
            ·cases hj)
           have hl0:(arr.toList.take (n*es')).length=n*es':=by simp only[List.length_take,Array.length_toList];omega
           rw[hl0] at hw0l
           have hw0:(Builtin.firstCells ie.size n (.slice (some ⟨G.blk id,0,none⟩) n (G.cap id))).run P W.drew=.ok (arr.toList.take (n*es')).toArray W.drew:=by
            simp only[Builtin.firstCells,← hes]
            simp[hw0l]
           obtain⟨nc,hnc,hrun⟩:=append_grow (ty:=ty) ht rfl ht2 hu (n:=n) (c:=G.cap id) hl hw0 hw' hroom hc1 hc3 hz1
           obtain⟨G',g1,g2,g3⟩:=grow_relG hI' (es:=es') (n:=n) (m:=m) (nc:=nc) (e:=e) (xs:=cs) hidlt (.inr hid) (by omega) (ys:=ys) (ws0:=(arr.toList.take (n*es')).toArray) (ws:=ws') (z:=Builtin.zeroCells zv.cells (nc-(n+m)))
            hcl0 (by rw[hlen,hes]) (by rw[List.size_toArray,hl0,hcl0]) hws' (by rw[zeroCells_size,hzs,hes]) hnc hrel0 hrel'
           exact⟨_,_,G',hrun,g1,(Ext.drew G s W).trans g2,g3⟩
         ·split at h
          ·rename_i hc
           cases h
           obtain⟨_,rfl,rfl,hnk,rfl,hes,hs0,hcl⟩:=hc
           obtain⟨hh,b,c,rfl,hcn,hg⟩:=hx
           obtain⟨rfl,hcc⟩:=(hg _ _ _ _ hid).2 rfl
           obtain rfl:=hcc rfl
           obtain⟨_,arr,t0,hh0,hsz0,hnc0,hcl0,hrel0,_⟩:=hI.ob id _ hid
           obtain⟨st,hst0⟩:∃ st,st=s.put id (.grow es' q' (setR cs (n*es') (ys.map .p)) false):=⟨_,rfl⟩
           have hmv:st.get id=some (.grow es' q' (setR cs (n*es') (ys.map .p)) false):=by rw[hst0];exact St.get_put_same _ _ _
           have hroom:n+m≤G.cap id:=by omega
           have hwsr:relCL G s W (ys.map .p) ws.toList:=relCL_p (by simpa using hws) (fun j y hj=>by obtain⟨u,hu,hr⟩:=hrel j y hj;exact⟨u,by simpa using hu,hr⟩)
           have hyl:(ys.map C.p).length=m*es':=by rw[List.length_map,hlen,hes]
           have hmul:(n+m)*es'≤q' * es':=Nat.mul_le_mul_right _ hnk
           rw[Nat.add_mul] at hmul
           obtain⟨W',hst,g1,g2⟩:=grow_put (P:=P) hI hid hwsr (n':=q') (off:=n*es') (cs':=setR cs (n*es') (ys.map .p)) (Nat.le_refl _) hnc0 (by rw[hyl];omega) (by omega) rfl
            (by simp only[setR,List.length_append,List.length_take,List.length_drop,hyl];omega)
           have hrun := append_room (W' := W') (ty := ty) ht rfl ht2 hu (base := some ⟨G.blk id, 0, none⟩) (n := n) (c := G.cap id) hl hw hroom (by
            simp only[Addr.add_mid,Nat.zero_add,← hes];exact hst)
           rw[← hst0] at g1 g2 ⊢
           refine⟨_,W',G,hrun,g1,g2,⟨_,hmv⟩,_,G.cap id,rfl,hroom,fun e1 e2 e3 e4 e5=>?_⟩
           rw[hmv] at e5
           cases e5
           exact⟨Nat.le_refl _,fun _=>⟨rfl,fun _=>rfl⟩⟩
          ·cases h
        ·cases h
       ·obtain rfl:=hx
        split at h
        ·rename_i hgt
         split at h
         ·rename_i hc
          exact fresh hc (by rw[if_pos hgt];exact h)
         ·cases h
        ·rename_i hgt
         split at h
         ·rename_i hc
          exact fresh hc (by rw[if_neg hgt];exact h)
         ·cases h
       ·rename_i n cs id
        split at h
        ·rename_i es n' tg hid
         split at h
         ·rename_i hc
          cases h
          obtain⟨rfl,rfl,hcl,hc1,hc2,hc3,hc4⟩:=hc
          obtain⟨hxp,hxh,hxf⟩:=hx
          obtain⟨_,hv⟩:=hxf _ _ _ hid
          obtain rfl:=hv rfl
          obtain⟨z,hz,hzl⟩:∃ z,ie.zero=some z∧z.length=ie.size:=by
           unfold TI.zok at hc4
           split at hc4
           ·rename_i z hz;exact⟨z,hz,by simpa using hc4⟩
           ·cases hc4
          have hidlt:=hI.lt id _ hid
          by_cases hroom:n' + m≤G.cap id
          ·obtain ⟨W', G', hst, g1, g2, g3, g4, g5⟩ := front_grow (P := P) (tg' := if tg = e then e else 0) hI hid (by by_cases h9 : tg = e <;> simp [h9]) hroom (by omega) hlen (ws := ws.toList) (by simpa using hws) (fun j y hj => by
            obtain⟨u,hu,hr⟩:=hrel j y hj;exact⟨u,by simpa using hu,hr⟩)
           have hrun := append_room (W' := W') (ty := ty) ht rfl ht2 hu (base := some ⟨G.blk id, 0, none⟩) (n := n') (c := G.cap id) hl hw hroom (by
            simp only[Addr.add_mid,Nat.zero_add];exact hst)
           refine⟨_,W',G',hrun,g1,g2,?_⟩
           rw[← g3,← g4]
           obtain⟨a',c',hac,hnc,hcs⟩:=slice_elems (s:=s) hxp
           cases hac;refine own_rel' (St.get_put_same _ _ _) (by rw[g4];exact hroom) rfl ?_
           rw[g3]
           by_cases hcs0:cs=[]
           ·subst hcs0;simp only[List.length_nil] at hcl
            rw[← hcl] at g5
            simpa using g5
           ·obtain⟨b,o,hbo,hr⟩:=hcs hcs0
            cases hbo;refine relCs_append (relCs_mono g2.imm cs _ _ hr) ?_
            rw[hcl,Nat.zero_add];exact g5
          ·obtain⟨zv,hz1,hz2⟩:=ht2.zeroValue (W:=W.drew) hz
           have hzs:zv.cells.size=ie.size:=by
            have:=allM_len hz2
            simp at this;omega
           have hxp':=relPd_mono (Ext.drew G s W).imm _ _ hxp
           obtain⟨a',c',hac,hnc0,hcs⟩:=slice_elems (G:=G) (s:=s) hxp'
           cases hac
           obtain⟨ws0,hw0,h0s,h0r⟩:=src_cells (P:=P) (c:=G.cap id) hcs hcl
           obtain⟨nc,hnc,hrun⟩:=append_grow (ty:=ty) ht rfl ht2 hu (n:=n') (c:=G.cap id) hl hw0 hw' hroom hc1 hc3 hz1
           obtain⟨G',g1,g2,g3⟩:=grow_rel hI' (es:=ie.size) (n:=n') (m:=m) (nc:=nc) (e:=e) (tg:=if tg=e then e else 0) hidlt (.inr hid) (by by_cases h9:tg=e<;>simp[h9]) (by omega) (xs:=cs) (ys:=ys) (ws0:=ws0) (ws:=ws') (z:=Builtin.zeroCells zv.cells (nc-(n' + m)))
            hcl hlen h0s hws' (by rw[zeroCells_size,hzs]) hnc h0r hrel'
           exact⟨_,_,G',hrun,g1,(Ext.drew G s W).trans g2,g3⟩
         ·cases h
        ·cases h
       ·cases h
     ·cases h
   ·cases h
  ·cases h
 ·cases h
end
end Go.Proofs.YtedcnhbblgmdnaaGreat.Ab
