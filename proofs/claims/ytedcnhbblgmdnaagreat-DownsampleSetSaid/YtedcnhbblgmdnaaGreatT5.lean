/- A part of the proof. -/
import Derived.Test.YtedcnhbblgmdnaaGreatT4
set_option maxHeartbeats 8000000
set_option maxRecDepth 10000
set_option linter.unusedSimpArgs false
set_option linter.unusedVariables false
/- An evaluator of the model's code with slices as pure lists: regions without an open order are the machine's. -/
namespace Go.Proofs.YtedcnhbblgmdnaaGreat.Ab
open Go.RowKit
section
variable {X:Ctx} {G G':Gh} {s s':St} {W W':World} {P:Program} {E:Env} {T:CallT}
def FreeBut (key:Nat)(s s':St):Prop:=s.nx≤s'.nx∧∀ k,k<s.nx→k≠key→s.get k=none→s'.get k=none
theorem freeBut_put {key k0:Nat}{o:Ob}(h:k0=key∨(s.get k0).isSome=true):FreeBut key s (s.put k0 o):=⟨Nat.le_refl _,(freshBut_put h).2⟩
theorem freeBut_refl {key:Nat}:FreeBut key s s:=⟨Nat.le_refl _,fun _ _ _ h=>h⟩
structure CallsFree (T:CallT):Prop where
 free:∀ t args s d s',T t args s=some (d,s')→s.nx≤s'.nx∧Fresh s s'
theorem appendD_free {key:Nat}{ts:List Nat}{x y d:D}(h:appendD E key ts x y s=some (d,s')):FreeBut key s s':=by
 unfold appendD at h
 repeat' split at h
 all_goals first
  |(cases h;done)
  |(cases h;exact freeBut_refl)
  |(cases h;exact freeBut_put (.inl rfl))
  |(rename_i hid _;cases h;exact freeBut_put (.inr (by rw[hid];rfl)))
  |(rename_i hid _ _;cases h;exact freeBut_put (.inr (by rw[hid];rfl)))
theorem convD_free {key a b:Nat}{x d:D}(h:convD E key a b x s=some (d,s')):FreeBut key s s':=by
 unfold convD at h
 repeat' split at h
 all_goals first
  |(cases h;done)
  |(cases h;exact freeBut_refl)
  |(cases h;exact freeBut_put (.inl rfl))
  |(rename_i hid;split at h<;>cases h;exact freeBut_put (.inr (by rw[hid];rfl)))
  |(rename_i hid _;cases h;exact freeBut_put (.inr (by rw[hid];rfl)))
theorem clearD_free {key:Nat}{ts:List Nat}{x d:D}(h:clearD E ts x s=some (d,s')):FreeBut key s s':=by
 unfold clearD at h
 repeat' split at h
 all_goals first
  |(cases h;done)
  |(cases h;exact freeBut_refl)
  |(rename_i hid _;cases h;exact freeBut_put (.inr (by rw[hid];rfl)))
theorem builtinD_free {key:Nat}{b:Builtin}{ts:List Nat}{args:List D}{d:D}(h:builtinD E key b ts args s=some (d,s')):FreeBut key s s':=by
 unfold builtinD at h
 split at h
 ·split at h
  ·split at h<;>cases h;exact freeBut_refl
  ·cases h
 ·exact appendD_free h
 ·split at h<;>cases h;exact freeBut_refl
 ·split at h<;>cases h;exact freeBut_refl
 ·exact clearD_free h
 ·cases h
theorem callD_free (hT:CallsFree T){key:Nat}{f:D}{args:List D}{d:D}(h:callD T f args s=some (d,s')):FreeBut key s s':=by
 unfold callD at h
 split at h
 ·obtain⟨h1,h2⟩:=hT.free _ _ _ _ _ h;exact⟨h1,fun k hk _ hn=>h2 k hk hn⟩
 ·obtain⟨h1,h2⟩:=hT.free _ _ _ _ _ h;exact⟨h1,fun k hk _ hn=>h2 k hk hn⟩
 ·split at h
  ·obtain⟨h1,h2⟩:=hT.free _ _ _ _ _ h;exact⟨h1,fun k hk _ hn=>h2 k hk hn⟩
  ·cases h
 ·cases h
theorem op_free (hT:CallsFree T){key:Nat}{o:Op}{r:Operand→D}{d:D}(h:evalOp E T key o r s=some (d,s')):FreeBut key s s':=by
 cases o<;>simp only[evalOp] at h
 case move=>cases h;exact freeBut_refl
 case assign=>cases h;exact freeBut_refl
 case pick=>split at h<;>cases h;exact freeBut_refl
 case alloc=>split at h<;>cases h;exact freeBut_put (.inl rfl)
 case box=>split at h<;>cases h;exact freeBut_put (.inl rfl)
 case build=>rw[(keep_eq h).2];exact freeBut_refl
 case buildSlice =>
  unfold buildSliceD at h
  repeat' split at h
  all_goals first
   |(cases h;done)
   |(cases h;exact freeBut_put (.inl rfl))
 case load =>
  split at h
  ·split at h<;>cases h;exact freeBut_refl
  ·cases h
 case store =>
  split at h
  ·split at h
   ·rename_i hget
    split at h
    ·cases h;exact freeBut_put (.inr (by rw[hget];rfl))
    ·cases h
   ·rename_i hget
    split at h
    ·cases h;exact freeBut_put (.inr (by rw[hget];rfl))
    ·cases h
   ·cases h
  ·split at h
   ·rename_i hget
    split at h
    ·cases h;exact freeBut_put (.inr (by rw[hget];rfl))
    ·cases h
   ·cases h
  ·cases h
 case nilCheck=>split at h<;>cases h<;>exact freeBut_refl
 case binOp=>rw[(keep_eq h).2];exact freeBut_refl
 case unOp=>rw[(keep_eq h).2];exact freeBut_refl
 case convert=>exact convD_free h
 case makeFunc =>
  split at h
  ·split at h<;>cases h<;>exact freeBut_refl
  ·cases h
 case makeSlice =>
  unfold makeSliceD at h
  repeat' split at h
  all_goals first
   |(cases h;done)
   |(cases h;exact freeBut_put (.inl rfl))
 case slice=>rw[(keep_eq h).2];exact freeBut_refl
 case fieldAddr=>rw[(keep_eq h).2];exact freeBut_refl
 case field=>rw[(keep_eq h).2];exact freeBut_refl
 case indexAddr=>rw[(keep_eq h).2];exact freeBut_refl
 case index=>rw[(keep_eq h).2];exact freeBut_refl
 case extract =>
  split at h
  ·split at h<;>cases h;exact freeBut_refl
  ·cases h
 case call c =>
  split at h
  ·exact builtinD_free h
  ·exact callD_free hT h
  ·cases h
 case makeMap t hint =>
  cases hint with
  |some x=>simp at h
  |none =>
   simp only[makeMapD] at h
   split at h<;>cases h
   exact freeBut_put (.inl rfl)
 case mapUpdate =>
  unfold mapUpdD at h
  split at h
  ·split at h
   ·rename_i hid;cases h;exact freeBut_put (.inr (by rw[hid];rfl))
   ·cases h
  ·cases h
 case lookup =>
  unfold lookupD at h
  split at h
  ·split at h<;>cases h
   exact freeBut_refl
  ·cases h
 all_goals cases h
/-! ### one operation of a region -/
theorem wanted_rel {ops:Array Oper}{o:Oper}{e:List D}{a:Act}{b:Bool}(he:relDL G s W e a.tmps.toList)(h:wantedD ops o e=some b):Region.wanted o (yielded ops a.tmps)=b:=by
 unfold wantedD at h;unfold Region.wanted;cases hg:o.guard with
 |none=>rw[hg] at h;cases h;rfl
 |some jw =>
  obtain⟨j,want⟩:=jw
  rw[hg] at h
  simp only at h ⊢
  split at h
  ·rename_i oj hoj
   split at h
   ·rename_i t ht
    have hr:=relDL_getD he t
    split at h
    ·rename_i b' hb
     cases h
     rw[hb] at hr
     have hv:a.tmps.toList.getD t undef=.bool b':=by simpa[relD,relV,relC,relPd] using hr
     have hv2:a.tmps[t]? = some (.bool b'):=by
      cases hq:a.tmps[t]? with
      |none=>simp[List.getD,hq,undef] at hv
      |some u=>simp[List.getD,hq] at hv;rw[hv]
     simp[yielded,hoj,ht,hv2]
    ·rename_i hb
     cases h
     rw[hb] at hr
     obtain⟨arr,harr,hnil⟩:=hr
     have hv2:yielded ops a.tmps j=none:=by
      unfold yielded
      rw[hoj]
      simp only[Option.bind_some,ht];cases hq:a.tmps[t]? with
      |none=>simp[hq]
      |some u =>
       simp[List.getD,hq] at harr
       subst harr
       simp[hq]
     rw[hv2];rfl
    ·cases h
   ·cases h
  ·cases h
theorem put_rel {e:List D}{a:Act}(he:relDL G s W e a.tmps.toList)(dst:Option Nat){d:D}{v:Value}(hd:relD G s W d v):relDL G s W (putD e dst d) (a.put dst v).tmps.toList:=by
 cases dst with
 |none=>exact he
 |some t=>simp only[putD,Act.put,Array.toList_setIfInBounds];exact relDL_set he t hd
theorem put_defers (a:Act)(dst:Option Nat)(v:Value):(a.put dst v).defers=a.defers:=by cases dst<;>rfl
theorem step_ok {r:Option Nat}(hE:EnvTy P E)(hT:CallsOK P E T){ops:Array Oper}{base i:Nat}{e e':List D}{a:Act}(hI:Inv X G s W)(he:relDL G s W e a.tmps.toList)
  (hk:base+i<s.nx) (hn:s.get (base+i)=none) (h:stepOp E T ops base i e s=some (e',s')) {K:Act→World→Prop} {Q:Exit→Act→World→Prop}
  (hK:∀ a' W' G',Inv X G' s' W'→Ext G s W G' s' W'→relDL G' s' W' e' a'.tmps.toList→a'.defers=a.defers→K a' W'):wpOpIn (FW r) 0 P ops Q i K a W:=by
 unfold stepOp at h
 split at h
 ·cases h
 ·rename_i o ho
  unfold wpOpIn;simp only[ho]
  split at h
  ·cases h
  ·rename_i hw
   rw[wanted_rel he hw]
   cases h;simp only[Bool.false_eq_true,if_false]
   refine⟨fun _ _=>trivial,hK _ _ G hI (Ext.refl _ _ _) (put_rel he _ ⟨#[],rfl,rfl⟩) (put_defers _ _ _)⟩
  ·rename_i hw
   rw[wanted_rel he hw]
   simp only[if_true]
   split at h
   ·cases h
   ·rename_i d s1 hev
    cases h;exact op_ok hE hT hI he hk hn hev fun v W' G' h1 h2 h3=>hK _ _ G' h1 h2 (put_rel (relDL_ext h2 he) _ h3) (put_defers _ _ _)
theorem step_free (hT:CallsFree T){ops:Array Oper}{base i:Nat}{e e':List D}(h:stepOp E T ops base i e s=some (e',s')):FreeBut (base+i) s s':=by
 unfold stepOp at h
 split at h
 ·cases h
 ·split at h
  ·cases h
  ·cases h;exact freeBut_refl
  ·split at h
   ·cases h
   ·rename_i hev;cases h;exact op_free hT hev
theorem runOps_ok {r:Option Nat}(hE:EnvTy P E)(hT:CallsOK P E T)(hTf:CallsFree T){ops:Array Oper}{base:Nat}{Q:Exit→Act→World→Prop}:∀ {l:List Nat} {G:Gh} {s s':St} {W:World} {e e':List D} {a:Act},l.Nodup →
  (∀ i∈l,base+i<s.nx∧s.get (base+i)=none)→Inv X G s W→relDL G s W e a.tmps.toList→runOps E T ops base l e s=some (e',s') →
  (∀ a' W' G',Inv X G' s' W'→Ext G s W G' s' W'→relDL G' s' W' e' a'.tmps.toList→a'.defers=a.defers→Q .normal a' W')→wpOpsIn (FW r) 0 P ops Q l a W
 |[],G,s,s',W,e,e',a,_,_,hI,he,h,hQ=>by
  simp only[runOps] at h;cases h;exact hQ a W G hI (Ext.refl _ _ _) he rfl
 |i::l,G,s,s',W,e,e',a,hnd,hfr,hI,he,h,hQ=>by
  simp only[runOps] at h
  split at h
  ·cases h
  ·rename_i e1 s1 hst
   obtain⟨hni,hnd⟩:=List.nodup_cons.1 hnd
   obtain⟨hk,hn⟩:=hfr i (List.mem_cons_self ..)
   obtain⟨hnx,hf⟩:=step_free hTf hst
   have hfr':∀ j∈l,base+j<s1.nx∧s1.get (base+j)=none:=fun j hj=>by
    obtain⟨h1,h2⟩:=hfr j (List.mem_cons_of_mem _ hj)
    exact ⟨Nat.lt_of_lt_of_le h1 hnx, hf _ h1 (fun e => hni (by have : j = i := by omega
                                                                rw [← this]; exact hj)) h2⟩
   have := step_ok (r := r) hE hT hI he hk hn hst (Q := Q) (K := wpOpsIn (FW r) 0 P ops Q l) (fun a' W' G' h1 h2 h3 h4 =>
    runOps_ok hE hT hTf hnd hfr' h1 h3 h (fun a2 W2 G2 k1 k2 k3 k4=>hQ a2 W2 G2 k1 (h2.trans k2) k3 (k4.trans h4)))
   rw[wpOpsIn_cons]
   exact this
end
end Go.Proofs.YtedcnhbblgmdnaaGreat.Ab
/- An evaluator of the model's code with slices as pure lists: regions whose order is open: operations that may come in either order. -/
namespace Go.Proofs.YtedcnhbblgmdnaaGreat.Ab
open Go.RowKit
section
variable {X:Ctx} {G G':Gh} {s s' t:St} {W W':World} {P:Program} {E:Env} {T:CallT}
def putO (s:St):Option (Nat×Ob)→St
 |none=>s
 |some (k,o)=>s.put k o
def Ment (d:D)(k:Nat):Prop:=(∃ off,d=.v (.c (.ref k off)))∨(∃ off n es,d=.v (.c (.mt k off n es)))∨(∃ n cs,d=.v (.c (.own n cs k)))∨(∃ m off n es,d=.v (.c (.gs m k off n es)))∨∃ m off,d=.v (.c (.gref m k off))
structure CallsPlain (T:CallT) (E:Env):Prop where
 plain:∀ g args s d s',E.opn g=false→E.xt g=none→(∀ v∈args,plainV v=true)→T (.f g) args s=some (d,s')→s'=s∧∀ t,T (.f g) args t=some (d,t)
structure Loc (E:Env) (T:CallT) (key:Nat) (o:Op) (r:Operand→D) (s:St) (d:D) (s':St) (c:Nat) (tk:Option Nat×Option Nat) (RK:List Nat) (w:Option (Nat×Ob)):Prop where
 res:s'=putO s w
 go:∀ t:St,(∀ k∈RK,t.get k=s.get k)→evalOp E T key o r t=some (d,putO t w)
 ment:∀ k∈RK,∃ x∈o.operands.toList,Ment (r x) k
 rk:∀ k∈RK,(∃ ob,s.get k=some ob∧ob.isFront=false∧(tk.1=some k∨tk.2=some k)∧1≤c)∨(∃ es n tg,s.get k=some (.front es n tg)∧c=3∧∃ cs,∃ x∈o.operands.toList,r x=.v (.c (.own n cs k)))
 wk:∀ k ob,w=some (k,ob)→(k=key∧2≤c)∨(c=3∧k∈RK∧∃ es n n' tg tg',s.get k=some (.front es n tg)∧ob=.front es n' tg'∧n<n')∨(c=4∧tk.2=some k∧k∈RK∧(∃ o,s.get k=some o∧o.isFront=false)∧ob.isFront=false)
 fw:∀ k∈RK,∀ es n tg,s.get k=some (.front es n tg)→∃ ob,w=some (k,ob)
 zero:c=0→RK=[]∧w=none
theorem Loc.pure {key:Nat}{o:Op}{r:Operand→D}{d:D}{c:Nat}{tk:Option Nat×Option Nat}(hs:s'=s)(h:∀ t:St,evalOp E T key o r t=some (d,t)):Loc E T key o r s d s' c tk [] none :=
 ⟨hs,fun t _=>h t,(fun k hk=>by cases hk),(fun k hk=>by cases hk),(fun k ob e=>by cases e),(fun k hk=>by cases hk),fun _=>⟨rfl,rfl⟩⟩
theorem Loc.fresh {key:Nat}{o:Op}{r:Operand→D}{d:D}{c:Nat}{tk:Option Nat×Option Nat}{ob:Ob}(hs:s'=s.put key ob)(hc:2≤c)(h:∀ t:St,evalOp E T key o r t=some (d,t.put key ob)) :
  Loc E T key o r s d s' c tk [] (some (key,ob)) :=
 ⟨hs,fun t _=>h t,(fun k hk=>by cases hk),(fun k hk=>by cases hk),(fun k ob e=>by cases e;exact .inl ⟨rfl,hc⟩),(fun k hk=>by cases hk),fun h0=>by omega⟩
theorem keep_go {d:Option D}{d':D}(h:keep s d=some (d',s')):s'=s∧∀ t:St,keep t d=some (d',t):=by
 obtain⟨rfl,hs⟩:=keep_eq h
 exact⟨hs,fun t=>rfl⟩
theorem listOf_loc {d:D}{m:Nat}{ys:List Pd}(h:listOf s d=some (m,ys)) :
  (∀ t:St,listOf t d=some (m,ys))∨∃ r ob,s.get r=some ob∧ob.isFront=false∧((∃ off n es,d=.v (.c (.mt r off n es)))∨∃ m off n es,d=.v (.c (.gs m r off n es)))∧∀ t:St,t.get r=s.get r→listOf t d=some (m,ys):=by
 unfold listOf at h
 split at h
 ·exact .inl fun t=>by unfold listOf;exact h
 ·exact .inl fun t=>by unfold listOf;exact h
 ·exact .inl fun t=>by unfold listOf;exact h
 ·rename_i r off n es
  split at h
  ·rename_i cs fz hc
   exact .inr ⟨r,_,hc,rfl,.inl ⟨off,n,es,rfl⟩,fun t ht=>by unfold listOf;simp only;rw[ht,hc];exact h⟩
  ·cases h
 ·exact .inl fun t=>by unfold listOf;exact h
 ·rename_i m' id off n es
  split at h
  ·rename_i es' q cs fz hc
   exact .inr ⟨id,_,hc,rfl,.inr ⟨m',off,n,es,rfl⟩,fun t ht=>by unfold listOf;simp only;rw[ht,hc];exact h⟩
  ·cases h
 ·cases h
theorem srcD_loc {u:Nat}{d:D}{m:Nat}{ys:List Pd}(h:srcD E u s d=some (m,ys)) :
  (∀ t:St,srcD E u t d=some (m,ys))∨∃ r ob,s.get r=some ob∧ob.isFront=false∧((∃ off n es,d=.v (.c (.mt r off n es)))∨∃ m off n es,d=.v (.c (.gs m r off n es)))∧∀ t:St,t.get r=s.get r→srcD E u t d=some (m,ys):=by
 unfold srcD at h
 split at h
 ·rename_i iu hiu
  split at h
  ·rename_i b hk
   exact .inl fun t=>by unfold srcD;simp only[hiu,hk];exact h
  ·rename_i e hk
   rcases listOf_loc h with h|⟨r,ob,h1,h2,h4,h3⟩
   ·exact .inl fun t=>by unfold srcD;simp only[hiu,hk];exact h t
   ·exact .inr ⟨r,ob,h1,h2,h4,fun t ht=>by unfold srcD;simp only[hiu,hk];exact h3 t ht⟩
  ·cases h
 ·cases h
theorem appendD_loc {key:Nat}{ts:List Nat}{x y:Operand}{r:Operand→D}{d:D}{c:Call}(hc:c.callee=.builtin .append)(hargs:c.args = #[x,y])(h:appendD E key ts (r x) (r y) s=some (d,s'))(hts:c.argTypes.toList=ts)(hcl:clsOf E (.call c) r≤4) :
  ∃ RK w,Loc E T key (.call c) r s d s' (clsOf E (.call c) r) (touch (.call c) r) RK w:=by
 have hev:∀ t:St,evalOp E T key (.call c) r t=appendD E key ts (r x) (r y) t:=fun t=>by simp[evalOp,hc,hargs,builtinD,hts]
 have htk:touch (.call c) r=(lstK (r y),gsK (r x)):=by simp[touch,hargs]
 have hcs:clsOf E (.call c) r=if gtS E ts&&isGs (r x) then 4 else 3:=by
  simp only[clsOf,hc,hargs,List.map_cons,List.map_nil,hts]
 have hmy:y∈(Op.call c).operands.toList:=by simp[Op.operands,Call.operands,hc,hargs]
 have hmx:x∈(Op.call c).operands.toList:=by simp[Op.operands,Call.operands,hc,hargs]
 have hc3:(∀ q id off n es,r x≠.v (.c (.gs q id off n es)))→clsOf E (.call c) r=3:=fun hn=>by
  rw[hcs]
  have:isGs (r x)=false:=by
   unfold isGs
   split
   ·rename_i h1;exact absurd h1 (hn _ _ _ _ _)
   ·rfl
  rw[this,Bool.and_false];rfl
 unfold appendD at h
 split at h
 ·rename_i t u
  split at h
  ·rename_i size agg by_ z0 e eq hti
   split at h
   ·rename_i ie hie
    split at h
    ·cases h
    ·rename_i m ys hsrc
     split at h
     ·rename_i hlen
      have src1:∃ R1:List Nat,(∀ t:St,(∀ k∈R1,t.get k=s.get k)→srcD E u t (r y)=some (m,ys))∧(∀ k∈R1,∃ x∈(Op.call c).operands.toList,Ment (r x) k) ∧
        (∀ k∈R1,∃ ob,s.get k=some ob∧ob.isFront=false∧lstK (r y)=some k):=by
       rcases srcD_loc hsrc with h1|⟨q,ob,h1,h2,h3,h4⟩
       ·exact⟨[],fun t _=>h1 t,fun k hk=>(by cases hk),fun k hk=>(by cases hk)⟩
       ·refine⟨[q],fun t ht=>h4 t (ht q (by simp)),fun k hk=>?_,fun k hk=>?_⟩
        ·simp at hk;subst hk;rcases h3 with ⟨a1,a2,a3,h3⟩|⟨a0,a1,a2,a3,h3⟩
         ·exact⟨y,hmy,.inr (.inl ⟨_,_,_,h3⟩)⟩
         ·exact⟨y,hmy,.inr (.inr (.inr (.inl ⟨_,_,_,_,h3⟩)))⟩
        ·simp at hk;subst hk
         refine⟨ob,h1,h2,?_⟩
         rcases h3 with ⟨a1,a2,a3,h3⟩|⟨a0,a1,a2,a3,h3⟩<;>rw[h3]<;>rfl
      by_cases hgx:∃ q id off n es,r x=.v (.c (.gs q id off n es))
      ·-- a slice that is an object of the state
       obtain⟨q,id,off,n,es,hx⟩:=hgx
       have htk':touch (.call c) r=(lstK (r y),some id):=by rw[htk,hx];rfl
       rw[hx] at h
       simp only at h
       have hgt:E.gt t=true:=by
        cases hq:E.gt t with
        |true=>rfl
        |false =>
         exfalso
         rw[hq] at h
         split at h
         ·cases h
         ·split at h
          ·split at h
           ·rename_i hcond;cases hcond.1
           ·split at h
            ·rename_i hcond;cases hcond.1
            ·cases h
          ·cases h
       obtain⟨R1,hR1,hm1,hrk1⟩:∃ R1:List Nat,(∀ t:St,(∀ k∈R1,t.get k=s.get k)→srcD E u t (r y)=some (m,ys))∧(∀ k∈R1,∃ x∈(Op.call c).operands.toList,Ment (r x) k) ∧
         (∀ k∈R1,∃ ob,s.get k=some ob∧ob.isFront=false∧lstK (r y)=some k):=src1
       have nfr:∀ k∈R1,∀ es n tg,s.get k=some (.front es n tg)→False:=fun k hk es n tg hf=>by
        obtain⟨ob,h1,h2,_⟩:=hrk1 k hk
        rw[h1] at hf;cases hf;cases h2
       have hc4:clsOf E (.call c) r=4:=by rw[hcs,hx];simp[gtS,isGs,hgt]
       rw[hc4,htk']
       split at h
       ·rename_i hm
        try rw[if_pos hgt] at h
        cases h
        refine⟨R1,none,rfl,fun t ht=>?_,hm1,fun k hk=>(by obtain⟨ob,h1,h2,h3⟩:=hrk1 k hk;exact .inl ⟨_,h1,h2,.inl h3,by omega⟩),(fun k ob e=>by cases e),(fun k hk es n tg hf=>(nfr k hk _ _ _ hf).elim),fun h0=>by cases h0⟩
        rw[hev];unfold appendD;simp only[hti,hie,hR1 t ht,hlen,if_true,hm,hx,hgt];rfl
       ·rename_i hm
        split at h
        ·rename_i es' q' cs hid
         split at h
         ·rename_i hcond
          cases h
          refine⟨id::R1,some (id,.grow es (n+m) (cs++ys.map .p) false),rfl,fun t ht=>?_,fun k hk=>?_,fun k hk=>?_,fun k ob e=>?_,fun k hk es2 n2 tg2 hf=>?_,fun h0=>by cases h0⟩
          ·rw[hev];unfold appendD
           have hid':t.get id=some (.grow es' q' cs false):=by rw[ht id (by simp)];exact hid
           simp only[hti,hie,hR1 t (fun k hk=>ht k (List.mem_cons_of_mem _ hk)),hlen,if_true,hm,if_false,hx,hid']
           rw[if_pos hcond]
           rfl
          ·rcases List.mem_cons.1 hk with rfl|hk
           ·exact⟨x,hmx,.inr (.inr (.inr (.inl ⟨q,off,n,es,hx⟩)))⟩
           ·exact hm1 k hk
          ·rcases List.mem_cons.1 hk with rfl|hk
           ·exact .inl ⟨_,hid,rfl,.inr rfl,by omega⟩
           ·obtain⟨ob,h1,h2,h3⟩:=hrk1 k hk;exact .inl ⟨_,h1,h2,.inl h3,by omega⟩
          ·cases e;exact .inr (.inr ⟨rfl,rfl,by simp,⟨_,hid,rfl⟩,rfl⟩)
          ·rcases List.mem_cons.1 hk with rfl|hk
           ·rw[hid] at hf;cases hf
           ·exact(nfr k hk _ _ _ hf).elim
         ·rename_i hcond0
          split at h
          ·rename_i hcond
           cases h
           refine⟨id::R1,some (id,.grow es q (setR cs (n*es) (ys.map .p)) false),rfl,fun t ht=>?_,fun k hk=>?_,fun k hk=>?_,fun k ob e=>?_,fun k hk es2 n2 tg2 hf=>?_,fun h0=>by cases h0⟩
           ·rw[hev];unfold appendD
            have hid':t.get id=some (.grow es' q' cs false):=by rw[ht id (by simp)];exact hid
            simp only[hti,hie,hR1 t (fun k hk=>ht k (List.mem_cons_of_mem _ hk)),hlen,if_true,hm,if_false,hx,hid']
            rw[if_neg hcond0,if_pos hcond]
            rfl
           ·rcases List.mem_cons.1 hk with rfl|hk
            ·exact⟨x,hmx,.inr (.inr (.inr (.inl ⟨q,off,n,es,hx⟩)))⟩
            ·exact hm1 k hk
           ·rcases List.mem_cons.1 hk with rfl|hk
            ·exact .inl ⟨_,hid,rfl,.inr rfl,by omega⟩
            ·obtain⟨ob,h1,h2,h3⟩:=hrk1 k hk;exact .inl ⟨_,h1,h2,.inl h3,by omega⟩
           ·cases e;exact .inr (.inr ⟨rfl,rfl,by simp,⟨_,hid,rfl⟩,rfl⟩)
           ·rcases List.mem_cons.1 hk with rfl|hk
            ·rw[hid] at hf;cases hf
            ·exact(nfr k hk _ _ _ hf).elim
          ·cases h
        ·cases h
      ·have hnx:∀ q id off n es,r x≠.v (.c (.gs q id off n es)):=fun q id off n es hx=>hgx ⟨q,id,off,n,es,hx⟩
       rw[hc3 hnx]
       obtain⟨R1,hR1,hm1,hrk1'⟩:∃ R1:List Nat,(∀ t:St,(∀ k∈R1,t.get k=s.get k)→srcD E u t (r y)=some (m,ys))∧(∀ k∈R1,∃ x∈(Op.call c).operands.toList,Ment (r x) k) ∧
         (∀ k∈R1,∃ ob,s.get k=some ob∧ob.isFront=false∧lstK (r y)=some k):=src1
       have hrk1:∀ k∈R1,∃ ob,s.get k=some ob∧ob.isFront=false∧((touch (.call c) r).1=some k∨(touch (.call c) r).2=some k):=fun k hk=>by
        obtain⟨ob,h1,h2,h3⟩:=hrk1' k hk
        exact⟨ob,h1,h2,.inl (by rw[htk];exact h3)⟩
       have nfr:∀ k∈R1,∀ es n tg,s.get k=some (.front es n tg)→False:=fun k hk es n tg hf=>by
        obtain⟨ob,h1,h2,_⟩:=hrk1 k hk
        rw[h1] at hf;cases hf;cases h2
       have fresh:∀ {ob:Ob},s'=s.put key ob→(∀ t:St,(∀ k∈R1,t.get k=s.get k)→evalOp E T key (.call c) r t=some (d,t.put key ob))→∃ RK w,Loc E T key (.call c) r s d s' 3 (touch (.call c) r) RK w:=fun {ob} hs hg =>
        ⟨R1,some (key,ob),hs,hg,hm1,fun k hk=>(by obtain⟨ob,h1,h2,h3⟩:=hrk1 k hk;exact .inl ⟨_,h1,h2,h3,by omega⟩),(fun k ob e=>by cases e;exact .inl ⟨rfl,by omega⟩),(fun k hk es n tg hf=>(nfr k hk _ _ _ hf).elim),fun h0=>by cases h0⟩
       split at h
       ·rename_i hm
        refine⟨R1,none,?_,fun t ht=>?_,hm1,fun k hk=>?_,(fun k ob e=>by cases e),(fun k hk es n tg hf=>(nfr k hk _ _ _ hf).elim),fun h0=>by cases h0⟩
        ·split at h<;>first | (cases h;rfl) | (cases h;done) | (rename_i hx;exact absurd hx (hnx _ _ _ _ _))
        ·rw[hev];unfold appendD;simp only[hti,hie,hR1 t ht,hlen,if_true,hm]
         split at h<;>first | (cases h;rfl) | (cases h;done) | (rename_i hx;exact absurd hx (hnx _ _ _ _ _))
        ·obtain⟨ob,h1,h2,h3⟩:=hrk1 k hk;exact .inl ⟨_,h1,h2,h3,by omega⟩
       ·rename_i hm
        split at h
        ·rename_i hx
         split at h
         ·rename_i hcond
          split at h
          ·rename_i hgt
           cases h;exact fresh rfl fun t ht=>by rw[hev];unfold appendD;simp only[hti,hie,hR1 t ht,hlen,if_true,hm,if_false,hx,hcond,hgt];rfl
          ·rename_i hgt
           cases h;exact fresh rfl fun t ht=>by rw[hev];unfold appendD;simp only[hti,hie,hR1 t ht,hlen,if_true,hm,if_false,hx,hcond,hgt];rfl
         ·cases h
        ·rename_i hx
         exact absurd hx (hnx _ _ _ _ _)
        ·rename_i hx
         split at h
         ·rename_i hgt
          split at h
          ·rename_i hcond
           cases h;exact fresh rfl fun t ht=>by rw[hev];unfold appendD;simp only[hti,hie,hR1 t ht,hlen,if_true,hm,if_false,hx,hcond,hgt];rfl
          ·cases h
         ·rename_i hgt
          split at h
          ·rename_i hcond
           cases h;exact fresh rfl fun t ht=>by rw[hev];unfold appendD;simp only[hti,hie,hR1 t ht,hlen,if_true,hm,if_false,hx,hcond,hgt];rfl
          ·cases h
        ·rename_i n cs id hx
         split at h
         ·rename_i es n' tg hid
          split at h
          ·rename_i hcond
           cases h
           refine⟨id::R1,some (id,.front es (n+m) (if tg=e then e else 0)),rfl,fun t ht=>?_,fun k hk=>?_,fun k hk=>?_,fun k ob e=>?_,fun k hk es2 n2 tg2 hf=>?_,fun h0=>by cases h0⟩
           ·rw[hev];unfold appendD
            have hid':t.get id=some (.front es n' tg):=by rw[ht id (by simp)];exact hid
            simp only[hti,hie,hR1 t (fun k hk=>ht k (List.mem_cons_of_mem _ hk)),hlen,if_true,hm,if_false,hx,hid',hcond]
            rfl
           ·rcases List.mem_cons.1 hk with rfl|hk
            ·exact⟨x,hmx,.inr (.inr (.inl ⟨n,cs,hx⟩))⟩
            ·exact hm1 k hk
           ·rcases List.mem_cons.1 hk with rfl|hk
            ·exact .inr ⟨es,n,tg,by rw[hid,hcond.1],rfl,cs,x,hmx,hx⟩
            ·obtain⟨ob,h1,h2,h3⟩:=hrk1 k hk;exact .inl ⟨_,h1,h2,h3,by omega⟩
           ·cases e;exact .inr (.inl ⟨rfl,by simp,es,n,n+m,tg,_,by rw[hid,hcond.1],rfl,by omega⟩)
           ·rcases List.mem_cons.1 hk with rfl|hk
            ·exact⟨_,rfl⟩
            ·exact(nfr k hk _ _ _ hf).elim
          ·cases h
         ·cases h
        ·cases h
     ·cases h
   ·cases h
  ·cases h
 ·cases h
theorem vs_plain:∀ {ds:List D}{vs:List V},vs? ds=some vs→ds.all plainD=true→∀ v∈vs,plainV v=true
 |[],vs,h,_,v,hv=>by simp only[vs?] at h;cases h;cases hv
 |d::r,vs,h,hp,v,hv=>by
  simp only[vs?] at h;simp only[List.all_cons,Bool.and_eq_true] at hp
  split at h
  ·rename_i c cs hc hcs
   cases h;rcases List.mem_cons.1 hv with rfl|hv
   ·have h1:=hp.1
    unfold D.v? at hc
    split at hc
    ·cases hc;exact h1
    ·cases hc
   ·exact vs_plain hcs hp.2 v hv
  ·cases h
theorem op_local (hT:CallsPlain T E){key:Nat}{o:Op}{r:Operand→D}{d:D}(h:evalOp E T key o r s=some (d,s'))(hc:clsOf E o r≤4):∃ RK w,Loc E T key o r s d s' (clsOf E o r) (touch o r) RK w:=by
 have pure:s'=s→(∀ t:St,evalOp E T key o r t=some (d,t))→∃ RK w,Loc E T key o r s d s' (clsOf E o r) (touch o r) RK w:=fun hs hg=>⟨[],none,Loc.pure hs hg⟩
 have kp:∀ {x:Option D},(∀ t:St,evalOp E T key o r t=keep t x)→∃ RK w,Loc E T key o r s d s' (clsOf E o r) (touch o r) RK w:=fun {x} hx=>by
  rw[hx s] at h
  obtain⟨h1,h2⟩:=keep_go h
  exact pure h1 fun t=>by rw[hx t];exact h2 t
 cases o with
 |move x=>simp only[evalOp] at h;cases h;exact pure rfl fun t=>rfl
 |assign x=>simp only[evalOp] at h;cases h;exact pure rfl fun t=>rfl
 |pick c a b =>
  simp only[evalOp] at h
  split at h
  ·rename_i b' hb;cases h;exact pure rfl fun t=>by simp only[evalOp,hb]
  ·cases h
 |alloc ty =>
  simp only[evalOp] at h
  split at h
  ·rename_i size agg by_ z kn eq hti;cases h;exact⟨_,_,Loc.fresh rfl (by simp[clsOf]) fun t=>by simp only[evalOp,hti]⟩
  ·cases h
 |box ty x =>
  simp only[evalOp] at h
  split at h
  ·rename_i v hv;cases h;exact⟨_,_,Loc.fresh rfl (by simp[clsOf]) fun t=>by simp only[evalOp,hv]⟩
  ·cases h
 |build ty ps=>exact kp (x:=buildD E ty (ps.toList.map fun(i,x)=>(i,r x))) fun t=>rfl
 |buildSlice ty n ps =>
  simp only[evalOp] at h
  have h':=h
  unfold buildSliceD at h
  split at h
  ·rename_i size agg by_ z0 e eq hti
   split at h
   ·rename_i sz ag2 by2 z kn2 eq2 hie
    split at h
    ·cases h
    ·rename_i hcond
     split at h
     ·rename_i cs hcs
      split at h
      ·rename_i hgt
       cases h
       refine⟨_,_,Loc.fresh rfl (by simp[clsOf]) fun t=>?_⟩
       simp only[evalOp,buildSliceD,hti,hie,if_neg hcond,hcs,if_pos hgt]
      ·rename_i hgt
       split at h
       ·rename_i qs hqs
        cases h
        refine⟨_,_,Loc.fresh rfl (by simp[clsOf]) fun t=>?_⟩
        simp only[evalOp,buildSliceD,hti,hie,if_neg hcond,hcs,hqs,if_neg hgt]
       ·cases h
     ·cases h
   ·cases h
  ·cases h
 |load ty a =>
  simp only[evalOp] at h
  split at h
  ·rename_i i cs hti hcs
   split at h
   ·rename_i v hv
    cases h;unfold cellsAt at hcs
    split at hcs
    ·rename_i k off hka
     split at hcs
     ·rename_i os fz ho
      refine⟨[k],none,rfl,fun t ht=>?_,fun k' hk'=>?_,fun k' hk'=>?_,(fun k ob e=>by cases e),(fun k' hk' es n tg hf=>by simp at hk';subst hk';rw[ho] at hf;cases hf),fun h0=>by simp[clsOf] at h0⟩
      ·have:t.get k=some (.cells os fz):=by rw[ht k (by simp)];exact ho
       simp only[evalOp,hti,cellsAt,hka,this,hcs,hv]
       rfl
      ·simp at hk';subst hk';exact⟨a,by simp[Op.operands],.inl ⟨off,hka⟩⟩
      ·simp at hk';subst hk';exact .inl ⟨_,ho,rfl,by simp[touch,addrK,hka],by simp[clsOf]⟩
     ·rename_i u os ho
      refine⟨[k],none,rfl,fun t ht=>?_,fun k' hk'=>?_,fun k' hk'=>?_,(fun k ob e=>by cases e),(fun k' hk' es n tg hf=>by simp at hk';subst hk';rw[ho] at hf;cases hf),fun h0=>by simp[clsOf] at h0⟩
      ·have:t.get k=some (.tc u os):=by rw[ht k (by simp)];exact ho
       simp only[evalOp,hti,cellsAt,hka,this,hcs,hv]
       rfl
      ·simp at hk';subst hk';exact⟨a,by simp[Op.operands],.inl ⟨off,hka⟩⟩
      ·simp at hk';subst hk';exact .inl ⟨_,ho,rfl,by simp[touch,addrK,hka],by simp[clsOf]⟩
     ·cases hcs
    ·rename_i cs' off hka
     exact pure rfl fun t=>by simp only[evalOp,hti,cellsAt,hka,hcs,hv]
    ·rename_i q k off hka
     split at hcs
     ·rename_i es q' os fz ho
      refine⟨[k],none,rfl,fun t ht=>?_,fun k' hk'=>?_,fun k' hk'=>?_,(fun k ob e=>by cases e),(fun k' hk' es n tg hf=>by simp at hk';subst hk';rw[ho] at hf;cases hf),fun h0=>by simp[clsOf] at h0⟩
      ·have:t.get k=some (.grow es q' os fz):=by rw[ht k (by simp)];exact ho
       simp only[evalOp,hti,cellsAt,hka,this,hcs,hv]
       rfl
      ·simp at hk';subst hk';exact⟨a,by simp[Op.operands],.inr (.inr (.inr (.inr ⟨q,off,hka⟩)))⟩
      ·simp at hk';subst hk';exact .inl ⟨_,ho,rfl,by simp[touch,addrK,hka],by simp[clsOf]⟩
     ·cases hcs
    ·cases hcs
   ·cases h
  ·cases h
 |store ty a x =>
  simp only[evalOp] at h
  split at h
  ·rename_i k off v i hka hv hti
   split at h
   ·rename_i cs hget
    split at h
    ·rename_i hcond
     cases h
     refine⟨[k],some (k,.cells (setR cs off (cellsV v)) false),rfl,fun t ht=>?_,fun k' hk'=>?_,fun k' hk'=>?_,(fun k' ob e=>?_),(fun k' hk' es n tg hf=>by simp at hk';subst hk';rw[hget] at hf;cases hf),fun h0=>by simp[clsOf] at h0⟩
     ·have:t.get k=some (.cells cs false):=by rw[ht k (by simp)];exact hget
      simp only[evalOp,hka,hv,hti,this,if_pos hcond]
      rfl
     ·simp at hk';subst hk';exact⟨a,by simp[Op.operands],.inl ⟨off,hka⟩⟩
     ·simp at hk';subst hk';exact .inl ⟨_,hget,rfl,by simp[touch,addrK,hka],by simp[clsOf]⟩
     ·cases e;exact .inr (.inr ⟨rfl,by simp[touch,addrK,hka],by simp,⟨_,hget,rfl⟩,rfl⟩)
    ·cases h
   ·rename_i u cs hget
    split at h
    ·rename_i hcond
     cases h
     refine⟨[k],some (k,.tc u (setR cs off (cellsV v))),rfl,fun t ht=>?_,fun k' hk'=>?_,fun k' hk'=>?_,(fun k' ob e=>?_),(fun k' hk' es n tg hf=>by simp at hk';subst hk';rw[hget] at hf;cases hf),fun h0=>by simp[clsOf] at h0⟩
     ·have:t.get k=some (.tc u cs):=by rw[ht k (by simp)];exact hget
      simp only[evalOp,hka,hv,hti,this,if_pos hcond]
      rfl
     ·simp at hk';subst hk';exact⟨a,by simp[Op.operands],.inl ⟨off,hka⟩⟩
     ·simp at hk';subst hk';exact .inl ⟨_,hget,rfl,by simp[touch,addrK,hka],by simp[clsOf]⟩
     ·cases e;exact .inr (.inr ⟨rfl,by simp[touch,addrK,hka],by simp,⟨_,hget,rfl⟩,rfl⟩)
    ·cases h
   ·cases h
  ·rename_i q k off v i hka hv hti
   split at h
   ·rename_i es q' cs hget
    split at h
    ·rename_i hcond
     cases h
     refine⟨[k],some (k,.grow es q' (setR cs off (cellsV v)) false),rfl,fun t ht=>?_,fun k' hk'=>?_,fun k' hk'=>?_,(fun k' ob e=>?_),(fun k' hk' es n tg hf=>by simp at hk';subst hk';rw[hget] at hf;cases hf),fun h0=>by simp[clsOf] at h0⟩
     ·have:t.get k=some (.grow es q' cs false):=by rw[ht k (by simp)];exact hget
      simp only[evalOp,hka,hv,hti,this,if_pos hcond]
      rfl
     ·simp at hk';subst hk';exact⟨a,by simp[Op.operands],.inr (.inr (.inr (.inr ⟨q,off,hka⟩)))⟩
     ·simp at hk';subst hk';exact .inl ⟨_,hget,rfl,by simp[touch,addrK,hka],by simp[clsOf]⟩
     ·cases e;exact .inr (.inr ⟨rfl,by simp[touch,addrK,hka],by simp,⟨_,hget,rfl⟩,rfl⟩)
    ·cases h
   ·cases h
  ·cases h
 |nilCheck x =>
  simp only[evalOp] at h
  split at h
  ·rename_i k off hx;cases h;exact pure rfl fun t=>by simp only[evalOp,hx]
  ·rename_i k off hx;cases h;exact pure rfl fun t=>by simp only[evalOp,hx]
  ·rename_i q k off hx;cases h;exact pure rfl fun t=>by simp only[evalOp,hx]
  ·cases h
 |binOp op ty x y yt=>exact kp (x:=binD E op ty (r x) (r y)) fun t=>rfl
 |unOp op ty x=>exact kp (x:=unD op (r x)) fun t=>rfl
 |convert a b x =>
  simp only[evalOp] at h
  have h':=h
  unfold convD at h
  split at h
  ·rename_i ia ib hia hib
   split at h
   ·rename_i k1 n hkb hx
    cases h;exact pure rfl fun t=>by simp only[evalOp,convD,hia,hib,hkb,hx]
   ·rename_i tt hka hkb hx
    cases h;exact pure rfl fun t=>by simp only[evalOp,convD,hia,hib,hka,hkb,hx]
   ·rename_i e hka hkb
    split at h
    ·rename_i sz ag by_ z eq hie
     split at h
     ·rename_i n cs hl
      split at h
      ·rename_i tt htt
       split at h
       ·rename_i hlen
        cases h;rcases listOf_loc hl with hl|⟨q,ob,h1,h2,h5,h3⟩
        ·exact pure rfl fun t=>by simp only[evalOp,convD,hia,hib,hka,hkb,hie,hl t,htt,hlen,if_true]
        ·have hcl:clsOf E (.convert a b x) r=1:=by simp[clsOf,hib,hkb]
         have hmq:Ment (r x) q∧(touch (.convert a b x) r).1=some q:=by
          rcases h5 with ⟨a1,a2,a3,h5⟩|⟨a0,a1,a2,a3,h5⟩
          ·exact⟨.inr (.inl ⟨_,_,_,h5⟩),by simp[touch,lstK,h5]⟩
          ·exact⟨.inr (.inr (.inr (.inl ⟨_,_,_,_,h5⟩))),by simp[touch,lstK,h5]⟩
         refine⟨[q],none,rfl,fun t ht=>?_,fun k' hk'=>?_,fun k' hk'=>?_,(fun k ob e=>by cases e),(fun k' hk' es n tg hf=>by simp at hk';subst hk';rw[h1] at hf;cases hf;cases h2),fun h0=>by omega⟩
         ·simp only[evalOp,convD,hia,hib,hka,hkb,hie,h3 t (ht q (by simp)),htt,hlen,if_true];rfl
         ·simp at hk';subst hk';exact⟨x,by simp[Op.operands],hmq.1⟩
         ·simp at hk';subst hk';exact .inl ⟨_,h1,h2,.inl hmq.2,by omega⟩
       ·cases h
      ·cases h
     ·cases h
    ·cases h
   ·rename_i e tt hka hkb hx
    split at h
    ·rename_i ag by_ z eq hie
     cases h
     exact⟨_,_,Loc.fresh rfl (by simp[clsOf,hib,hkb,hx]) fun t=>by simp only[evalOp,convD,hia,hib,hka,hkb,hx,hie]⟩
    ·cases h
   ·rename_i hkb hx
    exfalso
    have:clsOf E (.convert a b x) r=5:=by simp[clsOf,hib,hkb,hx]
    omega
   ·cases h
  ·cases h
 |makeFunc f fs cap =>
  simp only[evalOp] at h
  split at h
  ·rename_i a b h1 h2
   split at h
   ·cases h;exact pure rfl fun t=>by simp only[evalOp,h1,h2]
   ·rename_i hne;cases h
    refine pure rfl fun t=>?_;simp only[evalOp,h1,h2]
   ·cases h
  ·cases h
 |makeSlice ty l c =>
  simp only[evalOp] at h;unfold makeSliceD at h
  split at h
  ·rename_i size agg by_ z0 e eq kl l' kc c' hti hl' hc'
   split at h
   ·rename_i sz ag2 by2 z kn2 eq2 hie
    split at h
    ·rename_i hcond
     split at h
     ·rename_i h0
      split at h
      ·rename_i hgt
       cases h
       exact⟨_,_,Loc.fresh rfl (by simp[clsOf]) fun t=>by simp only[evalOp,makeSliceD,hti,hl',hc',hie,if_pos hcond,if_pos h0,if_pos hgt]⟩
      ·rename_i hgt
       cases h
       exact⟨_,_,Loc.fresh rfl (by simp[clsOf]) fun t=>by simp only[evalOp,makeSliceD,hti,hl',hc',hie,if_pos hcond,if_pos h0,if_neg hgt]⟩
     ·rename_i h0
      cases h
      exact⟨_,_,Loc.fresh rfl (by simp[clsOf]) fun t=>by simp only[evalOp,makeSliceD,hti,hl',hc',hie,if_pos hcond,if_neg h0]⟩
    ·cases h
   ·cases h
  ·cases h
 |slice ty x lo hi mx=>exact kp (x:=sliceD E ty (r x) (lo.map r) (hi.map r) (mx.map r)) fun t=>rfl
 |fieldAddr ty x f=>exact kp (x:=fieldAddrD E ty (r x) f) fun t=>rfl
 |field ty x f=>exact kp (x:=fieldD E ty (r x) f) fun t=>rfl
 |indexAddr ty x i=>exact kp (x:=indexAddrD E ty (r x) (r i)) fun t=>rfl
 |index ty x i=>exact kp (x:=indexD E ty (r x) (r i)) fun t=>rfl
 |extract x i =>
  simp only[evalOp] at h
  split at h
  ·rename_i vs hx
   split at h
   ·rename_i v hv;cases h;exact pure rfl fun t=>by simp only[evalOp,hx,hv]
   ·cases h
  ·cases h
 |call c =>
  cases hcc:c.callee with
  |invoke a b=>simp[evalOp,hcc] at h
  |builtin b =>
   have hev:∀ t:St,evalOp E T key (.call c) r t=builtinD E key b c.argTypes.toList (c.args.toList.map r) t:=fun t=>by simp[evalOp,hcc]
   rw[hev] at h
   unfold builtinD at h
   split at h
   ·rename_i x hx
    split at h
    ·rename_i t0 r0 hts
     split at h
     ·rename_i dd hd;cases h;exact pure rfl fun t=>by rw[hev];simp only[builtinD,hx,hts,hd]
     ·cases h
    ·cases h
   ·rename_i x y hx
    obtain⟨u,v,hargs,rfl,rfl⟩:=map2 hx
    exact appendD_loc hcc hargs h rfl hc
   ·rename_i k n r0 hx
    split at h
    ·rename_i dd hd;cases h;exact pure rfl fun t=>by rw[hev];simp only[builtinD,hx,hd]
    ·cases h
   ·rename_i k n r0 hx
    split at h
    ·rename_i dd hd;cases h;exact pure rfl fun t=>by rw[hev];simp only[builtinD,hx,hd]
    ·cases h
   ·simp only[clsOf,hcc] at hc;omega
   ·cases h
  |value f =>
   have hev:∀ t:St,evalOp E T key (.call c) r t=callD T (r f) (c.args.toList.map r) t:=fun t=>by simp[evalOp,hcc]
   have hcl:∃ g,r f=.v (.c (.p (.fnc g)))∧E.opn g=false∧E.xt g=none∧(c.args.toList.map r).all plainD=true:=by
    simp only[clsOf,hcc] at hc
    split at hc
    ·rename_i g hg
     split at hc
     ·rename_i hcond
      simp only[Bool.and_eq_true,Bool.not_eq_true',Option.isNone_iff_eq_none] at hcond
      exact⟨g,hg,hcond.1.1,hcond.1.2,hcond.2⟩
     ·omega
    ·omega
   obtain⟨g,hg,h1,h2,h3⟩:=hcl
   rw[hev] at h
   unfold callD at h
   rw[hg] at h
   cases hvs:vs? (c.args.toList.map r) with
   |none=>rw[hvs] at h;cases h
   |some as =>
    rw[hvs] at h
    obtain⟨h4,h5⟩:=hT.plain g as s d s' h1 h2 (vs_plain hvs h3) h
    exact pure h4 fun t=>by rw[hev];unfold callD;rw[hg,hvs];exact h5 t
 |makeMap _ _=>simp only[clsOf] at hc;omega
 |mapUpdate _ _ _ _=>simp only[clsOf] at hc;omega
 |lookup _ _ _ _=>simp only[clsOf] at hc;omega
 |_=>simp[evalOp] at h
end
end Go.Proofs.YtedcnhbblgmdnaaGreat.Ab
/- An evaluator of the model's code with slices as pure lists: a region whose order is open comes to the same in every order. -/
namespace Go.Proofs.YtedcnhbblgmdnaaGreat.Ab
open Go.RowKit
section
variable {X:Ctx} {G G':Gh} {s s' s1 s2 t:St} {W W':World} {P:Program} {E:Env} {T:CallT} {ops:Array Oper} {base:Nat}
theorem evalOp_congr {key:Nat}{o:Op}{r r':Operand→D}(h:∀ x∈o.operands.toList,r x=r' x) :
  evalOp E T key o r s=evalOp E T key o r' s∧clsOf E o r=clsOf E o r'∧touch o r=touch o r':=by
 have pairs:∀ ps:List (Nat×Operand),(∀ x∈ps.map (·.2),r x=r' x)→(ps.map fun(i,x)=>(i,r x))=(ps.map fun(i,x)=>(i,r' x)):=fun ps hp =>
  List.map_congr_left fun p hm=>by
   obtain⟨i,x⟩:=p
   simp only[hp x (List.mem_map.2 ⟨(i,x),hm,rfl⟩)]
 have many:∀ l:List Operand,(∀ x∈l,r x=r' x)→l.map r=l.map r':=fun l hl=>List.map_congr_left hl
 cases o<;>simp only[Op.operands] at h<;>simp only[evalOp,clsOf,touch]
 case build ty ps=>rw[pairs ps.toList fun x hx=>h x (by simpa using hx)];exact⟨rfl,trivial,trivial⟩
 case buildSlice ty n ps=>rw[pairs ps.toList fun x hx=>h x (by simpa using hx)];exact⟨rfl,trivial,trivial⟩
 case makeFunc f fs cap =>
  rw[many fs.toList fun x hx=>h x (by simp at hx ⊢;exact .inl hx),many cap.toList fun x hx=>h x (by simp at hx ⊢;exact .inr hx)]
  exact⟨rfl,trivial,trivial⟩
 case slice ty x lo hi mx =>
  have hx:=h x (by simp)
  have e1:lo.map r=lo.map r':=by cases lo with
   |none=>rfl
   |some y=>simp[h y (by simp)]
  have e2:hi.map r=hi.map r':=by cases hi with
   |none=>rfl
   |some y=>simp[h y (by simp)]
  have e3:mx.map r=mx.map r':=by cases mx with
   |none=>rfl
   |some y=>simp[h y (by simp)]
  rw[hx,e1,e2,e3];exact⟨rfl,trivial,trivial⟩
 case call c =>
  obtain⟨callee,args,at_⟩:=c
  have ha:args.toList.map r=args.toList.map r':=many _ fun x hx=>h x (by simp[Call.operands];exact .inr (by simpa using hx))
  cases callee with
  |builtin b=>exact⟨by simp only[ha],by cases b<;>first | rfl | simp only[ha],by simp only[ha]⟩
  |value f =>
   have hf:=h f (by simp[Call.operands])
   exact⟨by simp only[ha,hf],by simp only[ha,hf],by simp only[ha]⟩
  |invoke f m=>exact⟨rfl,rfl,by simp only[ha]⟩
 all_goals
  first
   |exact⟨rfl,trivial,trivial⟩
   |(rename_i hint;cases hint<;>exact⟨rfl,trivial,trivial⟩)
   |(simp_all;done)
def Agree (ops:Array Oper)(o:Oper)(e e':List D):Prop:=∀ x∈looks ops o,e.getD x .junk=e'.getD x .junk
theorem Agree.opd {o:Oper}{e e':List D}(h:Agree ops o e e'):∀ x∈o.op.operands.toList,opd e x=opd e' x:=fun x hx=>by
 cases x with
 |tmp t=>exact h t (List.mem_append_left _ (List.mem_filterMap.2 ⟨_,hx,rfl⟩))
 |_=>rfl
theorem Agree.wanted {o:Oper}{e e':List D}(h:Agree ops o e e'):wantedD ops o e=wantedD ops o e':=by
 unfold wantedD;cases hg:o.guard with
 |none=>rfl
 |some jw =>
  obtain⟨j,w⟩:=jw
  simp only;cases ho:ops[j]? with
  |none=>rfl
  |some oj =>
   simp only;cases ht:oj.dst with
   |none=>rfl
   |some t =>
    have:t∈looks ops o:=List.mem_append_right _ (by simp[hg,ho,ht])
    simp only[h t this]
theorem Agree.symm {o:Oper}{e e':List D}(h:Agree ops o e e'):Agree ops o e' e:=fun x hx=>(h x hx).symm
theorem Agree.put {o:Oper}{e:List D}{dst:Option Nat}(d:D)(h:∀ t,dst=some t→t ∉ looks ops o):Agree ops o e (putD e dst d):=fun x hx=>by
 cases dst with
 |none=>rfl
 |some t =>
  have hne:t≠x:=fun e=>h t rfl (e ▸ hx)
  simp[putD,List.getD,List.getElem?_set_ne hne]
theorem Agree.tr {i:Nat}{o:Oper}(ho:ops[i]? = some o){e e':List D}(h:Agree ops o e e'):trOf E ops i e=trOf E ops i e':=by
 unfold trOf
 rw[ho]
 simp only[h.wanted]
 obtain⟨_,h2,h3⟩:=evalOp_congr (E:=E) (T:=fun _ _ _=>none) (key:=0) (s:={ ob:=[],nx:=0 }) h.opd
 rw[h2,h3]
theorem step_congr {i:Nat}{o:Oper}(ho:ops[i]? = some o){e e1:List D}(h:stepOp E T ops base i e s=some (e1,s1)) :
  ∃ d,e1=putD e o.dst d∧∀ e',Agree ops o e e'→stepOp E T ops base i e' s=some (putD e' o.dst d,s1):=by
 unfold stepOp at h;simp only[ho] at h
 split at h
 ·cases h
 ·rename_i hw
  cases h
  refine⟨_,rfl,fun e' he'=>?_⟩
  unfold stepOp;simp only[ho,← he'.wanted,hw]
 ·rename_i hw
  split at h
  ·cases h
  ·rename_i d sx hev
   cases h
   refine⟨d,rfl,fun e' he'=>?_⟩
   unfold stepOp;simp only[ho,← he'.wanted,hw]
   rw[← (evalOp_congr (E:=E) (T:=T) (key:=base+i) (s:=s) he'.opd).1,hev]
structure SLoc (E:Env) (T:CallT) (ops:Array Oper) (base i:Nat) (o:Oper) (e:List D) (s:St) (d:D) (s1:St) (RK:List Nat) (w:Option (Nat×Ob)):Prop where
 res:s1=putO s w
 go:∀ e' (t:St),Agree ops o e e'→(∀ k∈RK,t.get k=s.get k)→stepOp E T ops base i e' t=some (putD e' o.dst d,putO t w)
 ment:∀ k∈RK,∃ x∈o.op.operands.toList,Ment (opd e x) k
 rk:∀ k∈RK,(∃ ob,s.get k=some ob∧ob.isFront=false∧((trOf E ops i e).key.1=some k∨(trOf E ops i e).key.2=some k)∧1≤(trOf E ops i e).cls) ∨
  (∃ es n tg,s.get k=some (.front es n tg)∧(trOf E ops i e).cls=3∧∃ cs,∃ x∈o.op.operands.toList,opd e x=.v (.c (.own n cs k)))
 wk:∀ k ob,w=some (k,ob)→(k=base+i∧2≤(trOf E ops i e).cls)∨((trOf E ops i e).cls=3∧k∈RK∧∃ es n n' tg tg',s.get k=some (.front es n tg)∧ob=.front es n' tg'∧n<n') ∨
  ((trOf E ops i e).cls=4∧(trOf E ops i e).key.2=some k∧k∈RK∧(∃ o,s.get k=some o∧o.isFront=false)∧ob.isFront=false)
 fw:∀ k∈RK,∀ es n tg,s.get k=some (.front es n tg)→∃ ob,w=some (k,ob)
 zero:(trOf E ops i e).cls=0→RK=[]∧w=none
theorem step_local (hT:CallsPlain T E){i:Nat}{o:Oper}(ho:ops[i]? = some o){e e1:List D}(h:stepOp E T ops base i e s=some (e1,s1))(hc:(trOf E ops i e).cls≤4) :
  ∃ d RK w,e1=putD e o.dst d∧SLoc E T ops base i o e s d s1 RK w:=by
 unfold stepOp at h;simp only[ho] at h
 split at h
 ·cases h
 ·rename_i hw
  cases h
  refine⟨_,[],none,rfl,rfl,fun e' t he' _=>?_,(fun k hk=>by cases hk),(fun k hk=>by cases hk),(fun k ob e=>by cases e),(fun k hk=>by cases hk),fun _=>⟨rfl,rfl⟩⟩
  unfold stepOp;simp only[ho,← he'.wanted,hw]
  rfl
 ·rename_i hw
  split at h
  ·cases h
  ·rename_i d sx hev
   cases h
   have htr:trOf E ops i e = { i:=i,cls:=clsOf E o.op (opd e),key:=touch o.op (opd e) }:=by unfold trOf;simp only[ho,hw]
   rw[htr] at hc
   obtain⟨RK,w,hl⟩:=op_local hT hev hc
   refine⟨d,RK,w,rfl,hl.res,fun e' t he' ht=>?_,hl.ment,by rw[htr];exact hl.rk,by rw[htr];exact hl.wk,hl.fw,by rw[htr];exact hl.zero⟩
   unfold stepOp;simp only[ho,← he'.wanted,hw]
   rw[← (evalOp_congr (E:=E) (T:=T) (key:=base+i) (s:=t) he'.opd).1,hl.go t ht]
theorem get_putO_ne {w:Option (Nat×Ob)}{k:Nat}(h:∀ ob,w≠some (k,ob)):(putO s w).get k=s.get k:=by
 cases w with
 |none=>rfl
 |some x =>
  obtain⟨j,ob⟩:=x
  simp only[putO,St.get_put]
  rw[if_neg]
  rintro rfl;exact h ob rfl
theorem putO_comm {w w':Option (Nat×Ob)}(h:∀ k ob ob',w=some (k,ob)→w'≠some (k,ob')):putO (putO s w) w'=putO (putO s w') w:=by
 cases w with
 |none=>rfl
 |some x=>cases w' with
  |none=>rfl
  |some y =>
   obtain⟨k,ob⟩:=x
   obtain⟨j,ob'⟩:=y
   simp only[putO];exact St.put_comm s (fun e=>h k ob ob' rfl (by rw[e])) _ _
theorem putD_comm (e:List D){a b:Option Nat}(h:∀ t,a=some t→b≠some t)(x y:D):putD (putD e a x) b y=putD (putD e b y) a x:=by
 cases a with
 |none=>rfl
 |some s=>cases b with
  |none=>rfl
  |some t =>
   simp only[putD];exact List.set_comm _ _ (fun e=>h s rfl (by rw[e]))
theorem apartD_spec {x y:Oper}(h:apartD ops x y=true):(∀ d,x.dst=some d→d ∉ looks ops y)∧(∀ d,x.dst=some d→y.dst≠some d)∧(∀ d,y.dst=some d→d ∉ looks ops x):=by
 refine⟨fun d hd=>?_,fun d hd=>?_,fun d hd=>?_⟩<;>simp[apartD,hd] at h
 ·exact h.1.1
 ·exact h.1.2
 ·exact h.2
def Wf (o:Oper)(e:List D)(s:St):Prop:=∀ x∈o.op.operands.toList,(∀ k,Ment (opd e x) k→s.has k)∧∀ n cs k,opd e x=.v (.c (.own n cs k))→∀ es m tg,s.get k=some (.front es m tg)→n≤m
theorem swap_ok (hT:CallsPlain T E){i j:Nat}(hij:i≠j){oi oj:Oper}(hoi:ops[i]? = some oi)(hoj:ops[j]? = some oj){e e1 e2:List D}(hA:stepOp E T ops base i e s=some (e1,s1))(hB:stepOp E T ops base j e1 s1=some (e2,s2))
  (hap:apartD ops oi oj=true) (hfree:freeOK (trOf E ops i e) (trOf E ops j e1)=true) (hfi:s.get (base+i)=none) (hfj:s.get (base+j)=none) (hwf:(trOf E ops j e).cls≠0→Wf oj e s) :
  ∃ e1' s1',stepOp E T ops base j e s=some (e1',s1')∧stepOp E T ops base i e1' s1'=some (e2,s2)∧trOf E ops j e=trOf E ops j e1∧trOf E ops i e1'=trOf E ops i e:=by
 obtain⟨ap1,ap2,ap3⟩:=apartD_spec hap
 obtain⟨dA,rfl,cA⟩:=step_congr hoi hA
 obtain⟨dB,rfl,cB⟩:=step_congr hoj hB
 have agB:Agree ops oj e (putD e oi.dst dA):=Agree.put dA ap1
 have agA:∀ d,Agree ops oi e (putD e oj.dst d):=fun d=>Agree.put d ap3
 have htr:trOf E ops j e=trOf E ops j (putD e oi.dst dA):=agB.tr hoj
 have hpc:∀ d,putD (putD e oj.dst d) oi.dst dA=putD (putD e oi.dst dA) oj.dst d:=fun d=>(putD_comm e ap2 dA d).symm
 rw[← htr] at hfree
 by_cases a0:(trOf E ops i e).cls=0
 ·-- the first looks at no memory
  obtain⟨d',RK,w,he',hl⟩:=step_local hT hoi hA (by omega)
  obtain⟨rfl,rfl⟩:=hl.zero a0
  have hs1:s1=s:=hl.res
  subst hs1
  have hB':=cB e agB.symm
  refine⟨_,s2,hB',?_,htr,((agA dB).tr hoi).symm⟩
  have h1:=hl.go (putD e oj.dst dB) s2 (agA dB) (fun k hk=>by cases hk)
  have h2:=hl.go e s1 (fun _ _=>rfl) (fun k hk=>by cases hk)
  rw[hA] at h2
  have hdd:putD e oi.dst dA=putD e oi.dst d':=by
   have:=Option.some.inj h2
   exact congrArg Prod.fst this
  rw[h1]
  have:putD (putD e oj.dst dB) oi.dst d'=putD (putD e oi.dst d') oj.dst dB:=(putD_comm e ap2 d' dB).symm
  rw[this,← hdd]
  rfl
 ·by_cases b0:(trOf E ops j e).cls=0
  ·obtain⟨d',RK,w,he',hl⟩:=step_local hT hoj hB (by rw[← htr];omega)
   obtain⟨rfl,rfl⟩:=hl.zero (by rw[← htr];exact b0)
   have hs2:s2=s1:=hl.res
   subst hs2
   have hB':=hl.go e s agB.symm (fun k hk=>by cases hk)
   refine⟨_,s,hB',?_,htr,((agA d').tr hoi).symm⟩
   rw[cA _ (agA d')]
   rw[he',putD_comm e ap2 dA d']
  ·have h4:(trOf E ops i e).cls≤4∧(trOf E ops j e).cls≤4∧(((trOf E ops i e).cls≤3∧(trOf E ops j e).cls≤3)∨keysOK (trOf E ops i e).key (trOf E ops j e).key=true):=by
    simp only[freeOK,Bool.or_eq_true,Bool.and_eq_true,beq_iff_eq,decide_eq_true_eq,a0,b0,false_or] at hfree;rcases hfree with h|h
    ·exact⟨by omega,by omega,.inl h⟩
    ·exact⟨h.1.1,h.1.2,.inr h.2⟩
   obtain⟨hA4,hB4,hkk⟩:=h4
   obtain⟨dA',RA,wA,heA,lA⟩:=step_local hT hoi hA hA4
   obtain⟨dB',RB,wB,heB,lB⟩:=step_local hT hoj hB (by rw[← htr];exact hB4)
   have hwf:=hwf b0
   have hs1:=lA.res
   subst hs1
   have hasB:∀ k∈RB,s.has k:=fun k hk=>by
    obtain⟨x,hx,hm⟩:=lB.ment k hk
    rw[← agB.opd x hx] at hm
    exact(hwf x hx).1 k hm
   have hasA:∀ k∈RA,s.has k:=fun k hk=>by
    rcases lA.rk k hk with ⟨ob',h,_⟩|⟨es,n,tg,h,_⟩<;>exact⟨_,h⟩
   have neK:∀ {k x:Nat},s.has k→s.get x=none→k≠x:=fun hk hx e=>by subst e;obtain⟨o,ho⟩:=hk;rw[hx] at ho;cases ho
   have keyA:∀ {k:Nat},(trOf E ops i e).key.2=some k→((trOf E ops j (putD e oi.dst dA)).key.1=some k∨(trOf E ops j (putD e oi.dst dA)).key.2=some k)→(trOf E ops i e).cls=4→False:=fun h1 h2 h3=>by
    rw[← htr] at h2
    rcases hkk with hkk|hkk
    ·omega
    ·simp only[keysOK,Bool.and_eq_true] at hkk;rcases h2 with h2|h2
     ·have:=hkk.2.1;rw[h1,h2] at this;simp[apartK] at this
     ·have:=hkk.2.2;rw[h1,h2] at this;simp[apartK] at this
   have keyB:∀ {k:Nat},((trOf E ops i e).key.1=some k∨(trOf E ops i e).key.2=some k)→(trOf E ops j (putD e oi.dst dA)).key.2=some k→(trOf E ops j e).cls=4→False:=fun h1 h2 h3=>by
    rw[← htr] at h2
    rcases hkk with hkk|hkk
    ·omega
    ·simp only[keysOK,Bool.and_eq_true] at hkk;rcases h1 with h1|h1
     ·have:=hkk.1;rw[h1,h2] at this;simp[apartK] at this
     ·have:=hkk.2.2;rw[h1,h2] at this;simp[apartK] at this
   have nAB:∀ k∈RB,∀ ob,wA≠some (k,ob):=fun k hk ob hw=>by
    rcases lA.wk k ob hw with ⟨rfl,_⟩|⟨hc3,hkA,es,n,n',tg,tg',hf,rfl,hlt⟩|⟨hc4,htk,hkA,⟨ob2,hcell,hnfc⟩,hstore⟩
    ·exact neK (hasB _ hk) hfi rfl
    ·have hg:(putO s wA).get k=some (.front es n' tg'):=by rw[hw];exact St.get_put_same _ _ _
     rcases lB.rk k hk with ⟨ob',h,hnf,_⟩|⟨es2,n2,tg2,h,_,cs,x,hx,hox⟩
     ·rw[hg] at h;cases h;cases hnf
     ·rw[hg] at h
      cases h
      rw[← agB.opd x hx] at hox
      have:=(hwf x hx).2 _ _ _ hox _ _ _ hf
      omega
    ·have hg:(putO s wA).get k=some ob:=by rw[hw];exact St.get_put_same _ _ _
     rcases lB.rk k hk with ⟨ob',h,_,htB,_⟩|⟨es2,n2,tg2,h,_,cs',x,hx,hox⟩
     ·exact keyA htk htB hc4
     ·rw[hg] at h
      cases h;cases hstore
   have nBA:∀ k∈RA,∀ ob,wB≠some (k,ob):=fun k hk ob hw=>by
    rcases lB.wk k ob hw with ⟨rfl,_⟩|⟨hc3,hkB,es,n,n',tg,tg',hf,rfl,hlt⟩|⟨hc4,htk,hkB,⟨ob2,hcell,hnfc⟩,_⟩
    ·exact neK (hasA _ hk) hfj rfl
    ·have hsame:=get_putO_ne (s:=s) (nAB k hkB)
     rw[hsame] at hf
     rcases lA.rk k hk with ⟨ob',h,hnf,_⟩|⟨es2,n2,tg2,h,hcA3,cs,x,hx,hox⟩
     ·rw[h] at hf;cases hf;cases hnf
     ·-- both append to one row: the first has turned it
      obtain⟨ob,hwa⟩:=lA.fw k hk _ _ _ h
      exact nAB k hkB ob hwa
    ·have hsame:=get_putO_ne (s:=s) (nAB k hkB)
     rw[hsame] at hcell
     rcases lA.rk k hk with ⟨ob',h,_,htA,_⟩|⟨es2,n2,tg2,h,_⟩
     ·exact keyB htA htk (by rw[htr];exact hc4)
     ·rw[h] at hcell;cases hcell;cases hnfc
   have nW:∀ k ob ob',wA=some (k,ob)→wB≠some (k,ob'):=fun k ob ob' h1 h2=>by
    rcases lB.wk k ob' h2 with ⟨rfl,_⟩|⟨_,hkB,_⟩|⟨_,_,hkB,_⟩
    ·rcases lA.wk _ ob h1 with ⟨hx,_⟩|⟨_,hkA,_⟩|⟨_,_,hkA,_⟩
     ·omega
     ·exact neK (hasA _ hkA) hfj rfl
     ·exact neK (hasA _ hkA) hfj rfl
    ·exact nAB k hkB ob h1
    ·exact nAB k hkB ob h1
   have gB:=lB.go e s agB.symm (fun k hk=>(get_putO_ne (nAB k hk)).symm)
   have gA:=lA.go (putD e oj.dst dB') (putO s wB) (agA dB') (fun k hk=>get_putO_ne (nBA k hk))
   refine⟨_,_,gB,?_,htr,((agA dB').tr hoi).symm⟩
   rw[gA,putO_comm (fun k ob ob' h1 h2=>nW k ob' ob h2 h1),lB.res,heB,heA,putD_comm e ap2 dA' dB']
end
end Go.Proofs.YtedcnhbblgmdnaaGreat.Ab
