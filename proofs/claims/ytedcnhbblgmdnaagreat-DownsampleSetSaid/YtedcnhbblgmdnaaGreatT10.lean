/- A part of the proof. -/
import Derived.Test.YtedcnhbblgmdnaaGreatT9
import Derived.KernelRfl
import Derived.Test.YtedcnhbblgmdnaaGreatProg
set_option maxHeartbeats 8000000
set_option maxRecDepth 10000
set_option linter.unusedSimpArgs false
set_option linter.unusedVariables false
/- An evaluator of the model's code with slices as pure lists: walking loops over iterators, and the library's functions that are told. -/
namespace Go.Proofs.YtedcnhbblgmdnaaGreat.Ab
section
variable {E:Env} {s s':St}
theorem wpCall.xt {g:Nat}{h:List V→St→Option (D×St)}{args:List D}{a:List V}{d:D}{K:D→St→Prop}(hx:E.xt g=some h)(ha:vs? args=some a)(hr:h a s=some (d,s'))(hk:K d s'):wpCall E (.v (.c (.p (.fnc g)))) args s K :=
 ⟨1,d,s',by simp only[callD,ha,runF,hx,hr],hk⟩
def leaveQ (Q:Ex→Fr→Prop)(pend:Option Code)(y:Fr):Prop :=
 match pend with
 |none=>Q .normal y
 |some .ret=>Q .ret y
 |some (.exit i)=>Q (.exit i) y
 |some _=>False
theorem Wc.range {ro:Option Nat}{f:Operand}{ps:Array Nat}{assign body:Code}{x:Fr}{Q:Ex→Fr→Prop}{g:Nat}{cap:List V}{ds:List Nat}{s1:St}{fn:Func}{c:Code}(ht:targetOf (opd x.e f)=some (g,cap))(hen:enterD x.s ro=some (ds,s1))(hf:E.fn g=some fn)(hb:fn.body=some c)
  (h : Wc E none c { e := (V.c (.fn (.yield x.s.nx) [] []) :: cap).map .v ++ List.replicate (fn.ntmps - (V.c (.fn (.yield x.s.nx) [] []) :: cap).length) (.tup []), ds := [], s := s1.put x.s.nx (.loop { st := .ready, pend := none, e := x.e, ps := ps.toList, assign := assign, body := body }) }
   (bodyQ E fn fun _ s3=>∃ pend s4,endLoopD s3 x.s.nx=some (pend,s4)∧leaveQ Q pend { e:=x.e,ds:=ds++x.ds,s:=s4 })):Wc E ro (.rangeFunc f ps assign body) x Q:=by
 obtain⟨n,d,s3,h1,pend,s4,h2,h3⟩:=Ev.body hf hb h
 have hrun:runF E (n+1) (.o g) (V.c (.fn (.yield x.s.nx) [] [])::cap) (s1.put x.s.nx (.loop { st:=.ready,pend:=none,e:=x.e,ps:=ps.toList,assign:=assign,body:=body }))=some (d,s3):=h1
 have ev:∀ ex y,leaveD pend { e:=x.e,ds:=ds++x.ds,s:=s4 }=some (ex,y)→evalC E (runF E (n+1)) (n+1) ro (.rangeFunc f ps assign body) x=some (ex,y):=fun ex y hl=>by
  simp only[evalC,ht,hen,hrun,h2,hl]
 cases pend with
 |none=>exact⟨n+1,_,_,ev _ _ rfl,h3⟩
 |some c =>
  cases c with
  |ret=>exact⟨n+1,_,_,ev _ _ rfl,h3⟩
  |exit i=>exact⟨n+1,_,_,ev _ _ rfl,h3⟩
  |_=>exact h3.elim
def jumpOf:Ex→Option Code
 |.normal=>none
 |.ret=>some .ret
 |.exit i=>some (.exit i)
theorem wpCall.yield {l:Nat}{args:List D}{a:List V}{r:LoopR}{K:D→St→Prop}(ha:vs? args=some a)(hg:s.get l=some (.loop r))(hl:r.ps.length=a.length)
  (h : Wc E (some l) r.assign { e := setAll r.e (r.ps.zip a), ds := [], s := s } fun ex y => ex = .normal ∧ ∃ r1, y.s.get l = some (.loop r1) ∧ r1.st = .ready ∧
   Wc E (some l) r.body { e:=y.e,ds:=[],s:=y.s.put l (.loop { r1 with st:=.busy }) } fun x z=>∃ r2,z.s.get l=some (.loop r2) ∧
    K (P' (.bool (jumpOf x).isNone)) (z.s.put l (.loop { r2 with st:=if (jumpOf x).isNone then .ready else .done,pend:=jumpOf x }))):wpCall E (.v (.c (.fn (.yield l) [] []))) args s K:=by
 obtain⟨n,ex,y,h1,rfl,r1,h2,h3,m,x,z,h4,r2,h5,h6⟩:=h
 have l1:n≤max n m:=Nat.le_max_left _ _
 have l2:m≤max n m:=Nat.le_max_right _ _
 have e1:=evalC_mono (runF_le (E:=E) l1) l1 h1
 have e2:=evalC_mono (runF_le (E:=E) l2) l2 h4
 refine⟨max n m+1,_,_,?_,h6⟩
 simp only[callD,ha,runF,roundD,hg]
 rw[if_neg (by simpa using hl)]
 simp only[e1,h2]
 rw[if_neg (by simp[h3])]
 simp only[e2,h5];cases x<;>rfl
end
def trOK2 (ops:Array Oper):List Tr→Bool
 |[]=>true
 |x::r=>(r.all fun y=>dirEdge ops y.i x.i || (freeOK x y || reach ops 9 y.i x.i))&&trOK2 ops r
theorem trOK_eq (ops:Array Oper):∀ l,trOK ops l=trOK2 ops l
 |[]=>rfl
 |x::r=>by
  rw[trOK,trOK2,trOK_eq ops r]
  congr 2
  funext y
  unfold pairOK hasEdge;cases dirEdge ops y.i x.i<;>cases freeOK x y<;>rfl
attribute [go_sem] makeMapD mapUpdD lookupD mapTy gtS clearD isGs addrK lstK gsK lenD_gs lenD_zc listOf_zc listOf_gs cellsAt_gref kinL kinS wpL kont wpLD kontD clsOf wpLT kontT touch List.reverse_cons List.reverse_nil gD dst1 putD opd getD_set List.length_set List.getD_cons_succ List.getD_cons_zero List.set_cons_succ List.set_cons_zero List.set_nil calD evalOp binD unD intI_add intI_sub intI_mul intI_quo intI_rem intI_and intI_or intI_xor intI_eql intI_neq intI_lss intI_leq intI_gtr intI_geq shiftI_shl shiftI_shr strI keep P' D.bool? D.int? D.c? D.v? D.p? List.cons_append List.nil_append List.replicate List.map_cons List.map_nil if_true if_false decide_true decide_false constD toC List.getElem?_toArray List.getElem?_cons_succ List.getElem?_cons_zero beq_self_eq_true Bool.false_eq_true Bool.not_true Bool.not_false Bool.true_beq Bool.false_beq cellsAt_ref takeV mkV allM lenD_lst lenD_own lenD_mt lenD_nils lenD_str lenK lenS srcD listOf_lst listOf_own listOf_nils minD maxD builtinD sliceD sliceC fieldAddrD fieldD indexD convD stepK_some buildD buildSliceD makeSliceD cs? vs? callD cellsV St.get_put St.nx_put St.get_adv St.nx_adv Nat.add_assoc loI goS Array.toList_map Option.map_some Option.map_none IntKind.bits List.length_cons List.length_nil List.size_toArray ne_eq not_true_eq_false not_false_eq_true or_self or_false false_or or_true true_or and_true true_and and_self and_false false_and gt_iff_lt ge_iff_le Nat.not_lt_zero Nat.zero_le Nat.zero_add Nat.add_zero fillD repl List.append_nil Nat.zero_mul Nat.mul_zero Nat.one_mul Nat.mul_one purS setR List.take_zero List.drop_zero List.take_succ_cons List.drop_succ_cons List.drop_nil List.take_nil Nat.lt_irrefl Nat.le_refl Int.toNat_natCast Bool.true_and Bool.and_true Bool.and_self Bool.and_false Bool.false_and Nat.le_add_left Int.natCast_nonneg reduceIte reduceCtorEq Int.reduceToNat Int.reduceEq Int.reduceNe Int.reduceMul Int.reduceAdd Int.reduceSub Int.reduceNeg Nat.reduceAdd Nat.reduceMul Nat.reduceLeDiff Nat.reduceEqDiff Nat.reduceBEq Int.reduceLT Int.reduceLE Nat.reduceSub Nat.reduceLT Nat.reduceGT
end Go.Proofs.YtedcnhbblgmdnaaGreat.Ab
/- The plain law of flames: a stack of ancestors tells what the parents tell. -/
namespace Go.Proofs.YtedcnhbblgmdnaaGreat.Ab
def topP:List Nat→Int
 |[]=>-1
 |a::_=>a
def Chn (p:Nat→Int):List Nat→Prop
 |[]=>True
 |a::r=>p a=topP r∧topP r<a∧Chn p r
structure Stk (p:Nat→Int) (i:Nat) (S:List Nat):Prop where
 ch:Chn p S
 top:topP S=(i:Int)-1
 sub:∀ a∈S,∀ k,a<k→k<i→(a:Int)≤p k
 all:∀ k,k<i→-1≤p k
def popTo (t:Int):List Nat→Int→Int×List Nat
 |[],z=>(z,[])
 |a::r,z=>if (a:Int)=t then (z,a::r) else popTo t r a
def ancB (t:Int):List Nat→Bool
 |[]=>decide (-1=t)
 |a::r=>if t<(a:Int) then ancB t r else decide ((a:Int)=t)
theorem topP_ge:∀(S:List Nat),-1≤topP S
 |[]=>by simp[topP]
 |a::_=>by simp only[topP];omega
theorem Chn.lt {p:Nat→Int}:∀ {S:List Nat},Chn p S→∀ a∈S,(a:Int)≤topP S
 |[],_,a,h=>by cases h
 |b::r,⟨_,h2,h3⟩,a,h=>by
  rcases List.mem_cons.1 h with rfl|h
  ·simp[topP]
  ·have:=Chn.lt h3 a h
   simp only[topP];omega
theorem popTo_top {t:Int}:∀(S:List Nat) (z:Int),(popTo t S z).2=[]∨topP (popTo t S z).2=t
 |[],_=>.inl rfl
 |a::r,z=>by
  rw[popTo]
  split
  ·rename_i h;exact .inr h
  ·exact popTo_top r a
theorem popTo_mem {t:Int}:∀(S:List Nat) (z:Int),∀ b∈(popTo t S z).2,b∈S
 |[],_,b,h=>by simp[popTo] at h
 |a::r,z,b,h=>by
  rw[popTo] at h
  split at h
  ·exact h
  ·exact List.mem_cons_of_mem _ (popTo_mem r a b h)
theorem popTo_ch {p:Nat→Int}{t:Int}:∀ {S:List Nat} (z:Int),Chn p S→Chn p (popTo t S z).2
 |[],_,_=>trivial
 |a::r,z,h=>by
  rw[popTo]
  split
  ·exact h
  ·exact popTo_ch a h.2.2
theorem ancB_pop {p:Nat→Int}{t:Int}(ht : -1≤t):∀ {S:List Nat} (z:Int),Chn p S→(ancB t S=true ↔ t = -1∨(popTo t S z).2≠[])
 |[],z,_=>by simp[ancB,popTo];omega
 |a::r,z,h=>by
  rw[ancB,popTo]
  by_cases h1:t<(a:Int)
  ·rw[if_pos h1,if_neg (by omega)]
   exact ancB_pop ht a h.2.2
  ·rw[if_neg h1]
   by_cases h2:(a:Int)=t
   ·rw[if_pos h2];simp[h2]
   ·rw[if_neg h2]
    have hne:(popTo t r a).2=[]:=by
     rcases popTo_top (t:=t) r a with h3|h3
     ·exact h3
     ·cases hr:(popTo t r a).2 with
      |nil=>rfl
      |cons b q =>
       exfalso
       rw[hr] at h3
       have hb:=popTo_mem (t:=t) r a b (by rw[hr];exact List.mem_cons_self ..)
       have:=Chn.lt h.2.2 b hb
       have h4:=h.2.1
       simp only[topP] at h3;omega
    rw[hne]
    simp[h2];omega
theorem pop_sib {p:Nat→Int}{i:Nat}{t:Int}:∀ {S:List Nat} (z:Int) (j:Int),Chn p S→(∀ a∈S,∀ k:Nat,a<k→k<i→(a:Int)≤p k)→topP S=j→(popTo t S z).2≠[]∨t = -1→-1≤t →
  (popTo t S z=(z,S)∧topP S=t)∨∃ b:Nat,(popTo t S z).1=b∧b∈S∧p b=t∧t<b∧topP (popTo t S z).2=t∧(∀ k:Nat,b<k→k<i→p k≠t)
 |[],z,j,_,_,_,h,ht=>by
  rcases h with h|h
  ·exact absurd rfl h
  ·exact .inl ⟨rfl,h.symm⟩
 |a::r,z,j,hc,hs,hj,h,ht=>by
  by_cases ha:(a:Int)=t
  ·exact .inl ⟨by rw[popTo,if_pos ha],ha⟩
  ·rw[popTo,if_neg ha] at h ⊢
   refine .inr ?_;rcases pop_sib a (topP r) hc.2.2 (fun b hb=>hs b (List.mem_cons_of_mem _ hb)) rfl h ht with ⟨h1,h2⟩|⟨b,h1,h2,h3,h4,h5,h6⟩
   ·refine⟨a,by rw[h1],List.mem_cons_self ..,by rw[hc.1];exact h2,by have:=hc.2.1;omega,by rw[h1];exact h2,fun k hk hki=>?_⟩
    have:=hs a (List.mem_cons_self ..) k hk hki
    have:=hc.2.1
    omega
   ·exact⟨b,h1,List.mem_cons_of_mem _ h2,h3,h4,h5,h6⟩
theorem Stk.next {p:Nat→Int}{i:Nat}{S:List Nat}(h:Stk p i S){z:Int}(ht : -1≤p i)(hok:(popTo (p i) S z).2≠[]∨p i = -1):Stk p (i+1) (i::(popTo (p i) S z).2):=by
 have htop:topP (popTo (p i) S z).2=p i:=by
  rcases popTo_top (t:=p i) S z with h1|h1
  ·rcases hok with h2|h2
   ·exact absurd h1 h2
   ·rw[h1,h2];rfl
  ·exact h1
 have hlt:p i<i:=by
  rw[← htop]
  cases hr:(popTo (p i) S z).2 with
  |nil=>simp[topP];omega
  |cons b q =>
   have hb:=popTo_mem (t:=p i) S z b (by rw[hr];exact List.mem_cons_self ..)
   have:=Chn.lt h.ch b hb
   have:=h.top
   simp only[topP];omega
 refine⟨⟨htop.symm,by rw[htop];exact hlt,popTo_ch z h.ch⟩,by simp[topP],fun a ha k hk hki=>?_,fun k hk=>?_⟩
 ·rcases List.mem_cons.1 ha with rfl|ha
  ·omega
  ·have haS:=popTo_mem (t:=p i) S z a ha
   by_cases hk2:k<i
   ·exact h.sub a haS k hk hk2
   ·have:k=i:=by omega
    subst this
    rw[← htop]
    exact Chn.lt (popTo_ch z h.ch) a ha
 ·by_cases hk2:k<i
  ·exact h.all k hk2
  ·have:k=i:=by omega
   subst this;exact ht
end Go.Proofs.YtedcnhbblgmdnaaGreat.Ab
/- The plain law of a flame's examination. -/
namespace Go.Proofs.YtedcnhbblgmdnaaGreat.Ab
def btw (n lo hi:Int):Bool:=decide (lo≤n)&&decide (n≤hi)
def nmL (s:List UInt8):Bool:=btw s.length 1 60
structure Frm where
 d:Int
 nm:List UInt8
 w:Int
abbrev Frm.pd (x:Frm):List Pd:=[.int .i64 x.d,.str x.nm,.int .i64 x.w]
def getF (l:List Frm)(i:Nat):Frm:=l[i]?.getD ⟨0,[],0⟩
def leN (a b:List UInt8):Bool:=Op.bytesLess a b || a==b
def nodeE (l:List Frm)(S:List Nat)(i:Nat)(x:Frm):Int :=
 bif !nmL x.nm then 5 else
 bif !btw x.w (-1099511627776) 1099511627776 then 2 else
 bif (popTo x.d S (-1)).2.isEmpty&&(x.d != -1) then 9 else
 bif decide (0≤(popTo x.d S (-1)).1)&&leN x.nm (getF l (popTo x.d S (-1)).1.toNat).nm then 9 else
 bif decide (63<((popTo x.d S (-1)).2.length:Int)) then 30 else
 bif (x.w==0)&&(((i:Int)+1==(l.length:Int)) || ((getF l (i+1)).d !=(i:Int))) then 1 else 0
def flW (l:List Frm):Nat→Nat→List Nat→Int
 |0,_,_=>0
 |k+1,i,S=>bif nodeE l S i (getF l i) != 0 then nodeE l S i (getF l i) else flW l k (i+1) (i::(popTo (getF l i).d S (-1)).2)
def chkF (l:List Frm):Int:=bif decide (2000<(l.length:Int)) then 4 else flW l l.length 0 []
def pdFrm:List Pd→Option (List Frm)
 |[]=>some []
 |.int .i64 d :: .str nm :: .int .i64 w::r=>match pdFrm r with
  |some l=>some (⟨d,nm,w⟩ :: l)
  |none=>none
 |_=>none
theorem pdFrm_of:∀ l:List Frm,pdFrm (l.flatMap Frm.pd)=some l
 |[]=>rfl
 |x::r=>by simp only[List.flatMap_cons,Frm.pd,List.cons_append,List.nil_append,pdFrm,pdFrm_of r]
theorem pdFrm_eq {cs:List Pd}:∀ {l:List Frm},pdFrm cs=some l→cs=l.flatMap Frm.pd:=by
 fun_induction pdFrm cs with
 |case1=>intro l h;cases h;rfl
 |case2 d nm w r l' hl ih=>intro l h;cases h;rw[ih hl];rfl
 |case3 d nm w r hl ih=>intro l h;cases h
 |case4=>intro l h;cases h
def flC:List V→St→Option (D×St)
 |[.c (.p (.lst n cs))],s=>match pdFrm cs with
  |some l=>if l.length=n∧n<2^60 then some (P' (.int .i64 (chkF l)),s) else none
  |none=>none
 |_,_=>none
theorem flC_of (l:List Frm)(hl:l.length<2^60)(s:St):flC [.c (.p (.lst l.length (l.flatMap Frm.pd)))] s=some (P' (.int .i64 (chkF l)),s):=by
 simp only[flC,pdFrm_of]
 rw[if_pos ⟨trivial,hl⟩]
/-! ### what the two ways of asking for an ancestor have in common -/
theorem popTo_none {t:Int}:∀ {S:List Nat} (z:Int),(∀ a∈S,(a:Int)≠t)→(popTo t S z).2=[]
 |[],_,_=>rfl
 |a::r,z,h=>by
  rw[popTo,if_neg (h a (List.mem_cons_self ..))]
  exact popTo_none _ fun b hb=>h b (List.mem_cons_of_mem _ hb)
theorem par_eq {p:Nat→Int}{k:Nat}{S:List Nat}(h:Stk p k S)(t:Int):(decide (t < -1) || (decide ((k:Int)≤t) || !ancB t S))=((popTo t S (-1)).2.isEmpty&&(t != -1)):=by
 by_cases h1:t < -1
 ·rw[decide_eq_true h1,popTo_none _ fun a _=>by omega]
  have:t≠-1:=by omega
  simp[this]
 ·rw[decide_eq_false h1,Bool.false_or]
  by_cases h2:(k:Int)≤t
  ·rw[decide_eq_true h2,popTo_none _ fun a ha=>by have:=Chn.lt h.ch a ha;have:=h.top;omega]
   have:t≠-1:=by omega
   simp[this]
  ·rw[decide_eq_false h2,Bool.false_or]
   have ha:=ancB_pop (t:=t) (by omega) (-1) h.ch
   cases hb:ancB t S with
   |true =>
    rcases ha.1 hb with h3|h3
    ·simp[h3]
    ·cases hp:(popTo t S (-1)).2 with
     |nil=>exact absurd hp h3
     |cons _ _=>simp
   |false =>
    have hn:¬ (t = -1∨(popTo t S (-1)).2≠[]):=fun hh=>by rw[ha.2 hh] at hb;cases hb
    have h4:t≠-1:=fun e=>hn (.inl e)
    have h5:(popTo t S (-1)).2=[]:=Classical.byContradiction fun e=>hn (.inr e)
    simp[h4,h5]
theorem gB:(∀ b:Bool,(b || true)=true)∧(∀ b:Bool,(true || b)=true)∧(∀ b:Bool,(b || false)=b)∧(∀ b:Bool,(false || b)=b)∧(∀ b:Bool,(b&&true)=b)∧(∀ b:Bool,(true&&b)=b)∧(∀ b:Bool,(false&&b)=false)∧(∀ b:Bool,(b&&false)=false)∧(!true)=false∧(!false)=true:=⟨Bool.or_true,Bool.true_or,Bool.or_false,Bool.false_or,Bool.and_true,Bool.true_and,Bool.false_and,Bool.and_false,Bool.not_true,Bool.not_false⟩
theorem gC:((∀ b:Bool,(b || true)=true)∧(∀ b:Bool,(true || b)=true)∧(∀ b:Bool,(b || false)=b)∧(∀ b:Bool,(false || b)=b)∧(∀ b:Bool,(b&&true)=b)∧(∀ b:Bool,(true&&b)=b)∧(∀ b:Bool,(false&&b)=false)∧(∀ b:Bool,(b&&false)=false)∧(!true)=false∧(!false)=true)∧(∀(A:Type) (a b:A),cond true a b=a)∧∀(A:Type) (a b:A),cond false a b=b:=⟨gB,fun _ _ _=>rfl,fun _ _ _=>rfl⟩
theorem gK (b:Bool):b=true∨b=false:=Bool.eq_false_or_eq_true b
theorem gL:(∀(A B:Type)(f:A→B)(a:A)(l:List A),(a::l).map f=f a::l.map f)∧(∀(A B:Type) (f:A→B),[].map f=[])∧(∀(A:Type) (a:A) (l m:List A),(a::l)++m=a::(l++m))∧(∀(A:Type) (l:List A),[]++l=l)∧(∀(A:Type) (a:A) (l:List A),(a::l).length=l.length+1)∧(∀(A:Type),([]:List A).length=0)∧(∀(A:Type) (a:A),List.replicate 0 a=[])∧∀(A:Type) (n:Nat) (a:A),List.replicate (n+1) a=a::List.replicate n a:=⟨fun _ _ _ _ _=>rfl,fun _ _ _=>rfl,fun _ _ _ _=>rfl,fun _ _=>rfl,fun _ _ _=>rfl,fun _=>rfl,fun _ _=>rfl,fun _ _ _=>rfl⟩
theorem gP {E:Env}{f:Nat}{s s':St}{args:List D}{a az:List V}{d:D}{K:D→St→Prop}(h:Pf E f az d)(hk:K d s')(hx:E.xt f=none:=by kernel_rfl)(ho:E.opn f=false:=by kernel_rfl)(ha:vs? args=some a:=by rfl)(hp:purVs s a=some (az,s'):=by rfl):wpCall E (.v (.c (.p (.fnc f)))) args s K:=wpCall.pf h hx ho ha hp hk
def goL (E:Env)(ops:Array Oper):Nat→List Oper→List D→St→Option (List D×St)
  |_,[],e,s=>some (e,s)
  |key,o::r,e,s=>match gD ops o.guard e with
    |none=>none
    |some false=>goL E ops (key+1) r (putD e o.dst (.tup [])) s
    |some true=>match calD (opd e) o.op with
      |some _=>none
      |none=>match evalOp E noT key o.op (opd e) s with
        |none=>none
        |some (d,s')=>goL E ops (key+1) r (putD e o.dst d) s'
theorem goL_ok {E:Env}{ops:Array Oper}{e':List D}{s':St}{K:List D→St→Prop}(hK:K e' s'):∀ {l:List Oper} {key:Nat} {e:List D} {s:St},goL E ops key l e s=some (e',s')→wpL E ops key l e s K
  |[],key,e,s,h=>by
    simp only[goL,Option.some.injEq,Prod.mk.injEq] at h
    obtain⟨rfl,rfl⟩:=h
    rw[wpL];exact hK
  |o::r,key,e,s,h=>by
    rw[goL] at h
    rw[wpL]
    split at h
    · cases h
    · rename_i hg;simp only[hg];exact goL_ok hK h
    · rename_i hg
      simp only[hg]
      split at h
      · cases h
      · rename_i hc
        simp only[hc]
        split at h
        · cases h
        · rename_i d s1 he
          simp only[he,stepK_some,kont];exact goL_ok hK h
theorem gR {E:Env}{ro:Option Nat}{id:Nat}{ops:Array Oper}{x:Fr}{e':List D}{s':St}{Q:Ex→Fr→Prop}(h:goL E ops x.s.nx ops.toList x.e (x.s.adv ops.size)=some (e',s'))(h2:Q .normal { x with e:=e',s:=s' }):Wc E ro (.region id ops false) x Q:=Wc.reg fun K hK=>goL_ok (hK _ _ h2) h
theorem gS {E:Env}{ro:Option Nat}{id:Nat}{ops:Array Oper}{b:Code}{x:Fr}{e':List D}{s':St}{Q:Ex→Fr→Prop}(h:goL E ops x.s.nx ops.toList x.e (x.s.adv ops.size)=some (e',s'))(h2:Wc E ro b { x with e:=e',s:=s' } Q):Wc E ro (.seq (.region id ops false) b) x Q:=Wc.seq (gR h h2)
theorem gY {E:Env}{ro:Option Nat}{id:Nat}{ops:Array Oper}{b:Code}{x:Fr}{e':List D}{s':St}{Q:Ex→Fr→Prop}(h2:Wc E ro b { x with e:=e',s:=s' } Q)(h:goL E ops x.s.nx ops.toList x.e (x.s.adv ops.size)=some (e',s'):=by simp only[go_sem];rfl):Wc E ro (.seq (.region id ops false) b) x Q:=gS h h2
theorem gZ {E:Env}{ro:Option Nat}{id:Nat}{ops:Array Oper}{x:Fr}{e':List D}{s':St}{Q:Ex→Fr→Prop}(h2:Q .normal { x with e:=e',s:=s' })(h:goL E ops x.s.nx ops.toList x.e (x.s.adv ops.size)=some (e',s'):=by simp only[go_sem];rfl):Wc E ro (.region id ops false) x Q:=gR h h2
theorem gM {E:Env}{ro:Option Nat}{id:Nat}{ops:Array Oper}{x:Fr}{Q:Ex→Fr→Prop}(h:∀ K:List D→St→Prop,(∀ e s,Q .normal { x with e:=e,s:=s }→K e s)→wpL E ops x.s.nx ops.toList x.e (x.s.adv ops.size) K):Wc E ro (.region id ops false) x Q:=Wc.reg h
theorem gN {E:Env}{ro:Option Nat}{id:Nat}{ops:Array Oper}{b:Code}{x:Fr}{Q:Ex→Fr→Prop}(h:∀ K:List D→St→Prop,(∀ e s,thenD (fun y=>Wc E ro b y Q) Q .normal { x with e:=e,s:=s }→K e s)→wpL E ops x.s.nx ops.toList x.e (x.s.adv ops.size) K):Wc E ro (.seq (.region id ops false) b) x Q:=Wc.seq (Wc.reg h)
theorem gT {E:Env}{ro:Option Nat}{c:Operand}{a b:Code}{x:Fr}{Q:Ex→Fr→Prop}(hc:(opd x.e c).bool? = some true)(h1:Wc E ro a x Q):Wc E ro (.cond c a b) x Q:=Wc.cond hc (fun _=>h1) fun h=>by cases h
theorem gX {E:Env}{ro:Option Nat}{c:Operand}{a b:Code}{x:Fr}{Q:Ex→Fr→Prop}(hc:(opd x.e c).bool? = some false)(h1:Wc E ro b x Q):Wc E ro (.cond c a b) x Q:=Wc.cond hc (fun h=>by cases h) fun _=>h1
theorem gF {E:Env}{ro:Option Nat}{c:Operand}{a:Code}{x:Fr}{Q:Ex→Fr→Prop}(hc:(opd x.e c).bool? = some false)(h1:Q .normal x):Wc E ro (.cond c a .skip) x Q:=gX hc (Wc.skip h1)
theorem gG {E:Env}{ro:Option Nat}{c:Operand}{a b:Code}{x:Fr}{Q:Ex→Fr→Prop}(h1:Wc E ro a x Q)(hc:(opd x.e c).bool? = some true:=by simp only[go_sem]):Wc E ro (.cond c a b) x Q:=gT hc h1
theorem gH {E:Env}{ro:Option Nat}{c:Operand}{a:Code}{x:Fr}{Q:Ex→Fr→Prop}(h1:Q .normal x)(hc:(opd x.e c).bool? = some false:=by simp only[go_sem]):Wc E ro (.cond c a .skip) x Q:=gF hc h1
theorem gU {E:Env}{fn:Func}{x:Fr}{d:D}{s3:St}(rs:List ResultVar)(vs:List V)(hr:resultsD E x.e x.s rs=some vs:=by simp only[go_sem])(hd:x.ds=[]:=by rfl)(hrs:fn.results.toList=rs:=by rfl)(hp:purD x.s (packD vs)=some (d,s3):=by rfl):bodyQ E fn (fun d0 s2=>∃ s3,purD s2 d0=some (d,s3)) .ret x:=Pf.ret rs vs hd hrs hr hp
theorem gI:(∀(s:St)(k:Nat)(o:Ob),(s.put k o).nx=s.nx)∧∀(s:St) (n:Nat),(s.adv n).nx=s.nx+n:=⟨fun _ _ _=>rfl,fun _ _=>rfl⟩
theorem gm:(∀(A B:Type)(f:A→B)(a:A)(l:List A),(a::l).map f=f a::l.map f)∧∀(A B:Type) (f:A→B),[].map f=[]:=⟨fun _ _ _ _ _=>rfl,fun _ _ _=>rfl⟩
theorem gO {E:Env}{ro:Option Nat}{a b c:Code}{x:Fr}{Q:Ex→Fr→Prop}(h:Wc E ro a x (thenD (fun y=>Wc E ro b y (thenD (fun y=>Wc E ro c y Q) Q)) (thenD (fun y=>Wc E ro c y Q) Q))):Wc E ro (.seq (.seq a b) c) x Q:=Wc.seq (Wc.seq h)
theorem gQ {E:Env}{g:Nat}{fn:Func}{c:Code}{args:List V}{d:D}(h:Wc E none c { e:=args.map .v++List.replicate (fn.ntmps-args.length) (.tup []),ds:=[],s:={ ob:=[],nx:=0 } } (bodyQ E fn fun d0 s2=>∃ s3,purD s2 d0=some (d,s3)))(hf:E.fn g=some fn:=by kernel_rfl)(hb:fn.body=some c:=by rfl):Pf E g args d:=Pf.body hf hb h
theorem wr {E:Env}{ro:Option Nat}{x:Fr}{Q:Ex→Fr→Prop}(h:Q .ret x):Wc E ro .ret x Q:=Wc.ret h
theorem gw {A:Type}{l:List A}{i:Nat}{a:A}(h:l[i]? = some a):a∈l:=List.mem_of_getElem? h
theorem gi {p q:Prop}{_:Decidable p}(h:decide p=true)(k:p→q:=by intros;omega):q:=k (of_decide_eq_true h)
theorem gE {A:Type}{l:List A}{i:Nat}(h:i<l.length):∃ c,l[i]? = some c:=⟨l[i],List.getElem?_eq_getElem h⟩
theorem gV {E:Env}{fn:Func}{x:Fr}{d:D}{s3:St}(rs:List ResultVar)(vs:List V)(hr:resultsD E x.e x.s rs=some vs)(hd:x.ds=[]:=by rfl)(hrs:fn.results.toList=rs:=by rfl)(hp:purD x.s (packD vs)=some (d,s3):=by rfl):bodyQ E fn (fun d0 s2=>∃ s3,purD s2 d0=some (d,s3)) .ret x:=Pf.ret rs vs hd hrs hr hp
theorem kO{P:Prop}(h:P:=by omega):P:=h
theorem kF{P:Prop}(h:P:=by simp only[go_sem,hF]):P:=h
theorem kG{P:Prop}(h:P:=by simp only[go_sem,hF];rfl):P:=h
theorem kL{P:Prop}(h:P:=by simp only[go_sem,hlen]):P:=h
theorem kM{P:Prop}(h:P:=by simp only[go_sem,hlen];rfl):P:=h
theorem kR{P:Prop}(h:P:=by kernel_rfl):P:=h
theorem kS{P:Prop}(h:P:=by simp):P:=h
theorem kD{P:Prop}(h:P:=by decide):P:=h
theorem kA{P:Prop}(h:P:=by simp only[go_sem]):P:=h
theorem kB{P:Prop}(h:P:=by simp only[go_sem,h];rfl):P:=h
theorem kC{P:Prop}(h:P:=by simp only[go_sem,hF,g0];rfl):P:=h
theorem kX{P:Prop}(h:P:=by simp only[go_sem,hF,i64n i (by omega)];rfl):P:=h
theorem kY{P:Prop}(h:P:=by simp only[St.nx_put,St.nx_adv];omega):P:=h
def isOwner (r off:Nat):C→Bool
 |.p .nilp=>true
 |.ref r' off'=>r' == r&&off' == off
 |_=>false
def bldK:List V→St→Option (D×St)
 |[.c (.ref r off)],s=>match s.get r with
  |some (.tc t [.p .nilp,b])=>if t=245∧off=0 then some (.tup [],s.put r (.tc t [.ref r 0,b])) else none
  |some (.tc t [.ref r' o',_])=>if t=245∧off=0∧r'=r∧o'=0 then some (.tup [],s) else none
  |_=>none
 |_,_=>none
def byteS:Pd→Option UInt8
 |.int .u8 n=>if 0≤n∧n<256 then some (UInt8.ofNat n.toNat) else none
 |_=>none
theorem byteS_eq {x:Pd}{b:UInt8}(h:byteS x=some b):x=pdOfByte b:=by
 unfold byteS at h
 split at h
 ·split at h
  ·rename_i n hn
   cases h
   simp[pdOfByte];omega
  ·cases h
 ·cases h
theorem byteS_of (b:UInt8):byteS (pdOfByte b)=some b:=by
 have h:b.toNat<256:=b.toNat_lt
 simp only[byteS,pdOfByte]
 rw[if_pos ⟨by omega,by omega⟩]
 simp
theorem allM_byteS:∀ {b:List Pd}{l:List UInt8},allM byteS b=some l→b=l.map pdOfByte
 |[],l,h=>by cases h;rfl
 |x::r,l,h=>by
  simp only[allM] at h
  split at h
  ·cases h
  ·rename_i y hy
   split at h
   ·cases h
   ·rename_i ys hys
    cases h
    rw[byteS_eq hy,allM_byteS hys];rfl
theorem allM_byteS_of (l:List UInt8):allM byteS (l.map pdOfByte)=some l:=by
 induction l with
 |nil=>rfl
 |cons x r ih=>simp only[List.map_cons,allM,byteS_of,ih]
def bldS:List V→St→Option (D×St)
 |[.c (.ref r off)],s=>match s.get r with
  |some (.tc t [_,.nils])=>if t=245∧off=0 then some (P' (.str []),s) else none
  |some (.tc t [_,.own n b id])=>match s.get id,allM byteS b with
   |some (.front es m u),some l=>if t=245∧off=0∧es=1∧u=5∧m=n∧l.length=n∧0<n∧n≤140737488355328 then some (P' (.str l),s) else none
   |_,_=>none
  |_=>none
 |_,_=>none
def conL:List V→St→Option (D×St)
 |[.c (.p (.str l)),.c (.p (.str [c]))],s=>some (P' (.bool (l.contains c)),s)
 |_,_=>none
def bld1 (n:Nat):Option (List V→St→Option (D×St)):=if n=258 then some bldK else if n=230 then some bldS else if n=137 then some conL else none
def bld (n:Nat):Option (List V→St→Option (D×St)):=if n=145 then some flC else bld1 n
def opens:List Nat:=[218,46,90,24,25,219,55,177,240,279,264,249,228,229,292,293,284,283,282,98,158,160,162,164,166,168,170,172,174,176]
noncomputable def E0:Env:=mkEnv Tryz.prog opens [94,39,117,205,41] bld [245] [29,23]
noncomputable def E1:Env:=mkEnv Tryz.prog opens [94,39,117,205,41] bld1 [245] [29,23,175]
theorem btE (t:Nat):E0.bt t=(t==245):=by
 show List.elem t [245]=_
 unfold List.elem;cases (t==245)<;>rfl
attribute [go_sem] btE
theorem gtE (t:Nat):E0.gt t=if t=29 then true else if t=23 then true else false:=by
 show List.elem t [29,23]=_
 by_cases h1:t=29
 ·subst h1;rfl
 ·by_cases h2:t=23
  ·subst h2;rfl
  ·have b1:(t==29)=false:=by simpa using h1
   have b2:(t==23)=false:=by simpa using h2
   simp only[List.elem,b1,b2,h1,h2,if_false]
attribute [go_sem] gtE
theorem ti3:E0.ti 3=some { size:=1,agg:=false,bytes:=8,zero:=some [C.p (Pd.int IntKind.i64 (0))],kn:=Kn.int IntKind.i64,eq:=false }:=by kernel_rfl
theorem ti4:E0.ti 4=some { size:=1,agg:=false,bytes:=1,zero:=some [C.p (Pd.bool false)],kn:=Kn.bool,eq:=false }:=by kernel_rfl
theorem ti5:E0.ti 5=some { size:=1,agg:=false,bytes:=1,zero:=some [C.p (Pd.int IntKind.u8 (0))],kn:=Kn.int IntKind.u8,eq:=false }:=by kernel_rfl
theorem ti9:E0.ti 9=some { size:=1,agg:=false,bytes:=16,zero:=some [C.p (Pd.str [])],kn:=Kn.str,eq:=false }:=by kernel_rfl
theorem ti22:E0.ti 22=some { size:=1,agg:=false,bytes:=24,zero:=some [C.nils],kn:=Kn.slice 117,eq:=false }:=by kernel_rfl
theorem ti23:E0.ti 23=some { size:=1,agg:=false,bytes:=24,zero:=some [C.nils],kn:=Kn.slice 39,eq:=false }:=by kernel_rfl
theorem ti24:E0.ti 24=some { size:=1,agg:=false,bytes:=24,zero:=some [C.nils],kn:=Kn.slice 152,eq:=false }:=by kernel_rfl
theorem ti26:E0.ti 26=some { size:=4,agg:=true,bytes:=80,zero:=some [C.nils,C.p (Pd.int IntKind.i64 (0)),C.nils,C.nils],kn:=Kn.struct [(0,1,false),(1,1,false),(2,1,false),(3,1,false)],eq:=false }:=by kernel_rfl
theorem ti29:E0.ti 29=some { size:=1,agg:=false,bytes:=24,zero:=some [C.nils],kn:=Kn.slice 41,eq:=false }:=by kernel_rfl
theorem ti31:E0.ti 31=some { size:=4,agg:=true,bytes:=64,zero:=some [C.nils,C.p (Pd.int IntKind.i64 (0)),C.p (Pd.int IntKind.i64 (0)),C.nils],kn:=Kn.struct [(0,1,false),(1,1,false),(2,1,false),(3,1,false)],eq:=false }:=by kernel_rfl
theorem ti32:E0.ti 32=some { size:=1,agg:=false,bytes:=8,zero:=some [C.p (Pd.int IntKind.i64 (0))],kn:=Kn.int IntKind.i64,eq:=false }:=by kernel_rfl
theorem ti39:E0.ti 39=some { size:=2,agg:=true,bytes:=16,zero:=some [C.p (Pd.int IntKind.i64 (0)),C.p (Pd.int IntKind.i64 (0))],kn:=Kn.struct [(0,1,false),(1,1,false)],eq:=true }:=by kernel_rfl
theorem ti41:E0.ti 41=some { size:=10,agg:=true,bytes:=80,zero:=some [C.p (Pd.int IntKind.i64 (0)),C.p (Pd.int IntKind.i64 (0)),C.p (Pd.int IntKind.i64 (0)),C.p (Pd.int IntKind.i64 (0)),C.p (Pd.int IntKind.i64 (0)),C.p (Pd.int IntKind.i64 (0)),C.p (Pd.int IntKind.i64 (0)),C.p (Pd.int IntKind.i64 (0)),C.p (Pd.int IntKind.i64 (0)),C.p (Pd.int IntKind.i64 (0))],kn:=Kn.struct [(0,1,false),(1,1,false),(2,1,false),(3,1,false),(4,1,false),(5,1,false),(6,1,false),(7,1,false),(8,1,false),(9,1,false)],eq:=true }:=by kernel_rfl
theorem ti46:E0.ti 46=some { size:=1,agg:=false,bytes:=8,zero:=some [C.p Pd.nilf],kn:=Kn.other,eq:=false }:=by kernel_rfl
theorem ti52:E0.ti 52=some { size:=1,agg:=false,bytes:=24,zero:=some [C.nils],kn:=Kn.slice 26,eq:=false }:=by kernel_rfl
theorem ti53:E0.ti 53=some { size:=1,agg:=false,bytes:=24,zero:=some [C.nils],kn:=Kn.slice 121,eq:=false }:=by kernel_rfl
theorem ti54:E0.ti 54=some { size:=1,agg:=false,bytes:=24,zero:=some [C.nils],kn:=Kn.slice 128,eq:=false }:=by kernel_rfl
theorem ti55:E0.ti 55=some { size:=1,agg:=false,bytes:=24,zero:=some [C.nils],kn:=Kn.slice 106,eq:=false }:=by kernel_rfl
theorem ti56:E0.ti 56=some { size:=1,agg:=false,bytes:=24,zero:=some [C.nils],kn:=Kn.slice 139,eq:=false }:=by kernel_rfl
theorem ti58:E0.ti 58=some { size:=5,agg:=true,bytes:=120,zero:=some [C.nils,C.nils,C.nils,C.nils,C.nils],kn:=Kn.struct [(0,1,false),(1,1,false),(2,1,false),(3,1,false),(4,1,false)],eq:=false }:=by kernel_rfl
theorem ti60:E0.ti 60=some { size:=1,agg:=false,bytes:=24,zero:=some [C.nils],kn:=Kn.slice 31,eq:=false }:=by kernel_rfl
theorem ti62:E0.ti 62=some { size:=3,agg:=true,bytes:=40,zero:=some [C.p (Pd.int IntKind.i64 (0)),C.p (Pd.int IntKind.i64 (0)),C.nils],kn:=Kn.struct [(0,1,false),(1,1,false),(2,1,false)],eq:=false }:=by kernel_rfl
theorem ti65:E0.ti 65=some { size:=1,agg:=false,bytes:=24,zero:=some [C.nils],kn:=Kn.slice 96,eq:=false }:=by kernel_rfl
theorem ti67:E0.ti 67=some { size:=4,agg:=true,bytes:=48,zero:=some [C.p (Pd.int IntKind.i64 (0)),C.p (Pd.int IntKind.i64 (0)),C.p (Pd.int IntKind.i64 (0)),C.nils],kn:=Kn.struct [(0,1,false),(1,1,false),(2,1,false),(3,1,false)],eq:=false }:=by kernel_rfl
theorem ti87:E0.ti 87=some { size:=10,agg:=true,bytes:=80,zero:=some [C.p (Pd.int IntKind.i64 (0)),C.p (Pd.int IntKind.i64 (0)),C.p (Pd.int IntKind.i64 (0)),C.p (Pd.int IntKind.i64 (0)),C.p (Pd.int IntKind.i64 (0)),C.p (Pd.int IntKind.i64 (0)),C.p (Pd.int IntKind.i64 (0)),C.p (Pd.int IntKind.i64 (0)),C.p (Pd.int IntKind.i64 (0)),C.p (Pd.int IntKind.i64 (0))],kn:=Kn.struct [(0,10,true)],eq:=false }:=by kernel_rfl
theorem ti91:E0.ti 91=some { size:=1,agg:=false,bytes:=4,zero:=some [C.p (Pd.int IntKind.u32 (0))],kn:=Kn.int IntKind.u32,eq:=false }:=by kernel_rfl
theorem ti92:E0.ti 92=some { size:=8,agg:=true,bytes:=32,zero:=some [C.p (Pd.int IntKind.u32 (0)),C.p (Pd.int IntKind.u32 (0)),C.p (Pd.int IntKind.u32 (0)),C.p (Pd.int IntKind.u32 (0)),C.p (Pd.int IntKind.u32 (0)),C.p (Pd.int IntKind.u32 (0)),C.p (Pd.int IntKind.u32 (0)),C.p (Pd.int IntKind.u32 (0))],kn:=Kn.array 8 91,eq:=false }:=by kernel_rfl
theorem ti94:E0.ti 94=some { size:=13,agg:=true,bytes:=72,zero:=some [C.p (Pd.int IntKind.i64 (0)),C.p (Pd.int IntKind.i64 (0)),C.p (Pd.int IntKind.i64 (0)),C.p (Pd.int IntKind.i64 (0)),C.p (Pd.int IntKind.i64 (0)),C.p (Pd.int IntKind.u32 (0)),C.p (Pd.int IntKind.u32 (0)),C.p (Pd.int IntKind.u32 (0)),C.p (Pd.int IntKind.u32 (0)),C.p (Pd.int IntKind.u32 (0)),C.p (Pd.int IntKind.u32 (0)),C.p (Pd.int IntKind.u32 (0)),C.p (Pd.int IntKind.u32 (0))],kn:=Kn.struct [(0,1,false),(1,1,false),(2,1,false),(3,1,false),(4,1,false),(5,8,true)],eq:=true }:=by kernel_rfl
theorem ti96:E0.ti 96=some { size:=16,agg:=true,bytes:=120,zero:=some [C.p (Pd.int IntKind.i64 (0)),C.nils,C.p (Pd.int IntKind.i64 (0)),C.p (Pd.int IntKind.i64 (0)),C.p (Pd.int IntKind.i64 (0)),C.p (Pd.int IntKind.i64 (0)),C.p (Pd.int IntKind.i64 (0)),C.p (Pd.int IntKind.u32 (0)),C.p (Pd.int IntKind.u32 (0)),C.p (Pd.int IntKind.u32 (0)),C.p (Pd.int IntKind.u32 (0)),C.p (Pd.int IntKind.u32 (0)),C.p (Pd.int IntKind.u32 (0)),C.p (Pd.int IntKind.u32 (0)),C.p (Pd.int IntKind.u32 (0)),C.p (Pd.str [])],kn:=Kn.struct [(0,1,false),(1,1,false),(2,13,true),(15,1,false)],eq:=false }:=by kernel_rfl
theorem ti104:E0.ti 104=some { size:=1,agg:=false,bytes:=24,zero:=some [C.nils],kn:=Kn.slice 170,eq:=false }:=by kernel_rfl
theorem ti106:E0.ti 106=some { size:=3,agg:=true,bytes:=56,zero:=some [C.p (Pd.int IntKind.i64 (0)),C.nils,C.nils],kn:=Kn.struct [(0,1,false),(1,1,false),(2,1,false)],eq:=false }:=by kernel_rfl
theorem ti117:E0.ti 117=some { size:=2,agg:=true,bytes:=32,zero:=some [C.p (Pd.str []),C.p (Pd.str [])],kn:=Kn.struct [(0,1,false),(1,1,false)],eq:=true }:=by kernel_rfl
theorem ti121:E0.ti 121=some { size:=5,agg:=true,bytes:=80,zero:=some [C.p (Pd.int IntKind.i64 (0)),C.nils,C.p (Pd.str []),C.nils,C.p (Pd.int IntKind.i64 (0))],kn:=Kn.struct [(0,1,false),(1,1,false),(2,1,false),(3,1,false),(4,1,false)],eq:=false }:=by kernel_rfl
theorem ti126:E0.ti 126=some { size:=1,agg:=false,bytes:=24,zero:=some [C.nils],kn:=Kn.slice 234,eq:=false }:=by kernel_rfl
theorem ti128:E0.ti 128=some { size:=10,agg:=true,bytes:=128,zero:=some [C.p (Pd.int IntKind.i64 (0)),C.p (Pd.int IntKind.i64 (0)),C.p (Pd.int IntKind.i64 (0)),C.p (Pd.str []),C.p (Pd.str []),C.p (Pd.int IntKind.i64 (0)),C.p (Pd.int IntKind.i64 (0)),C.p (Pd.int IntKind.i64 (0)),C.nils,C.nils],kn:=Kn.struct [(0,1,false),(1,1,false),(2,1,false),(3,1,false),(4,1,false),(5,1,false),(6,1,false),(7,1,false),(8,1,false),(9,1,false)],eq:=false }:=by kernel_rfl
theorem ti139:E0.ti 139=some { size:=5,agg:=true,bytes:=56,zero:=some [C.nils,C.p (Pd.int IntKind.i64 (0)),C.p (Pd.int IntKind.i64 (0)),C.p (Pd.int IntKind.i64 (0)),C.p (Pd.int IntKind.i64 (0))],kn:=Kn.struct [(0,1,false),(1,1,false),(2,1,false),(3,1,false),(4,1,false)],eq:=false }:=by kernel_rfl
theorem ti143:E0.ti 143=some { size:=1,agg:=false,bytes:=8,zero:=some [C.p Pd.nilf],kn:=Kn.other,eq:=false }:=by kernel_rfl
theorem ti148:E0.ti 148=some { size:=1,agg:=false,bytes:=24,zero:=some [C.nils],kn:=Kn.slice 205,eq:=false }:=by kernel_rfl
theorem ti150:E0.ti 150=some { size:=6,agg:=true,bytes:=64,zero:=some [C.p (Pd.int IntKind.i64 (0)),C.p (Pd.int IntKind.i64 (0)),C.p (Pd.int IntKind.i64 (0)),C.p (Pd.int IntKind.i64 (0)),C.p (Pd.int IntKind.i64 (0)),C.nils],kn:=Kn.struct [(0,1,false),(1,1,false),(2,1,false),(3,1,false),(4,1,false),(5,1,false)],eq:=false }:=by kernel_rfl
theorem ti152:E0.ti 152=some { size:=7,agg:=true,bytes:=72,zero:=some [C.p (Pd.int IntKind.i64 (0)),C.p (Pd.int IntKind.i64 (0)),C.p (Pd.int IntKind.i64 (0)),C.p (Pd.int IntKind.i64 (0)),C.p (Pd.int IntKind.i64 (0)),C.p (Pd.int IntKind.i64 (0)),C.nils],kn:=Kn.struct [(0,1,false),(1,6,true)],eq:=false }:=by kernel_rfl
theorem ti155:E0.ti 155=some { size:=1,agg:=false,bytes:=24,zero:=some [C.nils],kn:=Kn.slice 9,eq:=false }:=by kernel_rfl
theorem ti158:E0.ti 158=some { size:=1,agg:=false,bytes:=24,zero:=some [C.nils],kn:=Kn.slice 212,eq:=false }:=by kernel_rfl
theorem ti166:E0.ti 166=some { size:=1,agg:=false,bytes:=8,zero:=some [C.p Pd.nilf],kn:=Kn.other,eq:=false }:=by kernel_rfl
theorem ti170:E0.ti 170=some { size:=3,agg:=true,bytes:=32,zero:=some [C.p (Pd.int IntKind.i64 (0)),C.p (Pd.str []),C.p (Pd.int IntKind.i64 (0))],kn:=Kn.struct [(0,1,false),(1,1,false),(2,1,false)],eq:=false }:=by kernel_rfl
theorem ti175:E0.ti 175=some { size:=1,agg:=false,bytes:=24,zero:=some [C.nils],kn:=Kn.slice 3,eq:=false }:=by kernel_rfl
theorem ti176:E0.ti 176=some { size:=1,agg:=false,bytes:=24,zero:=some [C.nils],kn:=Kn.slice 175,eq:=false }:=by kernel_rfl
theorem ti178:E0.ti 178=some { size:=2,agg:=true,bytes:=24,zero:=some [C.p (Pd.str []),C.p (Pd.int IntKind.i64 (0))],kn:=Kn.struct [(0,1,false),(1,1,false)],eq:=false }:=by kernel_rfl
theorem ti189:E0.ti 189=some { size:=2,agg:=true,bytes:=24,zero:=some [C.p (Pd.str []),C.p (Pd.bool false)],kn:=Kn.struct [(0,1,false),(1,1,false)],eq:=false }:=by kernel_rfl
theorem ti202:E0.ti 202=some { size:=1,agg:=false,bytes:=8,zero:=some [C.p Pd.nilf],kn:=Kn.other,eq:=false }:=by kernel_rfl
theorem ti205:E0.ti 205=some { size:=2,agg:=true,bytes:=16,zero:=some [C.p (Pd.int IntKind.i64 (0)),C.p (Pd.int IntKind.i64 (0))],kn:=Kn.struct [(0,1,false),(1,1,false)],eq:=true }:=by kernel_rfl
theorem ti208:E0.ti 208=some { size:=1,agg:=false,bytes:=8,zero:=some [C.p (Pd.int IntKind.i64 (0))],kn:=Kn.int IntKind.i64,eq:=false }:=by kernel_rfl
theorem ti209:E0.ti 209=some { size:=1,agg:=false,bytes:=8,zero:=some [C.p Pd.nilf],kn:=Kn.other,eq:=false }:=by kernel_rfl
theorem ti212:E0.ti 212=some { size:=3,agg:=true,bytes:=24,zero:=some [C.p (Pd.int IntKind.i64 (0)),C.p Pd.nilf,C.p Pd.nilf],kn:=Kn.struct [(0,1,false),(1,1,false),(2,1,false)],eq:=false }:=by kernel_rfl
theorem ti214:E0.ti 214=some { size:=1,agg:=false,bytes:=24,zero:=some [C.nils],kn:=Kn.slice 5,eq:=false }:=by kernel_rfl
theorem ti216:E0.ti 216=some { size:=1,agg:=false,bytes:=8,zero:=some [C.p (Pd.int IntKind.u64 (0))],kn:=Kn.int IntKind.u64,eq:=false }:=by kernel_rfl
theorem ti232:E0.ti 232=some { size:=1,agg:=false,bytes:=8,zero:=some [C.p (Pd.int IntKind.u64 (0))],kn:=Kn.int IntKind.u64,eq:=false }:=by kernel_rfl
theorem ti234:E0.ti 234=some { size:=2,agg:=true,bytes:=16,zero:=some [C.p (Pd.int IntKind.i64 (0)),C.p (Pd.int IntKind.i64 (0))],kn:=Kn.struct [(0,1,false),(1,1,false)],eq:=false }:=by kernel_rfl
theorem ti238:E0.ti 238=some { size:=1,agg:=false,bytes:=8,zero:=some [C.p Pd.nilf],kn:=Kn.other,eq:=false }:=by kernel_rfl
theorem ti242:E0.ti 242=some { size:=4,agg:=true,bytes:=32,zero:=some [C.p (Pd.int IntKind.i64 (0)),C.p (Pd.int IntKind.i64 (0)),C.p (Pd.int IntKind.i64 (0)),C.p (Pd.int IntKind.i64 (0))],kn:=Kn.array 4 3,eq:=false }:=by kernel_rfl
theorem ti245:E0.ti 245=some { size:=2,agg:=true,bytes:=32,zero:=some [C.p Pd.nilp,C.nils],kn:=Kn.struct [(0,1,false),(1,1,false)],eq:=false }:=by kernel_rfl
theorem ti271:E0.ti 271=some { size:=1,agg:=false,bytes:=8,zero:=some [C.p Pd.nilf],kn:=Kn.other,eq:=false }:=by kernel_rfl
def vb (n:Nat):List UInt8:=if h:n<128 then [UInt8.ofNat n] else UInt8.ofNat (n % 128+128)::vb (n / 128)
theorem vb_lt {n:Nat}(h:n<128):vb n=[UInt8.ofNat n]:=by rw[vb,dif_pos h]
theorem vb_ge {n:Nat}(h:128≤n):vb n=UInt8.ofNat (n % 128+128)::vb (n / 128):=by rw[vb,dif_neg (by omega)]
theorem vb_len:∀(k:Nat){n:Nat},n<128 ^ (k+1)→(vb n).length≤k+1
 |0,n,h=>by rw[vb_lt (by simpa using h)];simp
 |k+1,n,h=>by
  rcases Nat.lt_or_ge n 128 with h1|h1
  ·rw[vb_lt h1];simp
  ·rw[vb_ge h1]
   have:=vb_len k (n:=n / 128) (by rw[Nat.pow_succ] at h;omega)
   simp;omega
theorem vb_len10 {n:Nat}(h:n<2 ^ 64):(vb n).length≤10:=vb_len 9 (Nat.lt_of_lt_of_le h (by decide))
theorem wi64 (n:Int):IntKind.i64.wrap n=(n+9223372036854775808) % 18446744073709551616-9223372036854775808:=IntKind.wrap_i64 n
theorem wu8 (n:Int):IntKind.u8.wrap n=n % 256:=by simp[IntKind.wrap,IntKind.signed,IntKind.bits]
theorem wu64 (n:Int):IntKind.u64.wrap n=n % 18446744073709551616:=by simp[IntKind.wrap,IntKind.signed,IntKind.bits]
theorem s00_oa:OA 0 { ob:=[],nx:=0 } [] []:=⟨fun _ _=>rfl,fun _ h=>(by cases h),List.Pairwise.nil,fun _ h=>(by cases h),fun _ h=>(by cases h),List.Pairwise.nil⟩
theorem pdb (n:Int)(h:0≤n)(h2:n<256):Pd.int .u8 n=pdOfByte (UInt8.ofNat n.toNat):=by
 simp[pdOfByte];omega
attribute [go_sem] goL Int.natCast_zero resultsD ti3 ti4 ti5 ti9 ti22 ti23 ti24 ti26 ti29 ti31 ti32 ti39 ti41 ti46 ti52 ti53 ti54 ti55 ti56 ti58 ti60 ti62 ti65 ti67 ti87 ti91 ti92 ti94 ti96 ti104 ti106 ti117 ti121 ti126 ti128 ti139 ti143 ti148 ti150 ti152 ti155 ti158 ti166 ti170 ti175 ti176 ti178 ti189 ti202 ti205 ti208 ti209 ti212 ti214 ti216 ti232 ti234 ti238 ti242 ti245 ti271
end Go.Proofs.YtedcnhbblgmdnaaGreat.Ab
