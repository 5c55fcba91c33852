/- A part of the proof. -/
import GoSem.Dispatch
import GoSem.Core.Region
import Derived.Laws.World
set_option maxHeartbeats 8000000
set_option maxRecDepth 10000
set_option linter.unusedSimpArgs false
set_option linter.unusedVariables false
/- An evaluator of the model's code with slices as pure lists: the definitions. -/
namespace Go.Proofs.YtedcnhbblgmdnaaGreat.Ab
inductive Pd where
 |int (k:IntKind) (n:Int)
 |bool (b:Bool)
 |str (s:List UInt8)
 |lst (n:Nat) (cs:List Pd)
 |fnc (f:Nat)
 |nilp
 |nili
 |nilf
 deriving Inhabited
inductive C where
 |p (x:Pd)
 |nils
 |own (n:Nat) (cs:List Pd) (id:Nat)
 |mt (r off n es:Nat)
 |ref (r off:Nat)
 |rp (cs:List Pd) (off:Nat)
 |fn (f:Fn) (fs cap:List C)
 |zc
 |gs (m id off n es:Nat)
 |gref (m id off:Nat)
 |mp (r:Nat)
 deriving Inhabited
inductive V where
 |c (x:C)
 |agg (xs:List C)
 deriving Inhabited
inductive D where
 |v (x:V)
 |tup (xs:List V)
 |junk
 deriving Inhabited
structure LoopR where
 st:LoopState
 pend:Option Code
 e:List D
 ps:List Nat
 assign:Code
 body:Code
inductive Ob where
 |cells (cs:List C) (frz:Bool)
 |loop (r:LoopR)
 |defr
 |front (es n tg:Nat)
 |tc (t:Nat) (cs:List C)
 |grow (es n:Nat) (cs:List C) (frz:Bool)
 |mapo (ks:List (List UInt8)) (cs:List C)
 |dead
structure St where
 ob:List (Nat×Ob)
 nx:Nat
def look:List (Nat×Ob)→Nat→Option Ob
 |[],_=>none
 |(j,o)::r,k=>if j=k then some o else look r k
def putL:List (Nat×Ob)→Nat→Ob→List (Nat×Ob)
 |[],k,o=>[(k,o)]
 |(j,x)::r,k,o=>if k<j then (k,o)::(j,x)::r else if j=k then (k,o)::r else (j,x)::putL r k o
def St.get (s:St)(k:Nat):Option Ob:=look s.ob k
def St.put (s:St)(k:Nat)(o:Ob):St:={ s with ob:=putL s.ob k o }
theorem look_putL (l:List (Nat×Ob))(k j:Nat)(o:Ob):look (putL l k o) j=if k=j then some o else look l j:=by
 induction l with
 |nil=>simp[putL,look]
 |cons x r ih =>
  obtain⟨i,y⟩:=x
  simp only[putL]
  split
  ·simp[look]
  ·split
   ·rename_i h;subst h
    by_cases h2:i=j<;>simp[look,h2]
   ·rename_i h
    simp only[look,ih]
    by_cases h2:i=j
    ·subst h2;simp[Ne.symm h]
    ·simp[h2]
theorem putL_comm (l:List (Nat×Ob)){k j:Nat}(h:k≠j)(o x:Ob):putL (putL l k o) j x=putL (putL l j x) k o:=by
 induction l with
 |nil =>
  simp only[putL]
  by_cases h1:j<k
  ·have h2:¬ k<j:=by omega
   have h3:¬ j=k:=by omega
   simp[h1,h2,h3]
  ·have h2:k<j:=by omega
   have h3:¬ k=j:=h
   simp[h1,h2,h3]
 |cons y r ih =>
  obtain⟨i,z⟩:=y
  simp only[putL]
  by_cases a1:k<i<;>by_cases a2:j<i
  ·by_cases h1:j<k
   ·have h2:¬ k<j:=by omega
    have h3:¬ j=k:=by omega
    simp[a1,a2,h1,h2,h3,putL]
   ·have h2:k<j:=by omega
    have h3:¬ k=j:=h
    simp[a1,a2,h1,h2,h3,putL]
  ·have b1:¬ j<k:=by omega
   have b2:¬ k=j:=h
   by_cases a3:i=j
   ·subst a3
    simp[a1,b1,b2,putL]
   ·simp[a1,a2,a3,b1,b2,putL]
  ·have b1:¬ k<j:=by omega
   have b2:¬ j=k:=fun e=>h e.symm
   by_cases a3:i=k
   ·subst a3
    simp[a2,b1,b2,putL]
   ·simp[a1,a2,a3,b1,b2,putL]
  ·by_cases a3:i=k<;>by_cases a4:i=j
   ·exact absurd (a3.symm.trans a4) h
   ·subst a3
    simp[a1,a2,a4,putL]
   ·subst a4
    simp[a1,a2,a3,putL]
   ·simp[a1,a2,a3,a4,putL,ih]
theorem St.get_put (s:St)(k j:Nat)(o:Ob):(s.put k o).get j=if k=j then some o else s.get j:=look_putL _ _ _ _
theorem St.get_put_same (s:St)(k:Nat)(o:Ob):(s.put k o).get k=some o:=by simp[St.get_put]
theorem St.put_comm (s:St){k j:Nat}(h:k≠j)(o x:Ob):(s.put k o).put j x=(s.put j x).put k o:=by simp only[St.put,putL_comm _ h]
theorem St.nx_put (s:St)(k:Nat)(o:Ob):(s.put k o).nx=s.nx:=rfl
/-! ### types -/
inductive Kn where
 |bool | int (k:IntKind) | str | slice (e:Nat) | array (n e:Nat) | struct (fs:List (Nat×Nat×Bool)) | ptr | other | map (k e:Nat) (z:Option C)
 deriving Inhabited
structure TI where
 size:Nat
 agg:Bool
 bytes:Nat
 zero:Option (List C)
 kn:Kn
 eq:Bool
 deriving Inhabited
def TI.zok (i:TI):Bool:=match i.zero with
 |some z=>z.length==i.size
 |none=>false
def toC:Value→Option C
 |.int k n=>some (.p (.int k n))
 |.bool b=>some (.p (.bool b))
 |.string s=>some (.p (.str s.data.toList))
 |.slice none 0 0=>some .nils
 |.pointer none=>some (.p .nilp)
 |.nilIface=>some (.p .nili)
 |.nilFunc=>some (.p .nilf)
 |.func (.func f) ⟨[]⟩ ⟨[]⟩=>some (.p (.fnc f))
 |_=>none
def allM {α β:Type}(f:α→Option β):List α→Option (List β)
 |[]=>some []
 |x::r=>match f x with
  |none=>none
  |some y=>match allM f r with
   |none=>none
   |some ys=>some (y::ys)
def isAggD:TypeDesc→Bool
 |.struct _ | .array _ _=>true
 |_=>false
def fldOf (P:Program)(f:Field):Option (Nat×Nat×Bool) :=
 match P.info? f.type,P.underlying f.type with
 |some i,some d=>some (f.offset,i.size,isAggD d)
 |_,_=>none
def knOf (P:Program):TypeDesc→Option Kn
 |.bool=>some .bool
 |.int k=>some (.int k)
 |.string=>some .str
 |.slice e=>some (.slice e)
 |.array n e=>some (.array n e)
 |.struct fs=>match allM (fldOf P) fs.toList with
  |some l=>some (.struct l)
  |none=>none
 |.pointer _=>some .ptr
 | .map k e => some (.map k e (match P.info? e with
  |some j=>match j.zero with
   |some z=>toC z
   |none=>none
  |none=>none))
 |_=>some .other
def tiOf (P:Program)(t:Nat):Option TI :=
 match P.info? t,P.underlying t with
 |some i,some d=>match knOf P d with
  |some k=>some { size:=i.size,agg:=isAggD d,bytes:=i.bytes,zero:=(match i.zero with | some z=>allM toC z.cells.toList | none=>none),kn:=k,eq:=false }
  |none=>none
 |_,_=>none
/-! ### getters -/
def cellsV:V→List C
 |.c x=>[x]
 |.agg xs=>xs
def mkV (agg:Bool)(cs:List C):Option V :=
 if agg then some (.agg cs) else match cs with
  |[x]=>some (.c x)
  |_=>none
def D.v? : D→Option V
 |.v x=>some x
 |_=>none
def D.c? : D→Option C
 |.v (.c x)=>some x
 |_=>none
def D.p? : D→Option Pd
 |.v (.c (.p x))=>some x
 |_=>none
def D.int? : D→Option (IntKind×Int)
 |.v (.c (.p (.int k n)))=>some (k,n)
 |_=>none
def D.bool? : D→Option Bool
 |.v (.c (.p (.bool b)))=>some b
 |_=>none
def P' (x:Pd):D:=.v (.c (.p x))
def purS:C→Option Pd
 |.p x=>some x
 |.nils=>some (.lst 0 [])
 |.zc=>some (.lst 0 [])
 |.own n cs _=>some (.lst n cs)
 |_=>none
def purC (s:St):C→Option (Pd×St)
 |.mt r off n es=>match s.get r with
  |some (.cells cs _)=>match allM purS cs with
   |some ps=>if off+n*es≤ps.length then some (.lst n ((ps.drop off).take (n*es)),s.put r (.cells (ps.map .p) true)) else none
   |none=>none
  |_=>none
 |.gs m id off n es=>match s.get id with
  |some (.grow es' m' cs _)=>match allM purS cs with
   |some ps=>if m'=m∧es'=es∧off+n*es≤ps.length then some (.lst n ((ps.drop off).take (n*es)),s.put id (.grow es' m' (ps.map .p) true)) else none
   |none=>none
  |_=>none
 |c=>match purS c with
  |some x=>some (x,s)
  |none=>none
def purCs (s:St):List C→Option (List Pd×St)
 |[]=>some ([],s)
 |c::r=>match purC s c with
  |none=>none
  |some (x,s1)=>match purCs s1 r with
   |none=>none
   |some (xs,s2)=>some (x::xs,s2)
def purV (s:St):V→Option (V×St)
 |.c x=>match purC s x with
  |none=>none
  |some (y,s1)=>some (.c (.p y),s1)
 |.agg xs=>match purCs s xs with
  |none=>none
  |some (ys,s1)=>some (.agg (ys.map .p),s1)
def purVs (s:St):List V→Option (List V×St)
 |[]=>some ([],s)
 |v::r=>match purV s v with
  |none=>none
  |some (x,s1)=>match purVs s1 r with
   |none=>none
   |some (xs,s2)=>some (x::xs,s2)
def purD (s:St):D→Option (D×St)
 |.v x=>match purV s x with
  |none=>none
  |some (y,s1)=>some (.v y,s1)
 |.tup xs=>match purVs s xs with
  |none=>none
  |some (ys,s1)=>some (.tup ys,s1)
 |.junk=>none
/-! ### operations on numbers and strings -/
def shiftI (op:BinOp)(k:IntKind)(x y:Int):Option Pd :=
 if y<0 then none else
 match op with
 |.shl=>some (.int k (k.wrap (x*2 ^ (min y.toNat k.bits))))
 |.shr=>some (.int k (x.fdiv (2 ^ (min y.toNat k.bits))))
 |_=>none
def intI (op:BinOp)(k:IntKind)(x y:Int):Option Pd :=
 match op with
 |.add=>some (.int k (k.wrap (x+y)))
 |.sub=>some (.int k (k.wrap (x-y)))
 |.mul=>some (.int k (k.wrap (x*y)))
 |.quo=>if y=0 then none else some (.int k (k.wrap (x.tdiv y)))
 |.rem=>if y=0 then none else some (.int k (x.tmod y))
 |.and=>some (.int k (k.wrap (BitVec.ofInt k.bits x &&& BitVec.ofInt k.bits y).toNat))
 |.or=>some (.int k (k.wrap (BitVec.ofInt k.bits x ||| BitVec.ofInt k.bits y).toNat))
 |.xor=>some (.int k (k.wrap (BitVec.ofInt k.bits x ^^^ BitVec.ofInt k.bits y).toNat))
 |.andNot=>some (.int k (k.wrap (BitVec.ofInt k.bits x &&& ~~~(BitVec.ofInt k.bits y)).toNat))
 |.eql=>some (.bool (x==y))
 |.neq=>some (.bool (x != y))
 |.lss=>some (.bool (decide (x<y)))
 |.leq=>some (.bool (decide (x≤y)))
 |.gtr=>some (.bool (decide (x > y)))
 |.geq=>some (.bool (decide (x ≥ y)))
 |_=>none
def strI (op:BinOp)(x y:List UInt8):Option Pd :=
 match op with
 |.add=>if x.length+y.length > 9223372036854775807 then none else some (.str (x++y))
 |.eql=>some (.bool (x==y))
 |.neq=>some (.bool !(x==y))
 |.lss=>some (.bool (Op.bytesLess x y))
 |.leq=>some (.bool (Op.bytesLess x y || x==y))
 |.gtr=>some (.bool !(Op.bytesLess x y || x==y))
 |.geq=>some (.bool !(Op.bytesLess x y))
 |_=>none
def eqS:Pd→Pd→Option Bool
 |.int k a,.int k' b=>if k=k' then some (a==b) else none
 |.bool a,.bool b=>some (a==b)
 |.str a,.str b=>some (a==b)
 |_,_=>none
def eqL:List C→List C→Option Bool
 |[],[]=>some true
 |.p x::r,.p y::t=>match eqS x y with
  |none=>none
  |some b=>match eqL r t with
   |none=>none
   |some c=>some (b&&c)
 |_,_=>none
def kinS:Pd→Pd→Bool
 |.int k _,.int k' _=>k==k'
 |.bool _,.bool _=>true
 |.str _,.str _=>true
 |_,_=>false
def kinL:List C→List C→Bool
 |[],[]=>true
 |.p x::r,.p y::t=>kinS x y&&kinL r t
 |_,_=>false
structure Env where
 ti:Nat→Option TI
 fn:Nat→Option Func
 opn:Nat→Bool
 xt:Nat→Option (List V→St→Option (D×St))
 /-- The types whose objects keep their type in sight. -/
 bt:Nat→Bool
 /-- The slice types whose slices,as they are appended to,are objects of the state (their elements may be stored to). -/
 gt:Nat→Bool
inductive Target where
 |f (g:Nat)
 |o (g:Nat)
 |y (l:Nat)
abbrev CallT:=Target→List V→St→Option (D×St)
def binD (E:Env)(op:BinOp)(t:Nat)(x y:D):Option D :=
 match x,y with
 |.v (.c (.p (.int k a))),.v (.c (.p (.int k' b))) =>
  match op with
  |.shl | .shr=>match shiftI op k a b with
   |some r=>some (P' r)
   |none=>none
  |_=>if k=k' then match intI op k a b with
    |some r=>some (P' r)
    |none=>none
   else none
 |.v (.c (.p (.str a))),.v (.c (.p (.str b)))=>match strI op a b with
  |some r=>some (P' r)
  |none=>none
 |.v (.c (.p (.bool a))),.v (.c (.p (.bool b)))=>match E.ti t with
  |some { kn:=.bool,.. }=>match op with
   |.eql=>some (P' (.bool (a==b)))
   |.neq=>some (P' (.bool (!(a==b))))
   |_=>none
  |_=>none
 |.v (.agg xs),.v (.agg ys)=>match E.ti t with
  |some i=>match i.zero with
   |some z=>if i.eq&&kinL z xs then match eqL xs ys with
     |some b=>match op with
      |.eql=>some (P' (.bool b))
      |.neq=>some (P' (.bool (!b)))
      |_=>none
     |none=>none
    else none
   |none=>none
  |none=>none
 |.v (.c (.p (.lst _ cs))),.v (.c .nils)=>match E.ti t with
  | some { kn := .slice _, .. } => if 0 < cs.length then (match op with
    |.eql=>some (P' (.bool false))
    |.neq=>some (P' (.bool true))
    |_=>none) else none
  |_=>none
 |_,_=>none
def unD (op:UnOp)(x:D):Option D :=
 match op,x with
 |.neg,.v (.c (.p (.int k n)))=>some (P' (.int k (k.wrap (0-n))))
 |.xor,.v (.c (.p (.int k n)))=>some (P' (.int k (k.wrap (BitVec.ofInt k.bits (if k.signed then -1 else k.max) ^^^ BitVec.ofInt k.bits n).toNat)))
 |.not,.v (.c (.p (.bool b)))=>some (P' (.bool (!b)))
 |_,_=>none
/-! ### operands and cells -/
def constD (v:Value):D :=
 match toC v with
 |some c=>.v (.c c)
 |none=>.junk
def opd (e:List D):Operand→D
 |.tmp t=>e.getD t .junk
 |.const v=>constD v
 |.func f=>P' (.fnc f)
 |.global _=>.junk
def cellsAt (s:St):D→Option (List C)
 |.v (.c (.ref r off))=>match s.get r with
  |some (.cells cs _)=>if off≤cs.length then some (cs.drop off) else none
  |some (.tc _ cs)=>if off≤cs.length then some (cs.drop off) else none
  |_=>none
 |.v (.c (.rp cs off))=>if off≤cs.length then some ((cs.drop off).map .p) else none
 |.v (.c (.gref m id off))=>match s.get id with
  |some (.grow _ m' cs _)=>if m'=m∧off≤cs.length then some (cs.drop off) else none
  |_=>none
 |_=>none
def takeV (i:TI)(cs:List C):Option V :=
 if i.size≤cs.length then mkV i.agg (cs.take i.size) else none
def setR (cs:List C)(off:Nat)(xs:List C):List C:=cs.take off++xs++cs.drop (off+xs.length)
def byteOfPd:Pd→Option UInt8
 |.int .u8 n=>some (UInt8.ofNat n.toNat)
 |_=>none
def pdOfByte (b:UInt8):Pd:=.int .u8 b.toNat
def listOf (s:St):D→Option (Nat×List Pd)
 |.v (.c (.p (.lst n cs)))=>some (n,cs)
 |.v (.c .nils)=>some (0,[])
 |.v (.c (.own n cs _))=>some (n,cs)
 |.v (.c (.mt r off n es))=>match s.get r with
  |some (.cells cs _)=>match allM purS ((cs.drop off).take (n*es)) with
   |some ps=>if off+n*es≤cs.length then some (n,ps) else none
   |none=>none
  |_=>none
 |.v (.c .zc)=>some (0,[])
 |.v (.c (.gs m id off n es))=>match s.get id with
  |some (.grow es' m' cs _)=>match allM purS ((cs.drop off).take (n*es)) with
   |some ps=>if m'=m∧es'=es∧off+n*es≤cs.length then some (n,ps) else none
   |none=>none
  |_=>none
 |_=>none
def lenD (E:Env)(t:Nat)(x:D):Option D :=
 match E.ti t with
 |some i=>match i.kn,x with
  |.str,.v (.c (.p (.str s)))=>some (P' (.int .i64 s.length))
  |.slice _,.v (.c (.p (.lst n _)))=>some (P' (.int .i64 n))
  |.slice _,.v (.c .nils)=>some (P' (.int .i64 0))
  |.slice _,.v (.c (.own n _ _))=>some (P' (.int .i64 n))
  |.slice _,.v (.c (.mt _ _ n _))=>some (P' (.int .i64 n))
  |.slice _,.v (.c .zc)=>some (P' (.int .i64 0))
  |.slice _,.v (.c (.gs _ _ _ n _))=>some (P' (.int .i64 n))
  |.array n _,_=>some (P' (.int .i64 n))
  |_,_=>none
 |none=>none
def srcD (E:Env)(u:Nat)(s:St)(y:D):Option (Nat×List Pd) :=
 match E.ti u with
 |some iu=>match iu.kn,y with
  |.str,.v (.c (.p (.str b)))=>some (b.length,b.map pdOfByte)
  |.slice _,y=>listOf s y
  |_,_=>none
 |none=>none
def appendD (E:Env)(key:Nat)(ts:List Nat)(x y:D)(s:St):Option (D×St) :=
 match ts with
 |[t,u]=>match E.ti t with
  |some { kn:=.slice e,.. }=>match E.ti e with
   |some ie =>
    match srcD E u s y with
    |none=>none
    |some (m,ys) =>
     if ys.length=m*ie.size then
      if m = 0 then (match x with
       |.v (.c .nils)=>some (x,s)
       |.v (.c (.own _ _ _))=>some (x,s)
       |.v (.c (.p (.lst _ _)))=>some (x,s)
       |.v (.c .zc)=>some (x,s)
       |.v (.c (.gs _ _ _ _ _))=>if E.gt t then some (x,s) else none
       |_=>none)
      else match x with
       |.v (.c .zc)=>if m*ie.bytes≤140737488355328∧0<ie.size∧0<ie.bytes∧ie.zok=true then
         (if E.gt t then some (.v (.c (.gs m key 0 m ie.size)),s.put key (.grow ie.size m (ys.map .p) false))
         else some (.v (.c (.own m ys key)),s.put key (.front ie.size m e))) else none
       |.v (.c (.gs k id off n es))=>match s.get id with
        |some (.grow es' k' cs false)=>if E.gt t=true∧k'=k∧off=0∧n=k∧es'=es∧es=ie.size∧(n+m)*ie.bytes≤140737488355328∧0<ie.size∧0<ie.bytes∧ie.zok=true then
          some (.v (.c (.gs (n+m) id 0 (n+m) es)),s.put id (.grow es (n+m) (cs++ys.map .p) false))
         else if E.gt t=true∧k'=k∧off=0∧n+m≤k∧es'=es∧es=ie.size∧0<ie.size∧cs.length=k*es then
          some (.v (.c (.gs k id 0 (n+m) es)),s.put id (.grow es k (setR cs (n*es) (ys.map .p)) false)) else none
        |_=>none
       |.v (.c .nils)=>if E.gt t then (if m*ie.bytes≤140737488355328∧0<ie.size∧0<ie.bytes∧ie.zok=true then some (.v (.c (.gs m key 0 m ie.size)),s.put key (.grow ie.size m (ys.map .p) false)) else none)
         else if m*ie.bytes≤140737488355328∧0<ie.size∧0<ie.bytes∧ie.zok=true then some (.v (.c (.own m ys key)),s.put key (.front ie.size m e)) else none
       |.v (.c (.own n cs id))=>match s.get id with
        |some (.front es n' tg)=>if n'=n∧es=ie.size∧cs.length=n*es∧(n+m)*ie.bytes≤140737488355328∧0<ie.size∧0<ie.bytes∧ie.zok=true then
          some (.v (.c (.own (n+m) (cs++ys) id)),s.put id (.front es (n+m) (if tg=e then e else 0))) else none
        |_=>none
       |_=>none
     else none
   |none=>none
  |_=>none
 |_=>none
def minD (x y:D):Option D :=
 match x,y with
 |.v (.c (.p (.int k a))),.v (.c (.p (.int _ b)))=>some (P' (.int k (if b<a then b else a)))
 |_,_=>none
def maxD (x y:D):Option D :=
 match x,y with
 |.v (.c (.p (.int k a))),.v (.c (.p (.int _ b)))=>some (P' (.int k (if b > a then b else a)))
 |_,_=>none
def foldO (f:D→D→Option D):D→List D→Option D
 |x,[]=>some x
 |x,y::r=>match f x y with
  |some z=>foldO f z r
  |none=>none
def repl (n:Nat)(z:List C):List C :=
 match n with
 |0=>[]
 |n+1=>z++repl n z
def clearD (E:Env)(ts:List Nat)(x:D)(s:St):Option (D×St) :=
 match ts with
 |[t]=>match E.ti t with
  |some { kn:=.slice e,.. }=>match E.ti e with
   |some { size:=sz,zero:=some z,.. }=>match x with
    |.v (.c (.gs m id off n es))=>match s.get id with
     |some (.grow es' m' cs false)=>if m'=m∧es'=es∧es=sz∧z.length=sz∧0<sz∧0<n∧off+n*es≤cs.length then some (.tup [],s.put id (.grow es m (setR cs off (repl n z)) false)) else none
     |_=>none
    |.v (.c (.p (.lst 0 _)))=>some (.tup [],s)
    |.v (.c .nils)=>some (.tup [],s)
    |_=>none
   |_=>none
  |_=>none
 |_=>none
def builtinD (E:Env)(key:Nat)(b:Builtin)(ts:List Nat)(args:List D)(s:St):Option (D×St) :=
 match b,args with
 |.len,[x]=>match ts with
  |t::_=>match lenD E t x with
   |some d=>some (d,s)
   |none=>none
  |[]=>none
 |.append,[x,y]=>appendD E key ts x y s
 |.min,.v (.c (.p (.int k a)))::r=>match foldO minD (P' (.int k a)) r with
  |some d=>some (d,s)
  |none=>none
 |.max,.v (.c (.p (.int k a)))::r=>match foldO maxD (P' (.int k a)) r with
  |some d=>some (d,s)
  |none=>none
 |.clear,[x]=>clearD E ts x s
 |_,_=>none
def loI (n:Int):Option D→Option Int
 |none=>some n
 |some d=>match d.int? with
  |some (_,n)=>some n
  |none=>none
def goS (l:Int)(hi mx:Option D)(n:Nat)(mk:Nat→Nat→Option D):Option D :=
 match loI n hi with
 | some h => if 0 ≤ l ∧ l ≤ h ∧ h ≤ n then (match mx with
   |none=>mk l.toNat h.toNat
   |some d=>match d.int? with
    |some (_,m)=>if hi.isSome∧h≤m∧m≤n then (if l=m then some (.v (.c .zc)) else mk l.toNat h.toNat) else none
    |none=>none) else none
 |none=>none
def sliceC (ie:TI)(l:Int)(hi mx:Option D):C→Option D
 |.p (.lst n cs)=>if cs.length=n*ie.size then goS l hi mx n (fun l h=>some (P' (.lst (h-l) ((cs.drop (l*ie.size)).take ((h-l)*ie.size))))) else none
 |.own n cs _=>if cs.length=n*ie.size then goS l hi mx n (fun l h=>some (P' (.lst (h-l) ((cs.drop (l*ie.size)).take ((h-l)*ie.size))))) else none
 |.nils=>goS l hi mx 0 (fun _ _=>some (.v (.c .nils)))
 |.mt r off n es=>if es=ie.size then goS l hi mx n (fun l h=>if l<h then some (.v (.c (.mt r (off+l*es) (h-l) es))) else some (P' (.lst 0 []))) else none
 |.gs m id off n es=>if es=ie.size∧0<es then goS l hi mx n (fun l h=>if mx.isSome then none else if l<h then some (.v (.c (.gs m id (off+l*es) (h-l) es))) else if es=1 then (if l=0∧off=0∧0<n then some (.v (.c (.gs m id 0 0 es))) else some (P' (.lst 0 []))) else some (P' (.lst 0 []))) else none
 |.zc=>goS l hi mx 0 (fun _ _=>some (.v (.c .zc)))
 |_=>none
def sliceD (E:Env)(t:Nat)(x:D)(lo hi mx:Option D):Option D :=
 match E.ti t,loI 0 lo with
 |some i,some l =>
  match i.kn,x with
  |.str,.v (.c (.p (.str b)))=>match loI b.length hi,mx with
   |some h,none=>if 0≤l∧l≤h∧h≤b.length then some (P' (.str ((b.drop l.toNat).take (h.toNat-l.toNat)))) else none
   |_,_=>none
  |.slice e,.v (.c c)=>match E.ti e with
   |some ie=>sliceC ie l hi mx c
   |none=>none
  |_,_=>none
 |_,_=>none
def indexAddrD (E:Env)(t:Nat)(x ix:D):Option D :=
 match E.ti t,ix.int? with
 |some i,some (_,n) =>
  match i.kn,x with
  |.slice e,.v (.c c)=>match E.ti e with
   |some ie=>match c with
    |.p (.lst m cs)=>if 0≤n∧n<m∧(n.toNat+1)*ie.size≤cs.length∧0<ie.size then some (.v (.c (.rp cs (n.toNat*ie.size)))) else none
    |.own m cs _=>if 0≤n∧n<m∧(n.toNat+1)*ie.size≤cs.length∧0<ie.size then some (.v (.c (.rp cs (n.toNat*ie.size)))) else none
    |.mt r off m es=>if 0≤n∧n<m∧es=ie.size then some (.v (.c (.ref r (off+n.toNat*es)))) else none
    |.gs k id off m es=>if 0≤n∧n<m∧es=ie.size then some (.v (.c (.gref k id (off+n.toNat*es)))) else none
    |_=>none
   |none=>none
  |.array m e,.v (.c c)=>match E.ti e with
   | some ie => if 0 ≤ n ∧ n < m ∧ 1 < m then (match c with
     |.ref r off=>some (.v (.c (.ref r (off+n.toNat*ie.size))))
     |.rp cs off=>some (.v (.c (.rp cs (off+n.toNat*ie.size))))
     |_=>none) else none
   |none=>none
  |_,_=>none
 |_,_=>none
def fieldAddrD (E:Env)(t:Nat)(x:D)(f:Nat):Option D :=
 match E.ti t with
 |some { kn:=.struct fs,.. }=>match fs[f]? with
  |some (o,sz,_)=>if sz=0 then none else match x with
   |.v (.c (.ref r off))=>some (.v (.c (.ref r (off+o))))
   |.v (.c (.rp cs off))=>some (.v (.c (.rp cs (off+o))))
   |.v (.c (.gref m id off))=>some (.v (.c (.gref m id (off+o))))
   |_=>none
  |none=>none
 |_=>none
def fieldD (E:Env)(t:Nat)(x:D)(f:Nat):Option D :=
 match E.ti t with
 |some { kn:=.struct fs,.. }=>match fs[f]? with
  |some (o,sz,ag)=>match x with
   | .v (.agg cs) => if o + sz ≤ cs.length then (match mkV ag ((cs.drop o).take sz) with
     |some v=>if sz=1∨ag then some (.v v) else none
     |none=>none) else none
   |_=>none
  |none=>none
 |_=>none
def indexD (E:Env)(t:Nat)(x ix:D):Option D :=
 match E.ti t,ix.int? with
 |some i,some (_,n) =>
  match i.kn,x with
  | .str, .v (.c (.p (.str b))) => if 0 ≤ n then (match b[n.toNat]? with
    |some c=>some (P' (pdOfByte c))
    |none=>none) else none
  |.array m e,.v (.agg cs)=>match E.ti e with
   | some ie => if 0 ≤ n ∧ n < m ∧ (n.toNat + 1) * ie.size ≤ cs.length then (match mkV ie.agg ((cs.drop (n.toNat * ie.size)).take ie.size) with
     |some v=>if ie.size=1∨ie.agg then some (.v v) else none
     |none=>none) else none
   |none=>none
  |_,_=>none
 |_,_=>none
def convD (E:Env)(key:Nat)(a b:Nat)(x:D)(s:St):Option (D×St) :=
 match E.ti a,E.ti b with
 |some ia,some ib =>
  match ia.kn,ib.kn,x with
  |_,.int k,.v (.c (.p (.int _ n)))=>some (P' (.int k (k.wrap n)),s)
  |.str,.str,.v (.c (.p (.str t)))=>some (x,s)
  |.slice e,.str,_=>match E.ti e with
   |some { kn:=.int .u8,.. }=>match listOf s x with
    |some (n,cs)=>match allM byteOfPd cs with
     |some t=>if t.length=n then some (P' (.str t),s) else none
     |none=>none
    |none=>none
   |_=>none
  |.str,.slice e,.v (.c (.p (.str t)))=>match E.ti e with
   |some { kn:=.int .u8,size:=1,.. }=>some (.v (.c (.own t.length (t.map pdOfByte) key)),s.put key (.front 1 t.length 0))
   |_=>none
  |.slice _,.slice e,.v (.c (.own n cs id))=>match E.ti e with
   |some { kn:=.int .u8,.. }=>match s.get id with
    |some (.front es m tg)=>if a=b∧tg=999983∧m=n∧0<n then some (x,s.put id (.front es m 0)) else none
    |_=>none
   |_=>none
  |_,_,_=>none
 |_,_=>none
def fillD (place:Nat→Option (Nat×Nat)):List C→List (Nat×D)→Option (List C)
 |cs,[]=>some cs
 |cs,(i,d)::r=>match place i,d.v? with
  |some (off,sz),some v=>if (cellsV v).length=sz∧off+sz≤cs.length then fillD place (setR cs off (cellsV v)) r else none
  |_,_=>none
def buildD (E:Env)(t:Nat)(ps:List (Nat×D)):Option D :=
 match E.ti t with
 |some { kn:=.struct fs,zero:=some z,.. }=>match fillD (fun i=>match fs[i]? with | some (o,sz,_)=>some (o,sz) | none=>none) z ps with
  |some cs=>some (.v (.agg cs))
  |none=>none
 |some { kn:=.array n e,zero:=some z,.. }=>match E.ti e with
  |some ie=>match fillD (fun i=>some (i*ie.size,ie.size)) z ps with
   |some cs=>some (.v (.agg cs))
   |none=>none
  |none=>none
 |_=>none
def buildSliceD (E:Env)(key:Nat)(t n:Nat)(ps:List (Nat×D))(s:St):Option (D×St) :=
 match E.ti t with
 |some { kn:=.slice e,.. }=>match E.ti e with
  |some { size:=sz,zero:=some z,.. }=>if n*sz > 16777216∨sz=0∨z.length≠sz then none else
   match fillD (fun i=>some (i*sz,sz)) (repl n z) ps with
   |some cs=>if n=0∧E.gt t then some (.v (.c (.gs n key 0 n sz)),s.put key (.grow sz n cs false)) else match allM purS cs with
    |some qs=>some (.v (.c (.own n qs key)),s.put key (.front sz n 999983))
    |none=>none
   |none=>none
  |_=>none
 |_=>none
def makeSliceD (E:Env)(key:Nat)(t:Nat)(l c:D)(s:St):Option (D×St) :=
 match E.ti t,l.int?,c.int? with
 |some { kn:=.slice e,.. },some (_,l),some (_,c)=>match E.ti e with
  |some { size:=sz,bytes:=by_,zero:=some z,.. } =>
   if 0≤l∧l≤c∧by_*c≤140737488355328∧0<sz∧z.length=sz∧c≤9223372036854775807 then
    if l=0 then (if E.gt t then some (.v (.c (.gs 0 key 0 0 sz)),s.put key (.grow sz 0 [] false)) else some (.v (.c (.own 0 [] key)),s.put key (.front sz 0 0)))
    else some (.v (.c (.mt key 0 l.toNat sz)),s.put key (.cells (repl c.toNat z) false))
   else none
  |_=>none
 |_,_,_=>none
def cs? : List D→Option (List C)
 |[]=>some []
 |d::r=>match d.c?,cs? r with
  |some c,some cs=>some (c::cs)
  |_,_=>none
def vs? : List D→Option (List V)
 |[]=>some []
 |d::r=>match d.v?,vs? r with
  |some c,some cs=>some (c::cs)
  |_,_=>none
def callD (T:CallT)(f:D)(args:List D)(s:St):Option (D×St) :=
 match f,vs? args with
 |.v (.c (.p (.fnc g))),some a=>T (.f g) a s
 |.v (.c (.fn (.func g) fs cap)),some a=>T (.o g) (fs.map .c++a++cap.map .c) s
 |.v (.c (.fn (.yield l) fs cap)),some a=>match fs,cap with
  |[],[]=>T (.y l) a s
  |_,_=>none
 |_,_=>none
def keep (s:St):Option D→Option (D×St)
 |some d=>some (d,s)
 |none=>none
def idxM (b:List UInt8)(ks:List (List UInt8)):Option Nat:=ks.findIdx? fun k=>k==b
def getM (b:List UInt8)(ks:List (List UInt8))(cs:List C):Option C :=
 match idxM b ks with
 |some i=>cs[i]?
 |none=>none
def updM (b:List UInt8)(x:C)(ks:List (List UInt8))(cs:List C):Ob :=
 match idxM b ks with
 |some i=>.mapo ks (cs.set i x)
 |none=>.mapo (ks++[b]) (cs++[x])
def mapTy (E:Env)(t:Nat):Option C :=
 match E.ti t with
 |some { kn:=.map k e (some z),.. }=>match E.ti k with
  |some { kn:=.str,.. }=>some z
  |_=>none
 |_=>none
def makeMapD (E:Env)(key t:Nat)(s:St):Option (D×St) :=
 match mapTy E t with
 |some _=>some (.v (.c (.mp key)),s.put key (.mapo [] []))
 |none=>none
def mapUpdD (E:Env)(t:Nat)(m k v:D)(s:St):Option (D×St) :=
 match mapTy E t,m,k,v with
 |some _,.v (.c (.mp id)),.v (.c (.p (.str b))),.v (.c x)=>match s.get id with
  |some (.mapo ks cs)=>some (.tup [],s.put id (updM b x ks cs))
  |_=>none
 |_,_,_,_=>none
def lookupD (E:Env)(t:Nat)(m k:D)(ok:Bool)(s:St):Option (D×St) :=
 match mapTy E t,m,k with
 |some z,.v (.c (.mp id)),.v (.c (.p (.str b)))=>match s.get id with
  |some (.mapo ks cs)=>some (if ok then .tup [.c ((getM b ks cs).getD z),.c (.p (.bool (getM b ks cs).isSome))] else .v (.c ((getM b ks cs).getD z)),s)
  |_=>none
 |_,_,_=>none
def evalOp (E:Env)(T:CallT)(key:Nat)(o:Op)(r:Operand→D)(s:St):Option (D×St) :=
 match o with
 |.move x | .assign x=>some (r x,s)
 |.pick c a b=>match (r c).bool? with
  |some t=>some (if t then r a else r b,s)
  |none=>none
 |.alloc t=>match E.ti t with
  |some { zero:=some z,.. }=>some (.v (.c (.ref key 0)),s.put key (if E.bt t then .tc t z else .cells z false))
  |_=>none
 |.box t x=>match (r x).v? with
  |some v=>some (.v (.c (.ref key 0)),s.put key (.cells (cellsV v) false))
  |none=>none
 |.build t ps=>keep s (buildD E t (ps.toList.map fun(i,x)=>(i,r x)))
 |.buildSlice t n ps=>buildSliceD E key t n (ps.toList.map fun(i,x)=>(i,r x)) s
 |.load t a=>match E.ti t,cellsAt s (r a) with
  |some i,some cs=>match takeV i cs with
   |some v=>some (.v v,s)
   |none=>none
  |_,_=>none
 |.store t a x=>match r a,(r x).v?,E.ti t with
  |.v (.c (.ref k off)),some v,some i=>match s.get k with
   |some (.cells cs false)=>if (cellsV v).length=i.size∧off+i.size≤cs.length then some (.tup [],s.put k (.cells (setR cs off (cellsV v)) false)) else none
   |some (.tc u cs)=>if (cellsV v).length=i.size∧off+i.size≤cs.length then some (.tup [],s.put k (.tc u (setR cs off (cellsV v)))) else none
   |_=>none
  |.v (.c (.gref m k off)),some v,some i=>match s.get k with
   |some (.grow es m' cs false)=>if m'=m∧(cellsV v).length=i.size∧off+i.size≤cs.length then some (.tup [],s.put k (.grow es m' (setR cs off (cellsV v)) false)) else none
   |_=>none
  |_,_,_=>none
 |.nilCheck x=>match r x with
  |.v (.c (.ref _ _))=>some (r x,s)
  |.v (.c (.rp _ _))=>some (r x,s)
  |.v (.c (.gref _ _ _))=>some (r x,s)
  |_=>none
 |.binOp op t x y _=>keep s (binD E op t (r x) (r y))
 |.unOp op _ x=>keep s (unD op (r x))
 |.convert a b x=>convD E key a b (r x) s
 |.makeFunc f fs cap=>match cs? (fs.toList.map r),cs? (cap.toList.map r) with
  |some fs,some cap=>match f,fs,cap with
   |.func g,[],[]=>some (P' (.fnc g),s)
   |.func g,_,_=>some (.v (.c (.fn (.func g) fs cap)),s)
   |_,_,_=>none
  |_,_=>none
 |.makeSlice t l c=>makeSliceD E key t (r l) (r c) s
 |.slice t x lo hi mx=>keep s (sliceD E t (r x) (lo.map r) (hi.map r) (mx.map r))
 |.fieldAddr t x f=>keep s (fieldAddrD E t (r x) f)
 |.field t x f=>keep s (fieldD E t (r x) f)
 |.indexAddr t x i=>keep s (indexAddrD E t (r x) (r i))
 |.index t x i=>keep s (indexD E t (r x) (r i))
 |.extract x i=>match r x with
  |.tup vs=>match vs[i]? with
   |some v=>some (.v v,s)
   |none=>none
  |_=>none
 |.call c=>match c.callee with
  |.builtin b=>builtinD E key b c.argTypes.toList (c.args.toList.map r) s
  |.value f=>callD T (r f) (c.args.toList.map r) s
  |_=>none
 |.makeMap t none=>makeMapD E key t s
 |.mapUpdate t m k v=>mapUpdD E t (r m) (r k) (r v) s
 |.lookup t m k ok=>lookupD E t (r m) (r k) ok s
 |_=>none
/-! ### regions -/
def putD (e:List D)(dst:Option Nat)(d:D):List D :=
 match dst with
 |some t=>e.set t d
 |none=>e
def wantedD (ops:Array Oper)(o:Oper)(e:List D):Option Bool :=
 match o.guard with
 |none=>some true
 |some (j,want)=>match ops[j]? with
  |some oj=>match oj.dst with
   |some t=>match e.getD t .junk with
    |.v (.c (.p (.bool b)))=>some (b==want)
    |.tup []=>some false
    |_=>none
   |none=>none
  |none=>none
def stepOp (E:Env)(T:CallT)(ops:Array Oper)(base i:Nat)(e:List D)(s:St):Option (List D×St) :=
 match ops[i]? with
 |none=>none
 |some o=>match wantedD ops o e with
  |none=>none
  |some false=>some (putD e o.dst (.tup []),s)
  |some true=>match evalOp E T (base+i) o.op (opd e) s with
   |none=>none
   |some (d,s1)=>some (putD e o.dst d,s1)
def runOps (E:Env)(T:CallT)(ops:Array Oper)(base:Nat):List Nat→List D→St→Option (List D×St)
 |[],e,s=>some (e,s)
 |i::r,e,s=>match stepOp E T ops base i e s with
  |none=>none
  |some (e1,s1)=>runOps E T ops base r e1 s1
/-! ### regions whose order is open: what is carried out in the text's order, and which orders come to the same -/
def plainC:C→Bool
 |.mt _ _ _ _=>false
 |.ref _ _=>false
 |.rp _ _=>false
 |.fn _ _ _=>false
 |.gs _ _ _ _ _=>false
 |.gref _ _ _=>false
 |.mp _=>false
 |_=>true
def plainV:V→Bool
 |.c x=>plainC x
 |.agg xs=>xs.all plainC
def plainD:D→Bool
 |.v x=>plainV x
 |_=>false
def gtS (E:Env):List Nat→Bool
 |t::_=>E.gt t
 |[]=>false
def isGs:D→Bool
 |.v (.c (.gs _ _ _ _ _))=>true
 |_=>false
def clsOf (E:Env)(o:Op)(r:Operand→D):Nat :=
 match o with
 |.load _ _=>1
 |.alloc _ | .box _ _ | .buildSlice _ _ _ | .makeSlice _ _ _=>2
 |.store _ _ _=>4
 |.makeMap _ _ | .mapUpdate _ _ _ _ | .lookup _ _ _ _=>5
 |.convert _ b x=>match E.ti b with
  |some i=>match i.kn with
   |.int _=>0
   |.str=>1
   |_=>match r x with
    |.v (.c (.own _ _ _))=>5
    |_=>2
  |none=>5
 |.call c=>match c.callee with
  |.builtin .append=>match c.args.toList.map r with
   |[x,y]=>if gtS E c.argTypes.toList&&isGs x then 4 else 3
   |_=>3
  |.builtin .clear=>5
  |.builtin _=>0
  |.value f=>match r f with
   |.v (.c (.p (.fnc g)))=>if !E.opn g&&(E.xt g).isNone&&(c.args.toList.map r).all plainD then 0 else 5
   |_=>5
  |_=>5
 |_=>0
def addrK:D→Option Nat
 |.v (.c (.ref k _))=>some k
 |.v (.c (.gref _ k _))=>some k
 |_=>none
def lstK:D→Option Nat
 |.v (.c (.mt k _ _ _))=>some k
 |.v (.c (.gs _ k _ _ _))=>some k
 |_=>none
def gsK:D→Option Nat
 |.v (.c (.gs _ k _ _ _))=>some k
 |_=>none
def touch (o:Op)(r:Operand→D):Option Nat×Option Nat :=
 match o with
 |.load _ a=>(addrK (r a),none)
 |.store _ a _=>(none,addrK (r a))
 |.convert _ _ x=>(lstK (r x),none)
 |.call c=>match c.args.toList.map r with
  |[x,y]=>(lstK y,gsK x)
  |_=>(none,none)
 |_=>(none,none)
structure Tr where
 i:Nat
 cls:Nat
 key:Option Nat×Option Nat
def trOf (E:Env)(ops:Array Oper)(i:Nat)(e:List D):Tr :=
 match ops[i]? with
 |some o=>match wantedD ops o e with
  |some true=>{ i:=i,cls:=clsOf E o.op (opd e),key:=touch o.op (opd e) }
  |_=>{ i:=i,cls:=0,key:=(none,none) }
 |none=>{ i:=i,cls:=0,key:=(none,none) }
def runOpsD (E:Env)(T:CallT)(ops:Array Oper)(base:Nat):List Nat→List D→St→Option (List D×St×List Tr)
 |[],e,s=>some (e,s,[])
 |i::r,e,s=>match stepOp E T ops base i e s with
  |none=>none
  |some (e1,s1)=>match runOpsD E T ops base r e1 s1 with
   |none=>none
   |some (e2,s2,t)=>some (e2,s2,trOf E ops i e::t)
def dirEdge (ops:Array Oper)(i j:Nat):Bool :=
 match ops[i]? with
 |some o=>o.after.toList.any fun e=>Region.binds .any e&&e.on==j
 |none=>true
def reach (ops:Array Oper):Nat→Nat→Nat→Bool
 |0,_,_=>false
 |f+1,i,j=>match ops[i]? with
  |some o=>o.after.toList.any fun e=>Region.binds .any e&&(e.on==j || reach ops f e.on j)
  |none=>false
def hasEdge (ops:Array Oper)(i j:Nat):Bool:=dirEdge ops i j || reach ops 9 i j
def apartK (x y:Option Nat):Bool :=
 match x,y with
 |some k,some j=>k != j
 |_,_=>true
def keysOK (x y:Option Nat×Option Nat):Bool:=apartK x.1 y.2&&(apartK x.2 y.1&&apartK x.2 y.2)
def freeOK (x y:Tr):Bool:=x.cls==0 || y.cls==0 || (decide (x.cls≤3)&&decide (y.cls≤3)) || (decide (x.cls≤4)&&decide (y.cls≤4)&&keysOK x.key y.key)
def pairOK (ops:Array Oper)(x y:Tr):Bool:=freeOK x y || hasEdge ops y.i x.i
def trOK (ops:Array Oper):List Tr→Bool
 |[]=>true
 |x::r=>r.all (pairOK ops x)&&trOK ops r
def looks (ops:Array Oper)(o:Oper):List Nat :=
 (o.op.operands.toList.filterMap fun | .tmp t=>some t | _=>none) ++
 (match o.guard with
  |some (g,_)=>((ops[g]?).bind (·.dst)).toList
  |none=>[])
def apartD (ops:Array Oper)(x y:Oper):Bool :=
 (match x.dst with
  |some d=>!(looks ops y).contains d&&y.dst != some d
  |none=>true) &&
 (match y.dst with
  |some d=>!(looks ops x).contains d
  |none=>true)
def statOK (ops:Array Oper):Bool :=
 (List.range ops.size).all fun i=>match ops[i]? with
  |some oi=>(oi.after.toList.all fun e=>!Region.binds .any e || decide (e.on<i)) &&
   (List.range i).all fun j=>dirEdge ops i j || match ops[j]? with
    |some oj=>apartD ops oj oi
    |none=>true
  |none=>true
def codeOK:Code→Bool
 |.region _ ops d=>!d || statOK ops
 |.seq a b=>codeOK a&&codeOK b
 |.cond _ a b=>codeOK a&&codeOK b
 |.block _ c | .loop c | .scope c=>codeOK c
 |.rangeFunc _ _ a b=>codeOK a&&codeOK b
 |_=>true
/-! ### code -/
inductive Ex where
 |normal
 |exit (id:Nat)
 |ret
def iterL {S:Type}(step:S→Option (Ex×S)):Nat→S→Option (Ex×S)
 |0,_=>none
 |n+1,x=>match step x with
  |none=>none
  |some (.normal,y)=>iterL step n y
  |some (.exit i,y)=>some (.exit i,y)
  |some (.ret,y)=>some (.ret,y)
structure Fr where
 e:List D
 ds:List Nat
 s:St
def targetOf:D→Option (Nat×List V)
 |.v (.c (.p (.fnc g)))=>some (g,[])
 |.v (.c (.fn (.func g) [] cap))=>some (g,cap.map .c)
 |_=>none
def endLoopD (s:St)(l:Nat):Option (Option Code×St) :=
 match s.get l with
 |some (.loop r)=>if r.st=.busy then none else some (r.pend,s.put l (.loop { r with st:=.exhausted }))
 |_=>none
def enterD (s:St)(ro:Option Nat):Option (List Nat×St) :=
 match ro with
 |none=>some ([s.nx+1],({ s with nx:=s.nx+2 }:St).put (s.nx+1) .defr)
 |some k=>match s.get k with
  |some (.loop _)=>some ([],{ s with nx:=s.nx+2 })
  |_=>none
def leaveD (pend:Option Code)(y:Fr):Option (Ex×Fr) :=
 match pend with
 |none=>some (.normal,y)
 |some .ret=>some (.ret,y)
 |some (.exit i)=>some (.exit i,y)
 |some _=>none
def evalC (E:Env)(T:CallT)(n:Nat)(ro:Option Nat):Code→Fr→Option (Ex×Fr)
 |.skip,x=>some (.normal,x)
 |.label _,x=>some (.normal,x)
 |.region _ ops d,x =>
  if d then match runOpsD E T ops x.s.nx (List.range ops.size) x.e { x.s with nx:=x.s.nx+ops.size } with
   |none=>none
   |some (e,s,t)=>if trOK ops t then some (.normal,{ x with e:=e,s:=s }) else none
  else match runOps E T ops x.s.nx (List.range ops.size) x.e { x.s with nx:=x.s.nx+ops.size } with
   |none=>none
   |some (e,s)=>some (.normal,{ x with e:=e,s:=s })
 |.seq a b,x=>match evalC E T n ro a x with
  |some (.normal,y)=>evalC E T n ro b y
  |z=>z
 |.cond c a b,x=>match (opd x.e c).bool? with
  |some true=>evalC E T n ro a x
  |some false=>evalC E T n ro b x
  |none=>none
 |.block id c,x=>match evalC E T n ro c x with
  |some (.exit i,y)=>if i=id then some (.normal,y) else some (.exit i,y)
  |z=>z
 |.loop c,x=>iterL (evalC E T n ro c) n x
 |.exit id,x=>some (.exit id,x)
 |.ret,x=>some (.ret,x)
 |.rangeFunc f ps assign body,x =>
  match targetOf (opd x.e f) with
  |none=>none
  |some (g,cap) =>
   match enterD x.s ro with
   |none=>none
   |some (ds,s1)=>match T (.o g) (.c (.fn (.yield x.s.nx) [] [])::cap) (s1.put x.s.nx (.loop { st:=.ready,pend:=none,e:=x.e,ps:=ps.toList,assign:=assign,body:=body })) with
    |none=>none
    |some (_,s3)=>match endLoopD s3 x.s.nx with
     |none=>none
     |some (pend,s4)=>leaveD pend { e:=x.e,ds:=ds++x.ds,s:=s4 }
 |_,_=>none
def resultsD (E:Env)(e:List D)(s:St):List ResultVar→Option (List V)
 |[]=>some []
 |.tmp t::r=>match (e.getD t .junk).v?,resultsD E e s r with
  |some v,some vs=>some (v::vs)
  |_,_=>none
 |.cell a t::r=>match E.ti t,cellsAt s (e.getD a .junk) with
  |some i,some cs=>match takeV i cs,resultsD E e s r with
   |some v,some vs=>some (v::vs)
   |_,_=>none
  |_,_=>none
def packD:List V→D
 |[v]=>.v v
 |vs=>.tup vs
def killAll:List Nat→St→Option St
 |[],s=>some s
 |k::r,s=>match s.get k with
  |some .defr=>killAll r (s.put k .dead)
  |_=>none
def bodyD (E:Env)(T:CallT)(n:Nat)(g:Nat)(args:List V)(s:St):Option (D×St) :=
 match E.fn g with
 |none=>none
 |some fn=>match fn.body with
  |none=>none
  |some c=>match evalC E T n none c { e:=args.map .v++List.replicate (fn.ntmps-args.length) (.tup []),ds:=[],s:=s } with
   |some (.normal,y) | some (.ret,y)=>match killAll y.ds y.s with
    |none=>none
    |some s'=>match resultsD E y.e s' fn.results.toList with
     |none=>none
     |some vs=>some (packD vs,s')
   |_=>none
def setAll:List D→List (Nat×V)→List D
 |e,[]=>e
 |e,(t,v)::r=>setAll (e.set t (.v v)) r
def roundD (E:Env)(T:CallT)(n:Nat)(l:Nat)(args:List V)(s:St):Option (D×St) :=
 match s.get l with
 |some (.loop r)=>if r.ps.length≠args.length then none else
  match evalC E T n (some l) r.assign { e:=setAll r.e (r.ps.zip args),ds:=[],s:=s } with
  |some (.normal,y)=>match y.s.get l with
   |some (.loop r1)=>if r1.st≠.ready then none else
    match evalC E T n (some l) r.body { e:=y.e,ds:=[],s:=y.s.put l (.loop { r1 with st:=.busy }) } with
    |none=>none
    |some (x,z)=>match z.s.get l with
     |some (.loop r2) =>
      let j:Option Code:=match x with
       |.normal=>none
       |.ret=>some .ret
       |.exit i=>some (.exit i)
      some (P' (.bool j.isNone),z.s.put l (.loop { r2 with st:=if j.isNone then .ready else .done,pend:=j }))
     |_=>none
   |_=>none
  |_=>none
 |_=>none
def runF (E:Env):Nat→CallT
 |0=>fun _ _ _=>none
 |k+1=>fun t args s =>
  match t with
  |.y l=>roundD E (runF E k) k l args s
  |.o g=>bodyD E (runF E k) k g args s
  |.f g=>match E.xt g with
   |some h=>h args s
   |none=>if E.opn g then bodyD E (runF E k) k g args s else
    match purVs s args with
    |none=>bodyD E (runF E k) k g args s
    |some (as,s1)=>match bodyD E (runF E k) k g as { ob:=[],nx:=0 } with
     |none=>none
     |some (d,s2)=>match purD s2 d with
      |none=>none
      |some (d',_)=>some (d',s1)
end Go.Proofs.YtedcnhbblgmdnaaGreat.Ab
