/- A part of the proof. -/
import Derived.Test.YtedcnhbblgmdnaaGreatT8
set_option maxHeartbeats 8000000
set_option maxRecDepth 10000
set_option linter.unusedSimpArgs false
set_option linter.unusedVariables false
/- An evaluator of the model's code with slices as pure lists: a seat's functions and types. -/
namespace Go.Proofs.YtedcnhbblgmdnaaGreat.Ab
open Go.RowKit
def okF (f : Func) : Bool := !(f.name == "runtime.NumGoroutine") && match f.body with
 |some c=>codeOK c
 |none=>true
def fnOf (P:Program)(g:Nat):Option Func:=match P.funcs[g]? with
 |some f=>if okF f then some f else none
 |none=>none
def mkEnv (P:Program)(opns eqs:List Nat)(xt:Nat→Option (List V→St→Option (D×St)))(bts:List Nat:=[])(gts:List Nat:=[]):Env where
 ti t:=match tiOf P t with
  |some i=>some { i with eq:=eqs.contains t }
  |none=>none
 fn:=fnOf P
 opn f:=opns.contains f
 xt:=xt
 bt:=fun t=>bts.contains t
 gt:=fun t=>gts.contains t
theorem tiOf_eq {P:Program}{t:Nat}{i:TI}(h:tiOf P t=some i):i.eq=false:=by
 unfold tiOf at h
 split at h
 ·split at h
  ·cases h;rfl
  ·cases h
 ·cases h
theorem mkEnv_ok {P:Program}{opns eqs bts gts:List Nat}{xt:Nat→Option (List V→St→Option (D×St))}(hm:P.follows .mixedOrders=true)(hq:∀ t,t∈eqs→EqOK P t)(hx:∀ g h,xt g=some h→XtOK P g h):EnvOK P (mkEnv P opns eqs xt bts gts) where
 ti t i h:=by
  simp only[mkEnv] at h
  split at h
  ·rename_i j hj
   cases h
   have:=tiOf_eq hj
   obtain⟨a,b,c,d,e,f⟩:=j
   simp only at this;subst this;exact hj
  ·cases h
 eq t i h he:=by
  simp only[mkEnv] at h
  split at h
  ·rename_i j hj
   cases h;exact hq t (by simpa using he)
  ·cases h
 fn g f h:=by
  simp only[mkEnv,fnOf] at h
  split at h
  ·rename_i f' hf
   split at h
   ·rename_i hok
    cases h;simp only[okF,Bool.and_eq_true,Bool.not_eq_true'] at hok
    exact⟨hf,hok.1⟩
   ·cases h
  ·cases h
 code g f c h hb:=by
  simp only[mkEnv,fnOf] at h
  split at h
  ·rename_i f' hf
   split at h
   ·rename_i hok
    cases h;simp only[okF,Bool.and_eq_true,hb] at hok;exact hok.2
   ·cases h
  ·cases h
 mixed:=hm
 xt g h hg:=hx g h hg
theorem getD_set (e:List D)(i j:Nat)(d:D):(e.set i d).getD j .junk=if i=j then (if i<e.length then d else .junk) else e.getD j .junk:=by
 by_cases h:i=j
 ·subst h
  by_cases h2:i<e.length
  ·simp[h2,List.getD]
  ·simp[h2,List.getD]
 ·simp[h,List.getD,List.getElem?_set_ne h]
theorem Own.listOf {s:St}{es n:Nat}{x:D}{cs:List Pd}(h:Own s es x n cs):listOf s x=some (n,cs):=by
 obtain⟨h1,h2⟩:=h
 rcases h2 with ⟨rfl,rfl⟩|⟨id,rfl,_⟩
 ·have:cs=[]:=List.length_eq_zero_iff.1 (by simpa using h1)
  subst this;rfl
 ·rfl
theorem Own.lo {s:St}{es n:Nat}{x:D}{cs:List Pd}(h:Own s es x n cs)(s':St):Go.Proofs.YtedcnhbblgmdnaaGreat.Ab.listOf s' x=some (n,cs):=by
 obtain⟨h1,h2⟩:=h
 rcases h2 with ⟨rfl,rfl⟩|⟨id,rfl,_⟩
 ·have:cs=[]:=List.length_eq_zero_iff.1 (by simpa using h1)
  subst this;rfl
 ·rfl
theorem Own.len {E:Env}{t e:Nat}{i:TI}{s:St}{es n:Nat}{x:D}{cs:List Pd}(h:Own s es x n cs)(ht:E.ti t=some i)(hk:i.kn=.slice e):lenD E t x=some (P' (.int .i64 n)):=by
 obtain⟨h1,h2⟩:=h
 unfold lenD
 rw[ht]
 simp only[hk];rcases h2 with ⟨rfl,rfl⟩|⟨id,rfl,_⟩
 ·rfl
 ·rfl
theorem Own.pur {s:St}{es n:Nat}{x:D}{cs:List Pd}(h:Own s es x n cs):purD s x=some (P' (.lst n cs),s):=by
 obtain⟨h1,h2⟩:=h
 rcases h2 with ⟨rfl,rfl⟩|⟨id,rfl,_⟩
 ·have:cs=[]:=List.length_eq_zero_iff.1 (by simpa using h1)
  subst this;rfl
 ·rfl
theorem listOf_lst (s:St)(n:Nat)(cs:List Pd):listOf s (.v (.c (.p (.lst n cs))))=some (n,cs):=rfl
theorem listOf_own (s:St)(n id:Nat)(cs:List Pd):listOf s (.v (.c (.own n cs id)))=some (n,cs):=rfl
theorem listOf_nils (s:St):listOf s (.v (.c .nils))=some (0,[]):=rfl
def lenK (i:Option TI)(n:Nat):Option D:=match i with
 |some i=>match i.kn with
  |.slice _=>some (P' (.int .i64 n))
  |.array m _=>some (P' (.int .i64 m))
  |_=>none
 |none=>none
def lenS (i:Option TI)(n:Nat):Option D:=match i with
 |some i=>match i.kn with
  |.str=>some (P' (.int .i64 n))
  |.array m _=>some (P' (.int .i64 m))
  |_=>none
 |none=>none
theorem lenD_lst (E:Env)(t n:Nat)(cs:List Pd):lenD E t (.v (.c (.p (.lst n cs))))=lenK (E.ti t) n:=by
 unfold lenD lenK;cases E.ti t with
 |none=>rfl
 |some i=>cases h:i.kn<;>simp only[h]
theorem lenD_own (E:Env)(t n id:Nat)(cs:List Pd):lenD E t (.v (.c (.own n cs id)))=lenK (E.ti t) n:=by
 unfold lenD lenK;cases E.ti t with
 |none=>rfl
 |some i=>cases h:i.kn<;>simp only[h]
theorem lenD_mt (E:Env)(t n r off es:Nat):lenD E t (.v (.c (.mt r off n es)))=lenK (E.ti t) n:=by
 unfold lenD lenK;cases E.ti t with
 |none=>rfl
 |some i=>cases h:i.kn<;>simp only[h]
theorem lenD_gs (E:Env)(t q id off n es:Nat):lenD E t (.v (.c (.gs q id off n es)))=lenK (E.ti t) n:=by
 unfold lenD lenK;cases E.ti t with
 |none=>rfl
 |some i=>obtain⟨a,b,c,d,kn,e⟩:=i;cases kn<;>rfl
theorem lenD_zc (E:Env)(t:Nat):lenD E t (.v (.c .zc))=lenK (E.ti t) 0:=by
 unfold lenD lenK;cases E.ti t with
 |none=>rfl
 |some i=>obtain⟨a,b,c,d,kn,e⟩:=i;cases kn<;>rfl
theorem listOf_zc (s:St):listOf s (.v (.c .zc))=some (0,[]):=rfl
theorem listOf_gs (s:St)(m id off n es:Nat):listOf s (.v (.c (.gs m id off n es)))=match s.get id with
  |some (.grow es' m' cs _)=>match allM purS ((cs.drop off).take (n*es)) with
   |some ps=>if m'=m∧es'=es∧off+n*es≤cs.length then some (n,ps) else none
   |none=>none
  |_=>none:=rfl
theorem cellsAt_gref (s:St)(m id off:Nat):cellsAt s (.v (.c (.gref m id off)))=match s.get id with
  |some (.grow _ m' cs _)=>if m'=m∧off≤cs.length then some (cs.drop off) else none
  |_=>none:=rfl
theorem lenD_nils (E:Env)(t:Nat):lenD E t (.v (.c .nils))=lenK (E.ti t) 0:=by
 unfold lenD lenK;cases E.ti t with
 |none=>rfl
 |some i=>cases h:i.kn<;>simp only[h];rfl
theorem lenD_str (E:Env)(t:Nat)(b:List UInt8):lenD E t (.v (.c (.p (.str b))))=lenS (E.ti t) b.length:=by
 unfold lenD lenS;cases E.ti t with
 |none=>rfl
 |some i=>cases h:i.kn<;>simp only[h]
theorem Wc.seqA {E:Env}{ro:Option Nat}{a b:Code}{x:Fr}{Q:Ex→Fr→Prop}(A:Fr→Prop)(h1:Wc E ro a x fun ex y=>ex=.normal∧A y)(h2:∀ y,A y→Wc E ro b y Q):Wc E ro (.seq a b) x Q :=
 Wc.seq (h1.mono fun ex y h=>by obtain⟨rfl,h⟩:=h;exact h2 y h)
theorem Wc.seqR {E:Env}{ro:Option Nat}{a b:Code}{x:Fr}{Q:Ex→Fr→Prop}(A:Fr→Prop)(h1:Wc E ro a x (thenD A Q))(h2:∀ y,A y→Wc E ro b y Q):Wc E ro (.seq a b) x Q :=
 Wc.seq (h1.mono fun ex y h => by
  cases ex with
  |normal=>exact h2 y h
  |exit i=>exact h
  |ret=>exact h)
theorem Pf.ret {E:Env}{fn:Func}{x:Fr}{d:D}{s3:St}(rs:List ResultVar)(vs:List V)(hd:x.ds=[])(hrs:fn.results.toList=rs)(hr:resultsD E x.e x.s rs=some vs)(hp:purD x.s (packD vs)=some (d,s3)) :
  bodyQ E fn (fun d0 s2=>∃ s3,purD s2 d0=some (d,s3)) .ret x:=by
 subst hrs
 exact⟨x.s,vs,by rw[hd];rfl,hr,s3,hp⟩
theorem Pf.retO {E:Env}{fn:Func}{x:Fr}{es n:Nat}{cs:List Pd}(rs:List ResultVar)(c:C)(hd:x.ds=[])(hrs:fn.results.toList=rs)(hr:resultsD E x.e x.s rs=some [.c c])(ho:Own x.s es (.v (.c c)) n cs) :
  bodyQ E fn (fun d0 s2=>∃ s3,purD s2 d0=some (P' (.lst n cs),s3)) .ret x:=by
 subst hrs
 exact⟨x.s,[.c c],by rw[hd];rfl,hr,x.s,ho.pur⟩
theorem Op.ret {E:Env}{fn:Func}{x:Fr}{K:D→St→Prop}(rs:List ResultVar)(vs:List V)(hd:x.ds=[])(hrs:fn.results.toList=rs)(hr:resultsD E x.e x.s rs=some vs)(hp:K (packD vs) x.s):bodyQ E fn K .ret x:=by
 subst hrs
 exact⟨x.s,vs,by rw[hd];rfl,hr,hp⟩
theorem wpCall.opn {E:Env}{g:Nat}{fn:Func}{c:Code}{args:List D}{a:List V}{s:St}{K:D→St→Prop}(hx:E.xt g=none)(ho:E.opn g=true)(ha:vs? args=some a)(hf:E.fn g=some fn)(hb:fn.body=some c)
  (h:Wc E none c { e:=a.map .v++List.replicate (fn.ntmps-a.length) (.tup []),ds:=[],s:=s } (bodyQ E fn K)):wpCall E (.v (.c (.p (.fnc g)))) args s K:=by
 obtain⟨n,d,s',h1,h2⟩:=Ev.body hf hb h
 exact⟨n+1,d,s',by simp only[callD,ha,runF,hx,ho,if_true,h1],h2⟩
theorem wpCall.val {E:Env}{g:Nat}{fn:Func}{c:Code}{fs cap:List C}{args:List D}{a:List V}{s:St}{K:D→St→Prop}(ha:vs? args=some a)(hf:E.fn g=some fn)(hb:fn.body=some c)
  (h:Wc E none c { e:=(fs.map V.c++a++cap.map V.c).map .v++List.replicate (fn.ntmps-(fs.map V.c++a++cap.map V.c).length) (.tup []),ds:=[],s:=s } (bodyQ E fn K)):wpCall E (.v (.c (.fn (.func g) fs cap))) args s K:=by
 obtain⟨n,d,s',h1,h2⟩:=Ev.body hf hb h
 exact⟨n+1,d,s',by simp only[callD,ha,runF,h1],h2⟩
theorem Own.v {s:St}{es n:Nat}{x:D}{cs:List Pd}(h:Own s es x n cs):∃ c,x=.v (.c c):=by
 obtain⟨_,h2⟩:=h
 rcases h2 with ⟨rfl,_⟩|⟨id,rfl,_⟩<;>exact⟨_,rfl⟩
def andI (k:IntKind)(x y:Int):Int:=k.wrap (BitVec.ofInt k.bits x &&& BitVec.ofInt k.bits y).toNat
def orI (k:IntKind)(x y:Int):Int:=k.wrap (BitVec.ofInt k.bits x ||| BitVec.ofInt k.bits y).toNat
def xorI (k:IntKind)(x y:Int):Int:=k.wrap (BitVec.ofInt k.bits x ^^^ BitVec.ofInt k.bits y).toNat
theorem intI_add (k:IntKind)(x y:Int):intI .add k x y=some (.int k (k.wrap (x+y))):=rfl
theorem intI_sub (k:IntKind)(x y:Int):intI .sub k x y=some (.int k (k.wrap (x-y))):=rfl
theorem intI_mul (k:IntKind)(x y:Int):intI .mul k x y=some (.int k (k.wrap (x*y))):=rfl
theorem intI_quo (k:IntKind)(x y:Int):intI .quo k x y=if y=0 then none else some (.int k (k.wrap (x.tdiv y))):=rfl
theorem intI_rem (k:IntKind)(x y:Int):intI .rem k x y=if y=0 then none else some (.int k (x.tmod y)):=rfl
theorem intI_and (k:IntKind)(x y:Int):intI .and k x y=some (.int k (andI k x y)):=rfl
theorem intI_or (k:IntKind)(x y:Int):intI .or k x y=some (.int k (orI k x y)):=rfl
theorem intI_xor (k:IntKind)(x y:Int):intI .xor k x y=some (.int k (xorI k x y)):=rfl
theorem intI_eql (k:IntKind)(x y:Int):intI .eql k x y=some (.bool (x==y)):=rfl
theorem intI_neq (k:IntKind)(x y:Int):intI .neq k x y=some (.bool (x != y)):=rfl
theorem intI_lss (k:IntKind)(x y:Int):intI .lss k x y=some (.bool (decide (x<y))):=rfl
theorem intI_leq (k:IntKind)(x y:Int):intI .leq k x y=some (.bool (decide (x≤y))):=rfl
theorem intI_gtr (k:IntKind)(x y:Int):intI .gtr k x y=some (.bool (decide (x > y))):=rfl
theorem intI_geq (k:IntKind)(x y:Int):intI .geq k x y=some (.bool (decide (x ≥ y))):=rfl
def shlI (k:IntKind)(x y:Int):Int:=k.wrap (x*2 ^ (min y.toNat k.bits))
def shrI (k:IntKind)(x y:Int):Int:=x.fdiv (2 ^ (min y.toNat k.bits))
theorem shiftI_shl (k:IntKind)(x y:Int):shiftI .shl k x y=if y<0 then none else some (.int k (shlI k x y)):=rfl
theorem shiftI_shr (k:IntKind)(x y:Int):shiftI .shr k x y=if y<0 then none else some (.int k (shrI k x y)):=rfl
theorem ixA {E:Env}{t e:Nat}{i ie:TI}(ht:E.ti t=some i)(hk:i.kn=.slice e)(he:E.ti e=some ie){j m:Nat}{cs:List Pd}(hj:j<m)(hl:cs.length=m*ie.size)(hs:0<ie.size) :
  indexAddrD E t (.v (.c (.p (.lst m cs)))) (.v (.c (.p (.int .i64 (j:Int)))))=some (.v (.c (.rp cs (j*ie.size)))):=by
 unfold indexAddrD
 rw[ht]
 simp only[D.int?,hk,he,Int.toNat_natCast]
 have h1:(j+1)*ie.size≤cs.length:=by rw[hl];exact Nat.mul_le_mul_right _ hj
 rw[if_pos ⟨Int.natCast_nonneg j,by omega,h1,hs⟩]
theorem rpA {cs pre rest:List Pd}{off:Nat}(h:cs.drop off=pre++rest)(hl:off≤cs.length)(s:St):cellsAt s (.v (.c (.rp cs off)))=some ((pre++rest).map .p):=by
 show(if off≤cs.length then some ((cs.drop off).map C.p) else none)=_
 rw[if_pos hl,h]
theorem cellsAt_ref (s:St)(r off:Nat):cellsAt s (.v (.c (.ref r off)))=match s.get r with
  |some (.cells cs _)=>if off≤cs.length then some (cs.drop off) else none
  |some (.tc _ cs)=>if off≤cs.length then some (cs.drop off) else none
  |_=>none:=rfl
theorem drop_map {α:Type}(f:α→Pd){l:List α}{i:Nat}{x:α}(h:l[i]? = some x):(l.map f).drop i=[f x]++(l.drop (i+1)).map f:=by
 have hi:i<l.length:=(List.getElem?_eq_some_iff.1 h).1
 have hx:l[i]=x:=(List.getElem?_eq_some_iff.1 h).2
 rw[← List.map_drop,List.drop_eq_getElem_cons hi,hx];rfl
theorem flat_len {α:Type}{f:α→List Pd}{k:Nat}(hk:∀ x,(f x).length=k):∀ l:List α,(l.flatMap f).length=l.length*k
 |[]=>by simp
 |x::r=>by rw[List.flatMap_cons,List.length_append,hk,flat_len hk r,List.length_cons,Nat.add_mul];omega
theorem drop_flat {α:Type}{f:α→List Pd}{k:Nat}(hk:∀ x,(f x).length=k):∀ {l:List α} {i:Nat} {x:α},l[i]? = some x→(l.flatMap f).drop (i*k)=f x++(l.drop (i+1)).flatMap f
 |[],i,x,h=>by simp at h
 |y::r,0,x,h=>by simp at h;subst h;simp
 |y::r,i+1,x,h=>by
  have:(i+1)*k=(f y).length+i*k:=by rw[hk,Nat.add_mul];omega
  rw[this,List.flatMap_cons,List.drop_append,List.drop_of_length_le (by omega)]
  simp only[List.nil_append]
  have e:(f y).length+i*k-(f y).length=i*k:=by omega
  rw[e,drop_flat hk (by simpa using h)]
  simp
theorem byte_pd (b:UInt8):byteOfPd (pdOfByte b)=some b:=by simp[byteOfPd,pdOfByte]
theorem allM_bytes:∀ l:List UInt8,allM byteOfPd (l.map pdOfByte)=some l
 |[]=>rfl
 |b::r=>by simp only[List.map_cons,allM,byte_pd,allM_bytes r]
/-! ### at the top -/
def topG (W:World):Gh:={ imm:=fun b _=>b<W.heap.size,blk:=fun _=>0,cap:=fun _=>0 }
def s00:St:={ ob:=[],nx:=0 }
def topX (W:World):Ctx:={ B:=W.heap.size,W0:=W,imm0:=fun b _=>b<W.heap.size }
theorem top_inv (W:World):Inv (topX W) (topG W) s00 W :=
 ⟨Below.refl _ W,Nat.le_refl _,fun b o h=>h,fun b o h=>.inl h,fun k o h=>(by cases h),fun k o h=>(by cases h),fun j k oj ok h=>(by cases h)⟩
theorem top_calls {P:Program}{E:Env}(hE:EnvOK P E){g:Nat}{args:List V}{vargs:Array Value}{d:D}{s':St}{W:World}(ha:relVL (topG W) s00 W args vargs.toList)(h:Ev E (.o g) args s00 d s') :
  CallsIn (FW none) 0 P g vargs W fun e W'=>∃ v,e=.returned v∧Below W.heap.size W W'∧∃ G s,relD G s W' d v:=by
 obtain⟨n,hn⟩:=h
 refine((runF_ok hE n).calls g args s00 d s' (topX W) (topG W) W vargs (top_inv W) ha (.inr hn)).2.mono fun e W' hp=>?_
 obtain⟨v,G',rfl,h1,h2,h3⟩:=hp
 exact⟨v,rfl,h1.below,G',s',h3⟩
theorem law_calls {P:Program}{E:Env}(hE:EnvOK P E){g:Nat}{args:List V}{vargs:Array Value}{s':St}{W:World}(ha:relVL (topG W) s00 W args vargs.toList)(h:Ev E (.o g) args s00 (P' (.bool true)) s') :
  CallsIn (FW none) 0 P g vargs W fun e W'=>e=.returned (.bool true)∧Below W.heap.size W W':=by
 refine(top_calls hE ha h).mono fun e W' hp=>?_
 obtain⟨v,rfl,hb,G,s,hr⟩:=hp
 simp only[P',relD,relV,relC,relPd] at hr
 exact⟨by rw[hr],hb⟩
end Go.Proofs.YtedcnhbblgmdnaaGreat.Ab
