/- A part of the proof. -/
import Derived.Test.YtedcnhbblgmdnaaGreatT7
set_option maxHeartbeats 8000000
set_option maxRecDepth 10000
set_option linter.unusedSimpArgs false
set_option linter.unusedVariables false
/- An evaluator of the model's code with slices as pure lists: more fuel tells the same; rules for walking it. -/
namespace Go.Proofs.YtedcnhbblgmdnaaGreat.Ab
section
variable {E:Env} {T T':CallT} {s s':St}
def CallT.le (T T':CallT):Prop:=∀ t args s r,T t args s=some r→T' t args s=some r
theorem callD_mono (h:CallT.le T T'){f:D}{args:List D}{r:D×St}(hr:callD T f args s=some r):callD T' f args s=some r:=by
 unfold callD at hr ⊢
 split at hr
 ·exact h _ _ _ _ hr
 ·exact h _ _ _ _ hr
 ·split at hr
  ·exact h _ _ _ _ hr
  ·cases hr
 ·cases hr
theorem evalOp_mono (h:CallT.le T T'){key:Nat}{o:Op}{f:Operand→D}{r:D×St}(hr:evalOp E T key o f s=some r):evalOp E T' key o f s=some r:=by
 cases o<;>first
  |exact hr
  |(rename_i hint;cases hint<;>exact hr)
  | (simp only [evalOp] at hr ⊢
     split at hr
     · exact hr
     · exact callD_mono h hr
     · exact hr)
theorem stepOp_mono (h:CallT.le T T'){ops:Array Oper}{base i:Nat}{e:List D}{r:List D×St}(hr:stepOp E T ops base i e s=some r):stepOp E T' ops base i e s=some r:=by
 unfold stepOp at hr ⊢
 split at hr
 ·cases hr
 ·split at hr
  ·cases hr
  ·exact hr
  ·split at hr
   ·cases hr
   ·rename_i d s1 hev
    rw[evalOp_mono h hev]
    exact hr
theorem runOps_mono (h:CallT.le T T'){ops:Array Oper}{base:Nat}:∀ {l:List Nat} {e:List D} {s:St} {r:List D×St},runOps E T ops base l e s=some r→runOps E T' ops base l e s=some r
 |[],e,s,r,hr=>hr
 |i::l,e,s,r,hr=>by
  simp only[runOps] at hr ⊢
  split at hr
  ·cases hr
  ·rename_i e1 s1 hst
   rw[stepOp_mono h hst]
   exact runOps_mono h hr
theorem runOpsD_mono (h:CallT.le T T'){ops:Array Oper}{base:Nat}:∀ {l:List Nat} {e:List D} {s:St} {r:List D×St×List Tr},runOpsD E T ops base l e s=some r→runOpsD E T' ops base l e s=some r
 |[],e,s,r,hr=>hr
 |i::l,e,s,r,hr=>by
  simp only[runOpsD] at hr ⊢
  split at hr
  ·cases hr
  ·rename_i e1 s1 hst
   rw[stepOp_mono h hst]
   split at hr
   ·cases hr
   ·rename_i e2 s2 t hrr
    simp only[runOpsD_mono h hrr];exact hr
theorem iterL_mono {S:Type}{f g:S→Option (Ex×S)}(h:∀ x r,f x=some r→g x=some r):∀ {n m:Nat} {x:S} {r:Ex×S},n≤m→iterL f n x=some r→iterL g m x=some r
 |0,m,x,r,_,hr=>by simp[iterL] at hr
 |n+1,0,x,r,hl,hr=>by omega
 |n+1,m+1,x,r,hl,hr=>by
  simp only[iterL] at hr ⊢
  split at hr
  ·cases hr
  ·rename_i y hy;rw[h _ _ hy];exact iterL_mono h (by omega) hr
  ·rename_i i y hy;rw[h _ _ hy];exact hr
  ·rename_i y hy;rw[h _ _ hy];exact hr
theorem evalC_mono (h:CallT.le T T'){n m:Nat}(hl:n≤m){ro:Option Nat}:∀ {c:Code} {x:Fr} {r:Ex×Fr},evalC E T n ro c x=some r→evalC E T' m ro c x=some r:=by
 intro c
 induction c with
 |region id ops d =>
  intro x r hr;simp only[evalC] at hr ⊢
  split at hr
  ·rename_i hd
   rw[if_pos hd]
   split at hr
   ·cases hr
   ·rename_i e s1 t ho
    rw[runOpsD_mono h ho]
    exact hr
  ·rename_i hd
   rw[if_neg hd]
   split at hr
   ·cases hr
   ·rename_i e s1 ho
    rw[runOps_mono h ho]
    exact hr
 |seq a b iha ihb =>
  intro x r hr;simp only[evalC] at hr ⊢
  split at hr
  ·rename_i y hy;rw[iha hy];exact ihb hr
  ·rename_i hne
   rw[iha hr]
   obtain⟨ex,y⟩:=r
   cases ex with
   |normal=>exact absurd hr (hne y)
   |_=>rfl
 |cond c a b iha ihb =>
  intro x r hr;simp only[evalC] at hr ⊢
  split at hr
  ·exact iha hr
  ·exact ihb hr
  ·cases hr
 |block id c ih =>
  intro x r hr;simp only[evalC] at hr ⊢
  split at hr
  ·rename_i i y hy;rw[ih hy];exact hr
  ·rename_i hne
   rw[ih hr]
   obtain⟨ex,y⟩:=r
   cases ex with
   |exit i=>exact absurd hr (hne i y)
   |_=>rfl
 |loop c ih =>
  intro x r hr;simp only[evalC] at hr ⊢;exact iterL_mono (fun x r=>ih) hl hr
 |rangeFunc f ps assign body _ _ =>
  intro x r hr;simp only[evalC] at hr ⊢
  split at hr
  ·cases hr
  ·split at hr
   ·cases hr
   ·split at hr
    ·cases hr
    ·rename_i hc
     rw[h _ _ _ _ hc]
     exact hr
 |_=>intro x r hr;first | exact hr | simp[evalC] at hr
theorem bodyD_mono (h:CallT.le T T'){n m:Nat}(hl:n≤m){g:Nat}{args:List V}{r:D×St}(hr:bodyD E T n g args s=some r):bodyD E T' m g args s=some r:=by
 unfold bodyD at hr ⊢
 split at hr
 ·cases hr
 ·split at hr
  ·cases hr
  ·split at hr
   ·rename_i y hy;simp only[evalC_mono h hl hy];exact hr
   ·rename_i y hy;simp only[evalC_mono h hl hy];exact hr
   ·cases hr
theorem roundD_mono (h:CallT.le T T'){n m:Nat}(hl:n≤m){l:Nat}{args:List V}{r:D×St}(hr:roundD E T n l args s=some r):roundD E T' m l args s=some r:=by
 unfold roundD at hr ⊢
 split at hr
 ·split at hr
  ·cases hr
  ·rename_i hne
   rw[if_neg hne]
   split at hr
   ·rename_i y hy
    simp only[evalC_mono h hl hy]
    split at hr
    ·split at hr
     ·cases hr
     ·rename_i hne2
      rw[if_neg hne2]
      split at hr
      ·cases hr
      ·rename_i x z hz
       simp only[evalC_mono h hl hz];exact hr
    ·cases hr
   ·cases hr
 ·cases hr
theorem runF_succ:∀ n,CallT.le (runF E n) (runF E (n+1))
 |0=>fun t args s r h=>by simp[runF] at h
 |n+1=>fun t args s r h=>by
  have ih:=runF_succ n
  cases t with
  |y l=>exact roundD_mono ih (Nat.le_succ _) h
  |o g=>exact bodyD_mono ih (Nat.le_succ _) h
  |f g =>
   rw[runF] at h ⊢
   simp only at h ⊢
   split at h
   ·exact h
   ·split at h
    ·rename_i ho;rw[if_pos ho];exact bodyD_mono ih (Nat.le_succ _) h
    ·rename_i ho
     rw[if_neg ho]
     split at h
     ·exact bodyD_mono ih (Nat.le_succ _) h
     ·split at h
      ·cases h
      ·rename_i hb
       simp only[bodyD_mono ih (Nat.le_succ _) hb];exact h
theorem runF_le {n m:Nat}(h:n≤m):CallT.le (runF E n) (runF E m):=by
 induction h with
 |refl=>exact fun _ _ _ _ h=>h
 |step _ ih=>exact fun t args s r hr=>runF_succ _ t args s r (ih t args s r hr)
/-! ### the rules -/
def Ev (E:Env)(t:Target)(args:List V)(s:St)(d:D)(s':St):Prop:=∃ n,runF E n t args s=some (d,s')
def Wc (E:Env)(ro:Option Nat)(c:Code)(x:Fr)(Q:Ex→Fr→Prop):Prop:=∃ n ex y,evalC E (runF E n) n ro c x=some (ex,y)∧Q ex y
def Wo (E:Env)(ops:Array Oper)(base:Nat)(l:List Nat)(e:List D)(s:St)(Q:List D→St→Prop):Prop:=∃ n e' s',runOps E (runF E n) ops base l e s=some (e',s')∧Q e' s'
theorem Wc.mono {ro:Option Nat}{c:Code}{x:Fr}{Q Q':Ex→Fr→Prop}(h:Wc E ro c x Q)(hq:∀ ex y,Q ex y→Q' ex y):Wc E ro c x Q' :=
 let ⟨n,ex,y,h1,h2⟩:=h;⟨n,ex,y,h1,hq _ _ h2⟩
theorem Wc.skip {ro:Option Nat}{x:Fr}{Q:Ex→Fr→Prop}(h:Q .normal x):Wc E ro .skip x Q:=⟨0,_,_,rfl,h⟩
theorem Wc.exit {ro:Option Nat}{i:Nat}{x:Fr}{Q:Ex→Fr→Prop}(h:Q (.exit i) x):Wc E ro (.exit i) x Q:=⟨0,_,_,rfl,h⟩
theorem Wc.ret {ro:Option Nat}{x:Fr}{Q:Ex→Fr→Prop}(h:Q .ret x):Wc E ro .ret x Q:=⟨0,_,_,rfl,h⟩
theorem Wc.label {ro:Option Nat}{i:Nat}{x:Fr}{Q:Ex→Fr→Prop}(h:Q .normal x):Wc E ro (.label i) x Q:=⟨0,_,_,rfl,h⟩
def thenD (K:Fr→Prop)(Q:Ex→Fr→Prop):Ex→Fr→Prop
 |.normal,y=>K y
 |e,y=>Q e y
theorem Wc.seq {ro:Option Nat}{a b:Code}{x:Fr}{Q:Ex→Fr→Prop}(h:Wc E ro a x (thenD (fun y=>Wc E ro b y Q) Q)):Wc E ro (.seq a b) x Q:=by
 obtain⟨n,ex,y,h1,h2⟩:=h
 cases ex with
 |normal =>
  obtain⟨m,ex2,z,h3,h4⟩:=h2
  refine⟨max n m,ex2,z,?_,h4⟩
  simp only[evalC,evalC_mono (runF_le (Nat.le_max_left n m)) (Nat.le_max_left n m) h1,evalC_mono (runF_le (Nat.le_max_right n m)) (Nat.le_max_right n m) h3]
 |exit i=>exact⟨n,_,y,by simp only[evalC,h1],h2⟩
 |ret=>exact⟨n,_,y,by simp only[evalC,h1],h2⟩
theorem Wc.cond {ro:Option Nat}{c:Operand}{a b:Code}{x:Fr}{t:Bool}{Q:Ex→Fr→Prop}(hc:(opd x.e c).bool? = some t)(h1:t=true→Wc E ro a x Q)(h2:t=false→Wc E ro b x Q):Wc E ro (.cond c a b) x Q:=by
 cases t with
 |true=>obtain⟨n,ex,y,h3,h4⟩:=h1 rfl;exact⟨n,ex,y,by simp only[evalC,hc,h3],h4⟩
 |false=>obtain⟨n,ex,y,h3,h4⟩:=h2 rfl;exact⟨n,ex,y,by simp only[evalC,hc,h3],h4⟩
def inBlockD (id:Nat)(Q:Ex→Fr→Prop):Ex→Fr→Prop
 |.exit i,y=>if i=id then Q .normal y else Q (.exit i) y
 |e,y=>Q e y
theorem Wc.block {ro:Option Nat}{id:Nat}{c:Code}{x:Fr}{Q:Ex→Fr→Prop}(h:Wc E ro c x (inBlockD id Q)):Wc E ro (.block id c) x Q:=by
 obtain⟨n,ex,y,h1,h2⟩:=h
 cases ex with
 |normal=>exact⟨n,_,y,by simp only[evalC,h1],h2⟩
 |ret=>exact⟨n,_,y,by simp only[evalC,h1],h2⟩
 |exit i =>
  simp only[inBlockD] at h2
  by_cases hi:i=id
  ·rw[if_pos hi] at h2;exact⟨n,_,y,by simp only[evalC,h1,if_pos hi],h2⟩
  ·rw[if_neg hi] at h2;exact⟨n,_,y,by simp only[evalC,h1,if_neg hi],h2⟩
theorem Wc.region {ro:Option Nat}{id:Nat}{ops:Array Oper}{x:Fr}{Q:Ex→Fr→Prop}
  (h:Wo E ops x.s.nx (List.range ops.size) x.e { x.s with nx:=x.s.nx+ops.size } fun e s=>Q .normal { x with e:=e,s:=s }):Wc E ro (.region id ops false) x Q:=by
 obtain⟨n,e,s',h1,h2⟩:=h
 exact⟨n,_,_,by simp only[evalC,Bool.false_eq_true,if_false,h1],h2⟩
theorem Wc.loop {ro:Option Nat}{c:Code}{Q:Ex→Fr→Prop}(I:Nat→Fr→Prop)(h:∀ k x,I k x→Wc E ro c x (thenD (fun y=>∃ j,j<k∧I j y) Q)):∀ {k:Nat} {x:Fr},I k x→Wc E ro (.loop c) x Q:=by
 intro k
 induction k using Nat.strongRecOn with
 |_ k ih =>
  intro x hx
  obtain⟨n,ex,y,h1,h2⟩:=h k x hx
  cases ex with
  |normal =>
   obtain⟨j,hj,hy⟩:=h2
   obtain⟨m,ex2,z,h3,h4⟩:=ih j hj hy
   simp only[evalC] at h3
   refine⟨max n m+1,ex2,z,?_,h4⟩
   simp only[evalC,iterL]
   have l1:n≤max n m+1:=by omega
   have l2:m≤max n m+1:=by omega
   rw[evalC_mono (runF_le l1) l1 h1]
   exact iterL_mono (fun x r=>evalC_mono (runF_le l2) l2) (by omega) h3
  |exit i =>
   have l1:n≤n+1:=by omega
   refine⟨n+1,_,y,?_,h2⟩
   simp only[evalC,iterL]
   rw[evalC_mono (runF_le l1) l1 h1]
  |ret =>
   have l1:n≤n+1:=by omega
   refine⟨n+1,_,y,?_,h2⟩
   simp only[evalC,iterL]
   rw[evalC_mono (runF_le l1) l1 h1]
/-! ### operations, one behind the other -/
theorem Wo.nil {ops:Array Oper}{base:Nat}{e:List D}{Q:List D→St→Prop}(h:Q e s):Wo E ops base [] e s Q:=⟨0,_,_,rfl,h⟩
theorem Wo.cons {ops:Array Oper}{base i:Nat}{l:List Nat}{e e1:List D}{s1:St}{Q:List D→St→Prop}(n:Nat)(h:stepOp E (runF E n) ops base i e s=some (e1,s1))(hk:Wo E ops base l e1 s1 Q):Wo E ops base (i::l) e s Q:=by
 obtain⟨m,e',s',h1,h2⟩:=hk
 refine⟨max n m,e',s',?_,h2⟩
 simp only[runOps,stepOp_mono (runF_le (Nat.le_max_left n m)) h,runOps_mono (runF_le (Nat.le_max_right n m)) h1]
theorem Wo.app {ops:Array Oper}{base:Nat}{l l':List Nat}{e e1:List D}{s1:St}{Q:List D→St→Prop}(h:runOps E (runF E 0) ops base l e s=some (e1,s1))(hk:Wo E ops base l' e1 s1 Q):Wo E ops base (l++l') e s Q:=by
 induction l generalizing e s with
 |nil=>simp only[runOps] at h;cases h;exact hk
 |cons i l ih =>
  simp only[runOps] at h
  split at h
  ·cases h
  ·rename_i e2 s2 hst
   exact Wo.cons 0 hst (ih h)
theorem Wo.call {ops:Array Oper}{base i:Nat}{l:List Nat}{e:List D}{s1:St}{Q:List D→St→Prop}{o:Oper}{c:Call}{f:Operand}{g:Nat}{a:List V}{d:D}(ho:ops[i]? = some o)(hw:wantedD ops o e=some true)(hc:o.op=.call c)(hcal:c.callee=.value f)
  (hf:opd e f=.v (.c (.p (.fnc g)))) (ha:vs? (c.args.toList.map (opd e))=some a) (hev:Ev E (.f g) a s d s1) (hk:Wo E ops base l (putD e o.dst d) s1 Q):Wo E ops base (i::l) e s Q:=by
 obtain⟨n,hn⟩:=hev
 exact Wo.cons n (by simp only[stepOp,ho,hw,hc,evalOp,hcal,callD,hf,ha,hn]) hk
/-! ### functions -/
def bodyQ (E:Env)(fn:Func)(K:D→St→Prop):Ex→Fr→Prop
 |.exit _,_=>False
 |_,y=>∃ s vs,killAll y.ds y.s=some s∧resultsD E y.e s fn.results.toList=some vs∧K (packD vs) s
theorem Ev.body {g:Nat}{fn:Func}{c:Code}{args:List V}{K:D→St→Prop}(hf:E.fn g=some fn)(hb:fn.body=some c)
  (h:Wc E none c { e:=args.map .v++List.replicate (fn.ntmps-args.length) (.tup []),ds:=[],s:=s } (bodyQ E fn K)):∃ n d s',bodyD E (runF E n) n g args s=some (d,s')∧K d s':=by
 obtain⟨n,ex,y,h1,h2⟩:=h
 cases ex with
 |exit i=>exact h2.elim
 |normal =>
  obtain⟨s2,vs,k1,k2,k3⟩:=h2
  exact⟨n,_,_,by simp only[bodyD,hf,hb,h1,k1,k2],k3⟩
 |ret =>
  obtain⟨s2,vs,k1,k2,k3⟩:=h2
  exact⟨n,_,_,by simp only[bodyD,hf,hb,h1,k1,k2],k3⟩
theorem Ev.o {g:Nat}{args:List V}{d:D}(h:∃ n d' s1,bodyD E (runF E n) n g args s=some (d',s1)∧d'=d∧s1=s'):Ev E (.o g) args s d s':=by
 obtain⟨n,d',s1,h1,rfl,rfl⟩:=h
 exact⟨n+1,h1⟩
def Pf (E:Env)(g:Nat)(args:List V)(d:D):Prop:=∃ n d0 s2 s3,bodyD E (runF E n) n g args { ob:=[],nx:=0 }=some (d0,s2)∧purD s2 d0=some (d,s3)
theorem Ev.f {g:Nat}{args as:List V}{d:D}(hx:E.xt g=none)(ho:E.opn g=false)(hp:purVs s args=some (as,s'))(h:Pf E g as d):Ev E (.f g) args s d s':=by
 obtain⟨n,d0,s2,s3,h1,h2⟩:=h
 exact⟨n+1,by simp only[runF,hx,ho,Bool.false_eq_true,if_false,hp,h1,h2]⟩
theorem Ev.opn {g:Nat}{args:List V}{d:D}(hx:E.xt g=none)(ho:E.opn g=true)(h:∃ n d' s1,bodyD E (runF E n) n g args s=some (d',s1)∧d'=d∧s1=s'):Ev E (.f g) args s d s':=by
 obtain⟨n,d',s1,h1,rfl,rfl⟩:=h
 exact⟨n+1,by simp only[runF,hx,ho,if_true];exact h1⟩
end
end Go.Proofs.YtedcnhbblgmdnaaGreat.Ab
/- An evaluator of the model's code with slices as pure lists: walking it by rewriting. -/
namespace Go.Proofs.YtedcnhbblgmdnaaGreat.Ab
section
variable {E:Env} {T T':CallT} {s s':St}
def dst1 (ops:Array Oper)(j:Nat):Option Nat:=match ops[j]? with
 |some o=>o.dst
 |none=>none
def gD (ops:Array Oper)(g:Option (Nat×Bool))(e:List D):Option Bool:=match g with
 |none=>some true
 |some (j,want)=>match dst1 ops j with
  |some t=>match e.getD t .junk with
   |.v (.c (.p (.bool b)))=>some (b==want)
   |.tup []=>some false
   |_=>none
  |none=>none
theorem gD_eq (ops:Array Oper)(o:Oper)(e:List D):wantedD ops o e=gD ops o.guard e:=by
 unfold wantedD gD dst1;cases o.guard with
 |none=>rfl
 |some x =>
  obtain⟨j,w⟩:=x
  simp only;cases ops[j]? with
  |none=>rfl
  |some o=>rfl
def calD (r:Operand→D):Op→Option (D×List D)
 |.call c=>match c.callee with
  |.value f=>some (r f,c.args.toList.map r)
  |_=>none
 |_=>none
def noT:CallT:=fun _ _ _=>none
def wpCall (E:Env)(f:D)(args:List D)(s:St)(K:D→St→Prop):Prop:=∃ n d s',callD (runF E n) f args s=some (d,s')∧K d s'
def stepK (r:Option (D×St))(k:D→St→Prop):Prop:=match r with
 |none=>False
 |some (d,s')=>k d s'
theorem stepK_some {d:D}{s':St}{k:D→St→Prop}:stepK (some (d,s')) k=k d s':=rfl
mutual
def wpL (E:Env)(ops:Array Oper):Nat→List Oper→List D→St→(List D→St→Prop)→Prop
 |_,[],e,s,K=>K e s
 |key,o::r,e,s,K=>match gD ops o.guard e with
  |none=>False
  |some false=>wpL E ops (key+1) r (putD e o.dst (.tup [])) s K
  |some true=>match calD (opd e) o.op with
   |some (f,args)=>wpCall E f args s (kont E ops (key+1) r e o.dst K)
   |none=>stepK (evalOp E noT key o.op (opd e) s) (kont E ops (key+1) r e o.dst K)
def kont (E:Env)(ops:Array Oper):Nat→List Oper→List D→Option Nat→(List D→St→Prop)→D→St→Prop
 |key,r,e,dst,K,d,s'=>wpL E ops key r (putD e dst d) s' K
end
theorem noT_le (T:CallT):CallT.le noT T:=fun _ _ _ _ h=>by simp[noT] at h
theorem calD_some {r:Operand→D}{o:Op}{f:D}{args:List D}(h:calD r o=some (f,args))(T:CallT)(key:Nat)(s:St):evalOp E T key o r s=callD T f args s:=by
 unfold calD at h
 split at h
 ·split at h
  ·rename_i hc;cases h;simp only[evalOp,hc]
  ·cases h
 ·cases h
theorem wpL_ok {ops:Array Oper}{base:Nat}{Q:List D→St→Prop}:∀ {l:List Oper} {i:Nat} {e:List D} {s:St},(∀ j o,l[j]? = some o→ops[i+j]? = some o)→wpL E ops (base+i) l e s Q→Wo E ops base (List.range' i l.length) e s Q
 |[],i,e,s,hl,h=>by
  rw[wpL] at h
  exact Wo.nil h
 |o::l,i,e,s,hl,h=>by
  have ho:ops[i]? = some o:=hl 0 o rfl
  have hl':∀ j o,l[j]? = some o→ops[i+1+j]? = some o:=fun j o' hj=>by
   have:=hl (j+1) o' (by simpa using hj)
   have e1:i+1+j=i+(j+1):=by omega
   rw[e1];exact this
  rw[wpL] at h
  simp only[List.length_cons,List.range'_succ]
  split at h
  ·exact h.elim
  ·rename_i hg
   exact Wo.cons 0 (by simp only[stepOp,ho,gD_eq,hg]) (wpL_ok hl' h)
  ·rename_i hg
   split at h
   ·rename_i f args hc
    obtain⟨n,d,s1,h1,h2⟩:=h
    rw[kont] at h2
    exact Wo.cons n (by simp only[stepOp,ho,gD_eq,hg,calD_some hc,h1]) (wpL_ok hl' h2)
   ·cases hev:evalOp E noT (base+i) o.op (opd e) s with
    |none=>rw[hev] at h;exact h.elim
    |some x =>
     obtain⟨d,s1⟩:=x
     rw[hev,stepK_some,kont] at h
     exact Wo.cons 0 (by simp only[stepOp,ho,gD_eq,hg,evalOp_mono (noT_le _) hev]) (wpL_ok hl' h)
def St.adv (s:St)(n:Nat):St:={ s with nx:=s.nx+n }
theorem St.get_adv (s:St)(n k:Nat):(s.adv n).get k=s.get k:=rfl
theorem St.nx_adv (s:St)(n:Nat):(s.adv n).nx=s.nx+n:=rfl
theorem Wc.reg {ro:Option Nat}{id:Nat}{ops:Array Oper}{x:Fr}{Q:Ex→Fr→Prop}
  (h:∀ K:List D→St→Prop,(∀ e s,Q .normal { x with e:=e,s:=s }→K e s)→wpL E ops x.s.nx ops.toList x.e (x.s.adv ops.size) K):Wc E ro (.region id ops false) x Q:=by
 have h0:=h (fun e s=>Q .normal { x with e:=e,s:=s }) (fun _ _ h=>h)
 refine Wc.region ?_
 have:=wpL_ok (E:=E) (base:=x.s.nx) (i:=0) (ops:=ops) (fun j o hj=>by simpa using hj) h0
 rwa [Array.length_toList,← List.range_eq_range'] at this
/-! ### regions of open order that store nothing -/
mutual
def wpLD (E:Env)(ops:Array Oper):Nat→List Oper→List D→St→(List D→St→Prop)→Prop
 |_,[],e,s,K=>K e s
 |key,o::r,e,s,K=>match gD ops o.guard e with
  |none=>False
  |some false=>wpLD E ops (key+1) r (putD e o.dst (.tup [])) s K
  |some true=>clsOf E o.op (opd e)≤3∧match calD (opd e) o.op with
   |some (f,args)=>wpCall E f args s (kontD E ops (key+1) r e o.dst K)
   |none=>stepK (evalOp E noT key o.op (opd e) s) (kontD E ops (key+1) r e o.dst K)
def kontD (E:Env)(ops:Array Oper):Nat→List Oper→List D→Option Nat→(List D→St→Prop)→D→St→Prop
 |key,r,e,dst,K,d,s'=>wpLD E ops key r (putD e dst d) s' K
end
theorem runOpsD_cons {T:CallT}{ops:Array Oper}{base i:Nat}{l:List Nat}{e e1 e2:List D}{s1 s2:St}{t:List Tr}(h:stepOp E T ops base i e s=some (e1,s1))(h2:runOpsD E T ops base l e1 s1=some (e2,s2,t)) :
  runOpsD E T ops base (i::l) e s=some (e2,s2,trOf E ops i e::t):=by simp only[runOpsD,h,h2]
theorem wpLD_ok {ops:Array Oper}{base:Nat}{K:List D→St→Prop}:∀ {l:List Oper} {i:Nat} {e:List D} {s:St},(∀ j o,l[j]? = some o→ops[i+j]? = some o)→wpLD E ops (base+i) l e s K →
  ∃ n e' s' t,runOpsD E (runF E n) ops base (List.range' i l.length) e s=some (e',s',t)∧(∀ x∈t,x.cls≤3)∧K e' s'
 |[],i,e,s,hl,h=>by
  rw[wpLD] at h
  exact⟨0,e,s,[],rfl,fun x hx=>(by cases hx),h⟩
 |o::l,i,e,s,hl,h=>by
  have ho:ops[i]? = some o:=hl 0 o rfl
  have hl':∀ j o,l[j]? = some o→ops[i+1+j]? = some o:=fun j o' hj=>by
   have:=hl (j+1) o' (by simpa using hj)
   have e1:i+1+j=i+(j+1):=by omega
   rw[e1];exact this
  have join:∀ {n m:Nat} {e1 e2:List D} {s1 s2:St} {t:List Tr},stepOp E (runF E n) ops base i e s=some (e1,s1)→runOpsD E (runF E m) ops base (List.range' (i+1) l.length) e1 s1=some (e2,s2,t)→(trOf E ops i e).cls≤3→(∀ x∈t,x.cls≤3)→K e2 s2 →
    ∃ n e' s' t,runOpsD E (runF E n) ops base (List.range' i (o::l).length) e s=some (e',s',t)∧(∀ x∈t,x.cls≤3)∧K e' s':=fun {n m e1 e2 s1 s2 t} h1 h2 hc ht hK=>by
   refine⟨max n m,e2,s2,trOf E ops i e::t,?_,?_,hK⟩
   ·rw[List.length_cons,List.range'_succ]
    exact runOpsD_cons (stepOp_mono (runF_le (Nat.le_max_left n m)) h1) (runOpsD_mono (runF_le (Nat.le_max_right n m)) h2)
   ·intro x hx;rcases List.mem_cons.1 hx with rfl|hx
    ·exact hc
    ·exact ht x hx
  rw[wpLD] at h
  split at h
  ·exact h.elim
  ·rename_i hg
   obtain⟨m,e2,s2,t,k1,k2,k3⟩:=wpLD_ok hl' h
   exact join (n:=0) (by simp only[stepOp,ho,gD_eq,hg]) k1 (by simp only[trOf,ho,gD_eq,hg];exact Nat.zero_le _) k2 k3
  ·rename_i hg
   obtain⟨hc,h⟩:=h
   have hcl:(trOf E ops i e).cls≤3:=by simp only[trOf,ho,gD_eq,hg];exact hc
   split at h
   ·rename_i f args hcd
    obtain⟨n,d,s1,h1,h2⟩:=h
    rw[kontD] at h2
    obtain⟨m,e2,s2,t,k1,k2,k3⟩:=wpLD_ok hl' h2
    exact join (n:=n) (by simp only[stepOp,ho,gD_eq,hg,calD_some hcd,h1]) k1 hcl k2 k3
   ·cases hev:evalOp E noT (base+i) o.op (opd e) s with
    |none=>rw[hev] at h;exact h.elim
    |some x =>
     obtain⟨d,s1⟩:=x
     rw[hev,stepK_some,kontD] at h
     obtain⟨m,e2,s2,t,k1,k2,k3⟩:=wpLD_ok hl' h
     exact join (n:=0) (by simp only[stepOp,ho,gD_eq,hg,evalOp_mono (noT_le _) hev]) k1 hcl k2 k3
theorem trOK_small (ops:Array Oper):∀ {t:List Tr},(∀ x∈t,x.cls≤3)→trOK ops t=true
 |[],_=>rfl
 |x::r,h=>by
  simp only[trOK,Bool.and_eq_true,List.all_eq_true]
  refine⟨fun y hy=>?_,trOK_small ops fun y hy=>h y (List.mem_cons_of_mem _ hy)⟩
  have h1:=h x (List.mem_cons_self ..)
  have h2:=h y (List.mem_cons_of_mem _ hy)
  simp[pairOK,freeOK,h1,h2]
theorem Wc.regD {ro:Option Nat}{id:Nat}{ops:Array Oper}{x:Fr}{Q:Ex→Fr→Prop}
  (h:∀ K:List D→St→Prop,(∀ e s,Q .normal { x with e:=e,s:=s }→K e s)→wpLD E ops x.s.nx ops.toList x.e (x.s.adv ops.size) K):Wc E ro (.region id ops true) x Q:=by
 have h0:=h (fun e s=>Q .normal { x with e:=e,s:=s }) (fun _ _ h=>h)
 obtain⟨n,e',s',t,h1,h2,h3⟩:=wpLD_ok (E:=E) (base:=x.s.nx) (i:=0) (ops:=ops) (fun j o hj=>by simpa using hj) h0
 rw[Array.length_toList,← List.range_eq_range'] at h1
 refine⟨n,.normal,{ x with e:=e',s:=s' },?_,h3⟩
 have h1':runOpsD E (runF E n) ops x.s.nx (List.range ops.size) x.e { x.s with nx:=x.s.nx+ops.size }=some (e',s',t):=h1
 simp only[evalC,if_true,h1',trOK_small ops h2]
/-! ### regions of open order, all of them -/
mutual
def wpLT (E:Env)(ops:Array Oper):Nat→Nat→List Oper→List D→St→List Tr→(List D→St→Prop)→Prop
 |_,_,[],e,s,acc,K=>trOK ops acc.reverse=true∧K e s
 |key,i,o::r,e,s,acc,K=>match gD ops o.guard e with
  |none=>False
  |some false=>wpLT E ops (key+1) (i+1) r (putD e o.dst (.tup [])) s ({ i:=i,cls:=0,key:=(none,none) } :: acc) K
  |some true=>match calD (opd e) o.op with
   |some (f,args)=>wpCall E f args s (kontT E ops (key+1) (i+1) r e o.dst ({ i:=i,cls:=clsOf E o.op (opd e),key:=touch o.op (opd e) } :: acc) K)
   |none=>stepK (evalOp E noT key o.op (opd e) s) (kontT E ops (key+1) (i+1) r e o.dst ({ i:=i,cls:=clsOf E o.op (opd e),key:=touch o.op (opd e) } :: acc) K)
def kontT (E:Env)(ops:Array Oper):Nat→Nat→List Oper→List D→Option Nat→List Tr→(List D→St→Prop)→D→St→Prop
 |key,i,r,e,dst,acc,K,d,s'=>wpLT E ops key i r (putD e dst d) s' acc K
end
theorem wpLT_ok {ops:Array Oper}{base:Nat}{K:List D→St→Prop}:∀ {l:List Oper} {i:Nat} {e:List D} {s:St} {acc:List Tr},(∀ j o,l[j]? = some o→ops[i+j]? = some o)→wpLT E ops (base+i) i l e s acc K →
  ∃ n e' s' t,runOpsD E (runF E n) ops base (List.range' i l.length) e s=some (e',s',t)∧trOK ops (acc.reverse++t)=true∧K e' s'
 |[],i,e,s,acc,hl,h=>by
  rw[wpLT] at h
  exact⟨0,e,s,[],rfl,by simpa using h.1,h.2⟩
 |o::l,i,e,s,acc,hl,h=>by
  have ho:ops[i]? = some o:=hl 0 o rfl
  have hl':∀ j o,l[j]? = some o→ops[i+1+j]? = some o:=fun j o' hj=>by
   have:=hl (j+1) o' (by simpa using hj)
   have e1:i+1+j=i+(j+1):=by omega
   rw[e1];exact this
  have join:∀ {n m:Nat} {e1 e2:List D} {s1 s2:St} {t:List Tr},stepOp E (runF E n) ops base i e s=some (e1,s1)→runOpsD E (runF E m) ops base (List.range' (i+1) l.length) e1 s1=some (e2,s2,t)→trOK ops ((trOf E ops i e::acc).reverse++t)=true→K e2 s2 →
    ∃ n e' s' t,runOpsD E (runF E n) ops base (List.range' i (o::l).length) e s=some (e',s',t)∧trOK ops (acc.reverse++t)=true∧K e' s':=fun {n m e1 e2 s1 s2 t} h1 h2 ht hK=>by
   refine⟨max n m,e2,s2,trOf E ops i e::t,?_,by simpa using ht,hK⟩
   rw[List.length_cons,List.range'_succ]
   exact runOpsD_cons (stepOp_mono (runF_le (Nat.le_max_left n m)) h1) (runOpsD_mono (runF_le (Nat.le_max_right n m)) h2)
  rw[wpLT] at h
  split at h
  ·exact h.elim
  ·rename_i hg
   obtain⟨m,e2,s2,t,k1,k2,k3⟩:=wpLT_ok hl' h
   exact join (n:=0) (by simp only[stepOp,ho,gD_eq,hg]) k1 (by simp only[trOf,ho,gD_eq,hg];exact k2) k3
  ·rename_i hg
   split at h
   ·rename_i f args hcd
    obtain⟨n,d,s1,h1,h2⟩:=h
    rw[kontT] at h2
    obtain⟨m,e2,s2,t,k1,k2,k3⟩:=wpLT_ok hl' h2
    exact join (n:=n) (by simp only[stepOp,ho,gD_eq,hg,calD_some hcd,h1]) k1 (by simp only[trOf,ho,gD_eq,hg];exact k2) k3
   ·cases hev:evalOp E noT (base+i) o.op (opd e) s with
    |none=>rw[hev] at h;exact h.elim
    |some x =>
     obtain⟨d,s1⟩:=x
     rw[hev,stepK_some,kontT] at h
     obtain⟨m,e2,s2,t,k1,k2,k3⟩:=wpLT_ok hl' h
     exact join (n:=0) (by simp only[stepOp,ho,gD_eq,hg,evalOp_mono (noT_le _) hev]) k1 (by simp only[trOf,ho,gD_eq,hg];exact k2) k3
theorem Wc.regT {ro:Option Nat}{id:Nat}{ops:Array Oper}{x:Fr}{Q:Ex→Fr→Prop}
  (h:∀ K:List D→St→Prop,(∀ e s,Q .normal { x with e:=e,s:=s }→K e s)→wpLT E ops x.s.nx 0 ops.toList x.e (x.s.adv ops.size) [] K):Wc E ro (.region id ops true) x Q:=by
 have h0:=h (fun e s=>Q .normal { x with e:=e,s:=s }) (fun _ _ h=>h)
 obtain⟨n,e',s',t,h1,h2,h3⟩:=wpLT_ok (E:=E) (base:=x.s.nx) (i:=0) (ops:=ops) (fun j o hj=>by simpa using hj) h0
 rw[Array.length_toList,← List.range_eq_range'] at h1
 refine⟨n,.normal,{ x with e:=e',s:=s' },?_,h3⟩
 have h1':runOpsD E (runF E n) ops x.s.nx (List.range ops.size) x.e { x.s with nx:=x.s.nx+ops.size }=some (e',s',t):=h1
 have h2':trOK ops t=true:=by simpa using h2
 simp only[evalC,if_true,h1',h2']
/-! ### slices that are appended to -/
def Own (s:St)(es:Nat)(x:D)(n:Nat)(cs:List Pd):Prop:=cs.length=n*es∧((x=.v (.c .nils)∧n=0)∨∃ id,x=.v (.c (.own n cs id))∧∃ tg,s.get id=some (.front es n tg))
def idOf:D→Option Nat
 |.v (.c (.own _ _ id))=>some id
 |_=>none
structure Kept (s s':St) (x:Option Nat) (key:Nat):Prop where
 get:∀ k o,s.get k=some o→x≠some k→s'.get k=some o
 free:∀ k,k<key→s.get k=none→s'.get k=none
 up:∀ k,key<k→s.get k=none→s'.get k=none
 nx:s.nx≤s'.nx
theorem Kept.refl (s:St)(x:Option Nat)(key:Nat):Kept s s x key:=⟨fun _ _ h _=>h,fun _ _ h=>h,fun _ _ h=>h,Nat.le_refl _⟩
theorem append_ok {key t u e es by_ n m:Nat}{x y:D}{cs ys:List Pd}{k:D→St→Prop}{ie:TI}(ht:∃ i,E.ti t=some i∧i.kn=.slice e)(he:E.ti e=some ie)(hes:ie.size=es)(hby:ie.bytes=by_)(hz:ie.zok=true)(h0:0<es)(h1:0<by_)
  (hx:Own s es x n cs) (hfree:s.get key=none) (hy:srcD E u s y=some (m,ys)) (hl:ys.length=m*es) (hb:(n+m)*by_≤140737488355328)
  (hk:∀ x' s',Own s' es x' (n+m) (cs++ys)→Kept s s' (idOf x) key→(idOf x'=idOf x∨idOf x'=some key)→s'.nx=s.nx→k x' s') (hg:E.gt t=false):stepK (appendD E key [t,u] x y s) k:=by
 obtain⟨i,hti,hkn⟩:=ht
 obtain⟨sz,ag,bb,z,kn,eq⟩:=i
 simp only at hkn;subst hkn;subst hes hby;unfold appendD;simp only[hti,he,hy,hl,if_true]
 obtain⟨hcs,hx⟩:=hx
 by_cases hm:m=0
 ·subst hm
  have hys:ys=[]:=List.length_eq_zero_iff.1 (by simpa using hl)
  subst hys
  rw[if_pos rfl]
  rcases hx with ⟨rfl,rfl⟩|⟨id,rfl,hid⟩
  ·exact hk _ _ ⟨by simpa using hcs,.inl ⟨rfl,rfl⟩⟩ (Kept.refl _ _ _) (.inl rfl) rfl
  ·exact hk _ _ ⟨by simpa using hcs,.inr ⟨id,by simp,by simpa using hid⟩⟩ (Kept.refl _ _ _) (.inl rfl) rfl
 ·rw[if_neg hm]
  rcases hx with ⟨rfl,rfl⟩|⟨id,rfl,tg,hid⟩
  ·simp only
   have hcs0:cs=[]:=List.length_eq_zero_iff.1 (by simpa using hcs)
   subst hcs0
   rw[if_neg (by simp[hg]),if_pos ⟨by simpa using hb,h0,h1,hz⟩]
   refine hk _ _ ⟨by simpa using hl,.inr ⟨key,by simp,e,by simp[St.get_put_same]⟩⟩ ⟨fun j o hj _=>?_,fun j hj hn=>?_,fun j hj hn=>?_,Nat.le_refl _⟩ (.inr rfl) rfl
   ·rw[St.get_put,if_neg (fun e=>by subst e;rw[hfree] at hj;cases hj)];exact hj
   ·rw[St.get_put,if_neg (by omega)];exact hn
   ·rw[St.get_put,if_neg (by omega)];exact hn
  ·simp only[hid]
   rw[if_pos ⟨trivial,trivial,hcs,hb,h0,h1,hz⟩]
   refine hk _ _ ⟨by rw[List.length_append,hcs,hl,Nat.add_mul],.inr ⟨id,rfl,_,St.get_put_same _ _ _⟩⟩ ⟨fun j o hj hne=>?_,fun j hj hn=>?_,fun j hj hn=>?_,Nat.le_refl _⟩ (.inl rfl) rfl
   ·rw[St.get_put,if_neg (fun e=>hne (by rw[idOf,e]))];exact hj
   ·rw[St.get_put,if_neg (fun e=>by subst e;rw[hid] at hn;cases hn)];exact hn
   ·rw[St.get_put,if_neg (fun e=>by subst e;rw[hid] at hn;cases hn)];exact hn
theorem Own.kept {es n key:Nat}{x:D}{cs:List Pd}{y:Option Nat}(h:Own s es x n cs)(hk:Kept s s' y key)(hne:∀ id,idOf x=some id→y≠some id):Own s' es x n cs:=by
 obtain⟨h1,h2⟩:=h
 refine⟨h1,?_⟩
 rcases h2 with h2|⟨id,rfl,tg,hid⟩
 ·exact .inl h2
 ·exact .inr ⟨id,rfl,tg,hk.get _ _ hid (hne id rfl)⟩
structure OA (b:Nat) (s:St) (L:List (Nat×D×Nat×List Pd)) (M:List (Nat×Ob)):Prop where
 free:∀ q,b≤q→s.get q=none
 own:∀ y∈L,Own s y.1 y.2.1 y.2.2.1 y.2.2.2
 dis:L.Pairwise (fun y z=>∀ id,idOf y.2.1=some id→idOf z.2.1≠some id)
 at_:∀ y∈M,s.get y.1=some y.2
 nof:∀ y∈M,y.2.isFront=false
 dism:M.Pairwise (fun y z=>y.1≠z.1)
section
variable {b:Nat} {L L1 L2:List (Nat×D×Nat×List Pd)} {M M1 M2:List (Nat×Ob)}
theorem OA.adv {n:Nat}(h:OA b s L M):OA b (s.adv n) L M:=⟨h.free,h.own,h.dis,h.at_,h.nof,h.dism⟩
theorem OA.mono {b':Nat}(h:OA b s L M)(hb:b≤b'):OA b' s L M:=⟨fun q hq=>h.free q (Nat.le_trans hb hq),h.own,h.dis,h.at_,h.nof,h.dism⟩
theorem OA.lt (h:OA b s L M){k:Nat}{o:Ob}(hk:s.get k=some o):k<b:=by
 rcases Nat.lt_or_ge k b with h1|h1
 ·exact h1
 ·rw[h.free k h1] at hk;cases hk
theorem OA.put {k:Nat}{o:Ob}(h:OA b s L M)(hk:b≤k):OA (k+1) (s.put k o) L M:=by
 have keep:∀ j o',s.get j=some o'→(s.put k o).get j=some o':=fun j o' hj=>by
  have:=h.lt hj
  rw[St.get_put,if_neg (by omega)];exact hj
 refine⟨fun q hq=>by rw[St.get_put,if_neg (by omega)];exact h.free q (by omega),fun y hy=>?_,h.dis,fun y hy=>keep _ _ (h.at_ y hy),h.nof,h.dism⟩
 obtain⟨h1,h2⟩:=h.own y hy
 rcases h2 with h2|⟨id,h2,tg,h3⟩
 ·exact⟨h1,.inl h2⟩
 ·exact⟨h1,.inr ⟨id,h2,tg,keep _ _ h3⟩⟩
theorem OA.new {k:Nat}{o:Ob}(h:OA b s L M)(hk:b≤k)(hf:o.isFront=false):OA (k+1) (s.put k o) L ((k,o)::M):=by
 have h':=h.put (o:=o) hk
 refine⟨h'.free,h'.own,h'.dis,fun y hy=>?_,fun y hy=>?_,List.pairwise_cons.2 ⟨fun y hy=>?_,h.dism⟩⟩
 ·rcases List.mem_cons.1 hy with rfl|hy
  ·exact St.get_put_same _ _ _
  ·exact h'.at_ y hy
 ·rcases List.mem_cons.1 hy with rfl|hy
  ·exact hf
  ·exact h.nof y hy
 ·have:=h.lt (h.at_ y hy)
  simp only;omega
theorem OA.nil {es:Nat}(h:OA b s L M):OA b s ((es,.v (.c .nils),0,[])::L) M :=
 ⟨h.free, fun y hy => by
  rcases List.mem_cons.1 hy with rfl|hy
  ·exact⟨by simp,.inl ⟨rfl,rfl⟩⟩
  ·exact h.own y hy,List.pairwise_cons.2 ⟨fun y hy id hid=>by simp[idOf] at hid,h.dis⟩,h.at_,h.nof,h.dism⟩
theorem OA.front {k es n tg:Nat}{cs:List Pd}(h:OA b s L M)(hk:b≤k)(hl:cs.length=n*es):OA (k+1) (s.put k (.front es n tg)) ((es,.v (.c (.own n cs k)),n,cs)::L) M:=by
 have h':=h.put (o:=.front es n tg) hk
 refine⟨h'.free,fun y hy=>?_,List.pairwise_cons.2 ⟨fun y hy id hid hne=>?_,h.dis⟩,h'.at_,h.nof,h.dism⟩
 ·rcases List.mem_cons.1 hy with rfl|hy
  ·exact⟨hl,.inr ⟨k,rfl,_,St.get_put_same _ _ _⟩⟩
  ·exact h'.own y hy
 ·simp only[idOf,Option.some.injEq] at hid;subst hid
  obtain⟨_,h2⟩:=h.own y hy
  rcases h2 with ⟨h2,_⟩|⟨id,h2,tg,h3⟩
  ·rw[h2] at hne;cases hne
  ·rw[h2] at hne
   simp only[idOf,Option.some.injEq] at hne;subst hne
   have:=h.lt h3
   omega
theorem OA.sub (h:OA b s L M)(hl:L1.Sublist L)(hm:M1.Sublist M):OA b s L1 M1 :=
 ⟨h.free,fun y hy=>h.own y (hl.subset hy),h.dis.sublist hl,fun y hy=>h.at_ y (hm.subset hy),fun y hy=>h.nof y (hm.subset hy),h.dism.sublist hm⟩
theorem OA.set {k:Nat}{o o':Ob}(h:OA b s L (M1++(k,o)::M2))(hf:o'.isFront=false):OA b (s.put k o') L (M1++(k,o')::M2):=by
 have hk:s.get k=some o:=h.at_ (k,o) (by simp)
 have hof:o.isFront=false:=h.nof (k,o) (by simp)
 have hd:=h.dism
 rw[List.pairwise_append,List.pairwise_cons] at hd
 obtain⟨d1,⟨d2,d3⟩,d4⟩:=hd
 refine⟨fun q hq=>?_,fun y hy=>?_,h.dis,fun y hy=>?_,fun y hy=>?_,?_⟩
 ·have:=h.lt hk
  rw[St.get_put,if_neg (by omega)];exact h.free q hq
 ·obtain⟨h1,h2⟩:=h.own y hy
  refine⟨h1,h2.imp id fun ⟨id,h2,tg,h3⟩=>⟨id,h2,tg,?_⟩⟩
  rw[St.get_put,if_neg];exact h3
  rintro rfl
  rw[h3] at hk;cases hk;cases hof
 ·rcases List.mem_append.1 hy with hy|hy
  ·rw[St.get_put,if_neg];exact h.at_ y (by simp[hy])
   exact fun e=>d4 y hy (k,o) (by simp) e.symm
  ·rcases List.mem_cons.1 hy with rfl|hy
   ·exact St.get_put_same _ _ _
   ·rw[St.get_put,if_neg];exact h.at_ y (by simp[hy])
    exact fun e=>d2 y hy e
 ·rcases List.mem_append.1 hy with hy|hy
  ·exact h.nof y (by simp[hy])
  ·rcases List.mem_cons.1 hy with rfl|hy
   ·exact hf
   ·exact h.nof y (by simp[hy])
 ·rw[List.pairwise_append,List.pairwise_cons]
  refine⟨d1,⟨d2,d3⟩,fun y hy z hz=>?_⟩
  rcases List.mem_cons.1 hz with rfl|hz
  ·exact d4 y hy (k,o) (by simp)
  ·exact d4 y hy z (by simp[hz])
theorem OA.app {key t u e es by_ n m:Nat}{x y:D}{cs ys:List Pd}{k:D→St→Prop}{ie:TI}(h:OA b s (L1++(es,x,n,cs)::L2) M)(hkey:b≤key)(ht:∃ i,E.ti t=some i∧i.kn=.slice e)(he:E.ti e=some ie)(hes:ie.size=es)(hby:ie.bytes=by_)(hz:ie.zok=true)(h0:0<es)(h1:0<by_)
  (hy:srcD E u s y=some (m,ys)) (hl:ys.length=m*es) (hb:(n+m)*by_≤140737488355328)
  (hk:∀ x' s',OA (key+1) s' (L1++(es,x',n+m,cs++ys)::L2) M→s'.nx=s.nx→k x' s') (hg:E.gt t=false:=by kernel_rfl):stepK (appendD E key [t,u] x y s) k:=by
 have hx:Own s es x n cs:=h.own (es,x,n,cs) (by simp)
 have hd:=h.dis
 rw[List.pairwise_append,List.pairwise_cons] at hd
 obtain⟨d1,⟨d2,d3⟩,d4⟩:=hd
 simp only at d2 d4
 have e1:∀ y∈L1,∀ id,idOf y.2.1=some id→idOf x≠some id:=fun y hy=>d4 y hy (es,x,n,cs) (by simp)
 have idlt:∀ y∈L1++(es,x,n,cs)::L2,∀ id,idOf y.2.1=some id→id<b:=fun y hy id hid=>by
  obtain⟨_,h2⟩:=h.own y hy
  rcases h2 with ⟨h2,_⟩|⟨id',h2,tg,h3⟩
  ·rw[h2] at hid;cases hid
  ·rw[h2] at hid
   simp only[idOf,Option.some.injEq] at hid;subst hid;exact h.lt h3
 refine append_ok ht he hes hby hz h0 h1 hx (h.free key hkey) hy hl hb (fun x' s' ho hkp hid hnx=>hk x' s' ?_ hnx) hg
 have hne:∀ y∈L1++L2,∀ id,idOf y.2.1=some id→idOf x≠some id∧idOf x'≠some id:=fun y hy id hyid=>by
  have hx1:idOf x≠some id:=by
   rcases List.mem_append.1 hy with hy|hy
   ·exact e1 y hy id hyid
   ·exact fun hxid=>d2 y hy id hxid hyid
  refine⟨hx1,?_⟩
  rcases hid with h2|h2
  ·rw[h2];exact hx1
  ·rw[h2]
   intro e2
   have:=idlt y (by rcases List.mem_append.1 hy with hy | hy<;>simp[hy]) id hyid
   simp only[Option.some.injEq] at e2;omega
 refine⟨fun q hq=>?_,fun y hy=>?_,?_,fun y hy=>?_,h.nof,h.dism⟩
 ·cases hq':s'.get q with
  |none=>rfl
  |some o =>
   exfalso
   rcases Nat.lt_or_ge q (key+1) with h2|h2
   ·omega
   ·-- beyond the key nothing was laid
    have:=hkp.up q (by omega) (h.free q (by omega))
    rw[this] at hq';cases hq'
 ·have hy':y∈L1++L2∨y=(es,x',n+m,cs++ys):=by
   rcases List.mem_append.1 hy with hy|hy
   ·exact .inl (by simp[hy])
   ·rcases List.mem_cons.1 hy with rfl|hy
    ·exact .inr rfl
    ·exact .inl (by simp[hy])
  rcases hy' with hy'|rfl
  ·exact(h.own y (by rcases List.mem_append.1 hy' with hy | hy<;>simp[hy])).kept hkp fun id hyid=>(hne y hy' id hyid).1
  ·exact ho
 ·rw[List.pairwise_append,List.pairwise_cons]
  refine⟨d1,⟨fun y hy id hxid hyid=>(hne y (by simp[hy]) id hyid).2 hxid,d3⟩,fun y hy z hz id hyid hzid=>?_⟩
  rcases List.mem_cons.1 hz with rfl|hz
  ·exact(hne y (by simp[hy]) id hyid).2 hzid
  ·exact d4 y hy z (by simp[hz]) id hyid hzid
 ·refine hkp.get _ _ (h.at_ y hy) fun hxid=>?_
  obtain⟨_,h2⟩:=hx
  rcases h2 with ⟨h2,_⟩|⟨id',h2,tg,h3⟩
  ·rw[h2] at hxid;cases hxid
  ·rw[h2] at hxid
   simp only[idOf,Option.some.injEq] at hxid
   rw[hxid,h.at_ y hy] at h3
   have:=h.nof y hy
   simp only[Option.some.injEq] at h3
   rw[h3] at this
   cases this
theorem OA.appN {key t u e es by_ m:Nat}{x y:D}{ys:List Pd}{k:D→St→Prop}{ie:TI}(h:OA b s L M)(hkey:b≤key)(hx:x=.v (.c .nils))(ht:∃ i,E.ti t=some i∧i.kn=.slice e)(he:E.ti e=some ie)(hes:ie.size=es)(hby:ie.bytes=by_)(hz:ie.zok=true)(h0:0<es)(h1:0<by_)
  (hy:srcD E u s y=some (m,ys)) (hl:ys.length=m*es) (hm:0<m) (hb:m*by_≤140737488355328)
  (hk:∀ s',OA (key+1) s' L ((key,.grow es m (ys.map .p) false)::M)→s'.nx=s.nx→k (.v (.c (.gs m key 0 m es))) s') (hg:E.gt t=true:=by kernel_rfl):stepK (appendD E key [t,u] x y s) k:=by
 obtain⟨i,hti,hkn⟩:=ht
 obtain⟨sz,ag,bb,z,kn,eq⟩:=i
 simp only at hkn;subst hkn hx;subst hes hby;unfold appendD;simp only[hti,he,hy,hl,if_true,hg]
 rw[if_neg (by omega),if_pos ⟨hb,h0,h1,hz⟩]
 exact hk _ (h.new hkey rfl) rfl
theorem OA.appG {key t u e es by_ n m id:Nat}{x y:D}{cs:List C}{ys:List Pd}{k:D→St→Prop}{ie:TI}{M1 M2:List (Nat×Ob)}(h:OA b s L (M1++(id,.grow es n cs false)::M2))(hx:x=.v (.c (.gs n id 0 n es)))(ht:∃ i,E.ti t=some i∧i.kn=.slice e)(he:E.ti e=some ie)(hes:ie.size=es)(hby:ie.bytes=by_)(hz:ie.zok=true)(h0:0<es)(h1:0<by_)
  (hy:srcD E u s y=some (m,ys)) (hl:ys.length=m*es) (hb:(n+m)*by_≤140737488355328)
  (hk:∀ s',OA b s' L (M1++(id,.grow es (n+m) (cs++ys.map .p) false)::M2)→s'.nx=s.nx→k (.v (.c (.gs (n+m) id 0 (n+m) es))) s') (hg:E.gt t=true:=by kernel_rfl):stepK (appendD E key [t,u] x y s) k:=by
 obtain⟨i,hti,hkn⟩:=ht
 obtain⟨sz,ag,bb,z,kn,eq⟩:=i
 simp only at hkn;subst hkn hx;subst hes hby
 have hid:s.get id=some (.grow ie.size n cs false):=h.at_ (id,.grow ie.size n cs false) (by simp)
 unfold appendD;simp only[hti,he,hy,hl,if_true]
 by_cases hm:m=0
 ·subst hm
  have hys:ys=[]:=List.length_eq_zero_iff.1 (by simpa using hl)
  subst hys
  rw[if_pos rfl,if_pos hg]
  simp only[List.map_nil,List.append_nil,Nat.add_zero] at hk;exact hk _ h rfl
 ·rw[if_neg hm]
  simp only[hid]
  rw[if_pos ⟨hg,trivial,trivial,trivial,trivial,trivial,hb,h0,h1,hz⟩]
  exact hk _ (h.set rfl) rfl
end
/-! ### calls -/
theorem wpCall.mk {f:Nat}{args:List D}{a:List V}{d:D}{K:D→St→Prop}(ha:vs? args=some a)(h:Ev E (.f f) a s d s')(hk:K d s'):wpCall E (.v (.c (.p (.fnc f)))) args s K:=by
 obtain⟨n,hn⟩:=h
 exact⟨n,d,s',by simp only[callD,ha,hn],hk⟩
theorem wpCall.pf {f:Nat}{args:List D}{a as:List V}{d:D}{K:D→St→Prop}(h:Pf E f as d)(hx:E.xt f=none)(ho:E.opn f=false)(ha:vs? args=some a)(hp:purVs s a=some (as,s'))(hk:K d s'):wpCall E (.v (.c (.p (.fnc f)))) args s K :=
 wpCall.mk ha (Ev.f hx ho hp h) hk
theorem Pf.body {g:Nat}{fn:Func}{c:Code}{args:List V}{d:D}(hf:E.fn g=some fn)(hb:fn.body=some c)
  (h:Wc E none c { e:=args.map .v++List.replicate (fn.ntmps-args.length) (.tup []),ds:=[],s:={ ob:=[],nx:=0 } } (bodyQ E fn fun d0 s2=>∃ s3,purD s2 d0=some (d,s3))):Pf E g args d:=by
 obtain⟨n,d0,s2,h1,s3,h2⟩:=Ev.body hf hb h
 exact⟨n,d0,s2,s3,h1,h2⟩
theorem bodyQ.ret {fn:Func}{K:D→St→Prop}{x:Fr}{s:St}{vs:List V}(hk:killAll x.ds x.s=some s)(hr:resultsD E x.e s fn.results.toList=some vs)(h:K (packD vs) s):bodyQ E fn K .ret x:=⟨s,vs,hk,hr,h⟩
theorem bodyQ.normal {fn:Func}{K:D→St→Prop}{x:Fr}{s:St}{vs:List V}(hk:killAll x.ds x.s=some s)(hr:resultsD E x.e s fn.results.toList=some vs)(h:K (packD vs) s):bodyQ E fn K .normal x:=⟨s,vs,hk,hr,h⟩
end
end Go.Proofs.YtedcnhbblgmdnaaGreat.Ab
