/- A part of the proof. -/
import Derived.Test.YtedcnhbblgmdnaaGreatT20
set_option maxHeartbeats 8000000
set_option maxRecDepth 10000
set_option linter.unusedSimpArgs false
set_option linter.unusedVariables false
namespace Go.Proofs.YtedcnhbblgmdnaaGreat.Ab
theorem encT_len {l:List Int}(h:(encT l).2=0):(encT l).1.length≤40+20*l.length:=by
 unfold encT at *
 by_cases hc:chkT l=0
 ·rw[if_pos hc]
  obtain⟨hl2,hV⟩:=chkT_ok hc
  have hR:∀ x∈l,inR x=true:=fun x hx=>by have:=hV x hx;simp[inR];omega
  have hD:=diffs_mem hV
  have hDR:∀ x∈diffs l,inR x=true:=fun x hx=>by have:=hD x hx;simp[inR];omega
  have hDD:=diffs_mem hD
  have hDDR:(diffs (diffs l)).all inR=true:=List.all_eq_true.2 fun d hd=>by have:=hDD d hd;simp[inR];omega
  have hdl:=diffs_len l
  have hddl:=diffs_len (diffs l)
  have hrl:=runE_len _ (diffs (diffs l)) (Nat.le_refl _) hDDR kO
  have f1:=first1_len hR
  have f2:=first1_len hDR
  have hvl:=vb_len10 (n:=l.length) kO
  simp only[List.length_append];omega
 ·rw[if_neg hc] at h
  exact absurd h hc
theorem encV_len2 {l:List Int}(h:(encV l).2=0):(encV l).1.length≤40+20*l.length:=by
 unfold encV at *
 by_cases h1:20000<l.length
 ·rw[if_pos h1] at h;cases h
 rw[if_neg h1] at h ⊢
 by_cases h2:l.all inV=true
 ·rw[if_pos h2]
  have hV:=inV_all h2
  have hR:∀ x∈l,inR x=true:=fun x hx=>inV_R (List.all_eq_true.1 h2 x hx)
  have hdR:(diffs l).all inR=true:=List.all_eq_true.2 fun d hd=>by have:=diffs_mem hV d hd;simp[inR];omega
  have hdl:=diffs_len l
  have hrl:=runE_len _ (diffs l) (Nat.le_refl _) hdR kO
  have f1:=first1_len hR
  have hvl:=vb_len10 (n:=l.length) kO
  simp only[List.length_append];omega
 ·rw[if_neg h2] at h;cases h
theorem encI_len2 {l:List Int}(h:(encI l).2=0):(encI l).1.length≤40+20*l.length:=by
 unfold encI at *
 by_cases h1:20000<l.length
 ·rw[if_pos h1] at h;cases h
 rw[if_neg h1] at h ⊢
 by_cases h2:l.all inR=true
 ·rw[if_pos h2]
  have hvl:=vb_len10 (n:=l.length) kO
  have:=encL_len l h2
  simp only[List.length_append];omega
 ·rw[if_neg h2] at h;cases h
theorem encF_len {f:Int}{l:List Int}(h:(encF f l).2=0):(encF f l).1.length≤40+20*l.length:=by
 unfold encF at *
 split at h
 ·rename_i h0;rw[if_pos h0];exact encT_len h
 ·split at h
  ·rename_i h0 h1;rw[if_neg h0,if_pos h1];exact encV_len2 h
  ·rename_i h0 h1;rw[if_neg h0,if_neg h1];exact encI_len2 h
def colsOK (cs:List (List UInt8×Int)):Option (List (List UInt8)):=if cs.all (fun c=>c.2==0) then some (cs.map (·.1)) else none
theorem colsOK_cons (c : List UInt8 × Int) (r : List (List UInt8 × Int)) : colsOK (c :: r) = if c.2 = 0 then (match colsOK r with
  |some ss=>some (c.1::ss)
  |none=>none) else none:=by
 unfold colsOK
 by_cases h:c.2=0
 ·have hb:(c.2==0)=true:=by simpa using h
  rw[if_pos h,List.all_cons,hb,Bool.true_and,List.map_cons]
  cases r.all (fun c=>c.2==0)<;>rfl
 ·have hb:(c.2==0)=false:=by simpa using h
  rw[if_neg h,List.all_cons,hb,Bool.false_and];rfl
theorem packE_cols {A:Type}(l:List A):∀ cols:List (Col A),packE l cols=colsOK (cols.map fun c=>encF c.f (l.map c.get))
 |[]=>rfl
 |c::r=>by rw[List.map_cons,colsOK_cons,packE,packE_cols l r];rfl
/-! ### the parts, one behind the other -/
def flatP (ss:List (List UInt8)):List UInt8:=ss.flatMap fun s=>vb s.length++s
theorem jn_eq:∀(ss:List (List UInt8))(t:List UInt8),t.length≤262144→jn t ss=if 262144<(t++flatP ss).length then none else some (t++flatP ss)
 |[],t,h=>by
  have e:t++flatP []=t:=by simp[flatP]
  rw[e,if_neg kO];rfl
 |s::r,t,h=>by
  have e:t++flatP (s::r)=(t++vb s.length++s)++flatP r:=by simp[flatP]
  rw[e]
  simp only[jn]
  by_cases h1:262144<(t++vb s.length++s).length
  ·rw[if_pos h1,if_pos (by rw[List.length_append];omega)]
  ·rw[if_neg h1,jn_eq r _ kO]
theorem partW_bad (cs:List (List UInt8×Int)):cs.foldl (fun w c=>partW w c.1 c.2) (([]:List UInt8),(4:Int))=([],4):=by
 induction cs with
 |nil=>rfl
 |cons c r ih=>rw[List.foldl_cons];exact ih
theorem partW_cols:∀(cs:List (List UInt8×Int))(t:List UInt8),(∀ c∈cs,c.1.length<2^40)→cs.foldl (fun w c=>partW w c.1 c.2) (t,(0:Int))=match colsOK cs with
  |some ss=>(t++flatP ss,0)
  |none=>([],4)
 |[],t,_=>by simp[colsOK,flatP]
 |c::r,t,h=>by
  rw[List.foldl_cons,colsOK_cons]
  have hc:=h c kS
  by_cases h1:c.2=0
  ·have e:partW (t,0) c.1 c.2=(t++vb c.1.length++c.1,0):=by
    unfold partW
    rw[if_neg kS,if_neg (by simpa using h1)]
    have:appV t (c.1.length:Int)=(t++vb c.1.length,0):=by unfold appV;rw[if_neg kO,Int.toNat_natCast]
    rw[this]
   rw[e,partW_cols r _ fun d hd=>h d (by simp[hd]),if_pos h1]
   cases colsOK r with
   |none=>rfl
   |some ss=>simp[flatP]
  ·have e:partW (t,0) c.1 c.2=([],4):=by
    unfold partW
    rw[if_neg kS,if_pos h1]
   rw[e,partW_bad,if_neg h1]
def encC (sig:Int)(lab:Pd)(z:List Pd)(t:List UInt8)(cs:List (List UInt8×Int)):D:=match colsOK cs with
 |none=>.tup [noCh,.c (.p (pI 4))]
 |some ss=>finE sig lab z (jn t ss)
theorem encC_w {sig:Int}{lab:Pd}{z:List Pd}{t:List UInt8}{cs:List (List UInt8×Int)}(ht:t.length≤262144)(h:∀ c∈cs,c.1.length<2^40){w:List UInt8×Int}(hw:w=cs.foldl (fun w c=>partW w c.1 c.2) (t,(0:Int))) :
  (if w.2≠0∨262144<w.1.length then D.tup [noCh,.c (.p (pI 4))] else .tup [chV sig lab z w.1,.c (.p (pI 0))])=encC sig lab z t cs:=by
 rw[hw,partW_cols cs t h]
 unfold encC;cases colsOK cs with
 |none=>rfl
 |some ss =>
  simp only
  rw[jn_eq ss t ht]
  by_cases h1:262144<(t++flatP ss).length
  ·rw[if_pos (.inr h1),if_pos h1];rfl
  ·have h2:¬ ((0:Int)≠0∨262144<(t++flatP ss).length):=by simp at h1 ⊢;omega
   rw[if_neg h2,if_neg h1];rfl
/-! ### zones -/
/-! ### what a valid series is -/
theorem sck_ok {k:Int}:∀ {l:List I2} {p:Option Int},sck k p l=0→∀ x∈l,smpOK x=true
 |[],p,h,x,hx=>by cases hx
 |y::r,p,h,x,hx=>by
  have h1:¬ (smpOK y=false∨(k=2∧y.2<0)):=fun hb=>by
   cases p<;>simp only[sck] at h<;>rw[if_pos hb] at h<;>cases h
  have h2:sck k (some y.1) r=0:=by
   cases p with
   |none=>simp only[sck] at h;rw[if_neg h1] at h;exact h
   |some z =>
    simp only[sck] at h
    rw[if_neg h1] at h
    split at h
    ·cases h
    ·exact h
  rcases List.mem_cons.1 hx with rfl|hx
  ·cases hs:smpOK x with
   |true=>rfl
   |false=>exact absurd (.inl hs) h1
  ·exact sck_ok h2 x hx
theorem sckA_ok {k:Int}{l:List I2}(h:sckA k l=0):(k=1∨k=2)∧l.length≤2000∧∀ x∈l,isT x.1=true∧isVl x.2=true:=by
 unfold sckA at h
 split at h
 ·cases h
 ·split at h
  ·cases h
  ·refine⟨kO,kO,fun x hx=>?_⟩
   have:=sck_ok h x hx
   simpa[smpOK] using this
abbrev Zo.pd (z:Zo):List Pd:=[pI z.c,pI z.t1,pI z.t2,pI z.v1,pI z.v2,.int .u32 0,.int .u32 0,.int .u32 0,.int .u32 0,.int .u32 0,.int .u32 0,.int .u32 0,.int .u32 0]
theorem jn_pre {cs:List (List UInt8×Int)}{ss:List (List UInt8)}{m:Nat}(h:colsOK cs=some ss)(hl:∀ c∈cs,c.2=0→c.1.length≤m):∀ s∈ss,s.length≤m:=by
 unfold colsOK at h
 split at h
 ·rename_i ha
  cases h;intro s hs
  obtain⟨c,hc,rfl⟩:=List.mem_map.1 hs
  exact hl c hc (by simpa using List.all_eq_true.1 ha c hc)
 ·cases h
def Fs (e:List D)(n:Nat):List (Nat×D)→Prop
 |[]=>e.length=n
 |(j,d)::r=>e.getD j .junk=d∧Fs e n r
theorem OA.newB {s:St}{c k:Nat}{o:Ob}{L:List (Nat×D×Nat×List Pd)}{M:List (Nat×Ob)}(h:OA k s L M)(hc:k<c)(hf:o.isFront=false):OA c (s.put k o) L ((k,o)::M) :=
 (h.new (Nat.le_refl _) hf).mono hc
theorem OA.advB {s:St}{c n:Nat}{L:List (Nat×D×Nat×List Pd)}{M:List (Nat×Ob)}(h:OA c s L M):OA c (s.adv n) L M:=h.adv
def OAs (c:Nat)(s:St)(L:List (Nat×D×Nat×List Pd))(M1:List (Nat×Ob))(k:Nat)(M2:List (Nat×Ob)):Prop:=∃ o,OA c s L (M1++(k,o)::M2)
theorem OAs.adv {c n:Nat}{s:St}{L:List (Nat×D×Nat×List Pd)}{M1 M2:List (Nat×Ob)}{k:Nat}(h:OAs c s L M1 k M2):OAs c (s.adv n) L M1 k M2:=by
 obtain⟨o,h⟩:=h;exact⟨o,h.adv⟩
theorem OAs.put {c:Nat}{s:St}{L:List (Nat×D×Nat×List Pd)}{M1 M2:List (Nat×Ob)}{k:Nat}{o':Ob}(h:OAs c s L M1 k M2)(hf:o'.isFront=false:=by rfl):OAs c (s.put k o') L M1 k M2:=by
 obtain⟨o,h⟩:=h;exact⟨o',h.set hf⟩
theorem OA.ofS {c:Nat}{s:St}{L:List (Nat×D×Nat×List Pd)}{M1 M2:List (Nat×Ob)}{k:Nat}{o':Ob}(h:OAs c s L M1 k M2)(hf:o'.isFront=false:=by rfl):OA c (s.put k o') L (M1++(k,o')::M2):=by
 obtain⟨o,h⟩:=h;exact h.set hf
theorem oM {b b':Nat}{s:St}{L:List (Nat×D×Nat×List Pd)}{M:List (Nat×Ob)}(h:OA b s L M)(hb:b≤b':=by omega):OA b' s L M:=h.mono hb
theorem oN {s:St}{c k:Nat}{o:Ob}{L:List (Nat×D×Nat×List Pd)}{M:List (Nat×Ob)}(h:OA k s L M)(hc:k<c:=by omega)(hf:o.isFront=false:=by rfl):OA c (s.put k o) L ((k,o)::M):=OA.newB h hc hf
theorem oA {s:St}{c n:Nat}{L:List (Nat×D×Nat×List Pd)}{M:List (Nat×Ob)}(h:OA c s L M):OA c (s.adv n) L M:=h.adv
theorem oP {s:St}{c k:Nat}{o:Ob}{L:List (Nat×D×Nat×List Pd)}{M:List (Nat×Ob)}(h:OA k s L M)(hc:k<c:=by omega):OA c (s.put k o) L M:=(h.put (Nat.le_refl _)).mono hc
theorem oZ{P:Prop}(h:P:=by(try simp only[gI]);repeat (first | exact oM ho | refine oN ?_ | refine oA ?_)):P:=h
theorem oW{P:Prop}(h:P:=by(try simp only[gI]);repeat (first | exact oM s00_oa | refine oN ?_ | refine oA ?_)):P:=h
theorem oV{P:Prop}(h:P:=by(try simp only[gI]);repeat (first | exact oM ho | refine oN ?_ | refine oP ?_ | refine oA ?_)):P:=h
attribute [go_sem] St.put_put Fs
/-! ### buckets of samples -/
structure Bkt where
 st:Int
 c:Int
 s:Int
 mn:Int
 mx:Int
 f:Int
 l:Int
 ft:Int
 lt:Int
 inc:Int
abbrev Bkt.pd (b:Bkt):List Pd:=[pI b.st,pI b.c,pI b.s,pI b.mn,pI b.mx,pI b.f,pI b.l,pI b.ft,pI b.lt,pI b.inc]
def stepV (a b:Int):Int:=if b<a then b else b-a
def startOf (w t:Int):Int:=(t-1).tdiv w*w
def single (w:Int)(x:I2):Bkt:=⟨startOf w x.1,1,x.2,x.2,x.2,x.2,x.2,x.1,x.1,0⟩
def minI (a b:Int):Int:=if b<a then b else a
def maxI (a b:Int):Int:=if b > a then b else a
def joinB (k:Int)(a b:Bkt):Bkt:=⟨a.st,a.c+b.c,a.s+b.s,minI a.mn b.mn,maxI a.mx b.mx,a.f,b.l,a.ft,b.lt,if k=2 then a.inc+b.inc+stepV a.l b.f else a.inc⟩
def appB (k:Int)(l:List Bkt)(b:Bkt):List Bkt:=match l.getLast? with
 |none=>[b]
 |some a=>if a.st=b.st then l.dropLast++[joinB k a b] else l++[b]
def ofB (k w:Int)(l:List I2):List Bkt:=l.foldl (fun acc x=>appB k acc (single w x)) []
def pieces (w:Int):List I2→List (Int×List I2)
 |[]=>[]
 |x::r=>(startOf w x.1,x::r.takeWhile fun y=>decide (y.1-startOf w x.1≤w))::pieces w (r.dropWhile fun y=>decide (y.1-startOf w x.1≤w))
termination_by l=>l.length
decreasing_by
 have:=(List.dropWhile_sublist (p:=fun y:I2=>decide (y.1-startOf w x.1≤w)) (l:=r)).length_le
 simp only[List.length_cons];omega
def incV:List I2→Int
 |x::y::r=>stepV x.2 y.2+incV (y::r)
 |_=>0
def sumV (l:List I2):Int:=l.foldl (fun s x=>s+x.2) 0
def sumB (k st:Int)(x:I2)(r:List I2):Bkt:=⟨st,(x::r).length,sumV (x::r),(x::r).foldl (fun m y=>minI m y.2) x.2,(x::r).foldl (fun m y=>maxI m y.2) x.2,x.2,((x::r).getLast kS).2,x.1,((x::r).getLast kS).1,if k=2 then incV (x::r) else 0⟩
def sumP (k:Int)(p:Int×List I2):List Bkt:=match p.2 with
 |[]=>[]
 |x::r=>[sumB k p.1 x r]
def rollB (k w:Int)(l:List I2):List Bkt:=(pieces w l).flatMap (sumP k)
theorem start_le {w t:Int}(hw:1≤w)(ht:1≤t):startOf w t<t∧t≤startOf w t+w∧0≤startOf w t:=by
 unfold startOf
 have e:(t-1).tdiv w=(t-1) / w:=Int.tdiv_eq_ediv_of_nonneg kO
 rw[e]
 have h1:=Int.emod_add_mul_ediv (t-1) w
 have h2:=Int.emod_nonneg (t-1) (show w≠0 by omega)
 have h3:=Int.emod_lt_of_pos (t-1) (show 0<w by omega)
 rw[Int.mul_comm w] at h1
 have h4:0≤(t-1) / w:=Int.ediv_nonneg kO kO
 have h5:=Int.mul_nonneg h4 (show 0≤w by omega)
 omega
theorem start_eq {w t u:Int}(hw:1≤w)(ht:1≤t)(hu:t<u):(u-startOf w t≤w) ↔ startOf w t=startOf w u:=by
 obtain⟨a1,a2,a3⟩:=start_le hw ht
 obtain⟨b1,b2,b3⟩:=start_le hw (show 1≤u by omega)
 constructor
 ·intro h
  have e1:startOf w t=(t-1) / w*w:=by unfold startOf;rw[Int.tdiv_eq_ediv_of_nonneg kO]
  have e2:startOf w u=(u-1) / w*w:=by unfold startOf;rw[Int.tdiv_eq_ediv_of_nonneg kO]
  have hm:(t-1) / w≤(u-1) / w:=Int.ediv_le_ediv kO kO
  rcases Int.lt_or_eq_of_le hm with h1|h1
  ·have h2:((t-1) / w+1)*w≤(u-1) / w*w:=Int.mul_le_mul_of_nonneg_right kO kO
   rw[Int.add_mul,Int.one_mul] at h2
   omega
  ·rw[e1,e2,h1]
 ·intro h;omega
theorem appB_same {k:Int}{acc:List Bkt}{a b:Bkt}(h:a.st=b.st):appB k (acc++[a]) b=acc++[joinB k a b]:=by
 simp[appB,h]
theorem appB_new {k:Int}{acc:List Bkt}{b:Bkt}(h:∀ a,acc.getLast? = some a→a.st≠b.st):appB k acc b=acc++[b]:=by
 unfold appB;cases hl:acc.getLast? with
 |none=>have:=List.getLast?_eq_none_iff.1 hl;subst this;rfl
 |some a=>simp only;rw[if_neg (h a hl)]
theorem incV_snoc:∀(x:I2)(r:List I2)(y:I2),incV (x::(r++[y]))=incV (x::r)+stepV ((x::r).getLast kS).2 y.2
 |x,[],y=>by simp[incV]
 |x,z::r,y=>by
  have:=incV_snoc z r y
  simp only[List.cons_append,incV] at this ⊢
  rw[this,List.getLast_cons (by simp:z::r≠[])]
  omega
theorem sumB_snoc (k:Int)(w:Int)(st:Int)(x:I2)(r:List I2)(y:I2)(hst:startOf w y.1=st):sumB k st x (r++[y])=joinB k (sumB k st x r) (single w y):=by
 have hl:(x::(r++[y])).getLast kS=y:=by
  have:x::(r++[y])=(x::r)++[y]:=rfl
  simp only[this,List.getLast_concat]
 unfold sumB joinB single;simp only[hl,Bkt.mk.injEq,true_and]
 refine⟨by simp,?_,?_,?_,?_⟩
 ·unfold sumV
  rw[← List.cons_append,List.foldl_append];rfl
 ·rw[← List.cons_append,List.foldl_append];rfl
 ·rw[← List.cons_append,List.foldl_append];rfl
 ·split
  ·rw[incV_snoc];omega
  ·rfl
theorem sumB_one (k w:Int)(x:I2):sumB k (startOf w x.1) x []=single w x:=by
 unfold sumB single;simp only[Bkt.mk.injEq,true_and]
 refine⟨by simp,by simp[sumV],by simp[minI],by simp[maxI],by simp,by simp,?_⟩
 split<;>rfl
theorem fold_piece (k w:Int)(acc:List Bkt)(x:I2):∀(n:Nat) (r:List I2),r.length=n→(∀ y∈r,startOf w y.1=startOf w x.1)→(acc.getLast?.map (·.st)≠some (startOf w x.1)) →
  (x::r).foldl (fun acc x=>appB k acc (single w x)) acc=acc++[sumB k (startOf w x.1) x r]
 |0,r,hn,_,hacc=>by
  have:r=[]:=List.length_eq_zero_iff.1 hn
  subst this;simp only[List.foldl_cons,List.foldl_nil]
  rw[appB_new,sumB_one]
  intro a ha he
  rw[ha] at hacc
  exact hacc (by simp[he];rfl)
 |n+1,r,hn,hr,hacc=>by
  have hne:r≠[]:=fun e=>by rw[e] at hn;simp at hn
  obtain⟨q,y,rfl⟩:∃ q y,r=q++[y]:=⟨r.dropLast,r.getLast hne,(List.dropLast_concat_getLast hne).symm⟩
  have ih:=fold_piece k w acc x n q (by simpa using hn) (fun z hz=>hr z (by simp[hz])) hacc
  rw[← List.cons_append,List.foldl_append,ih]
  simp only[List.foldl_cons,List.foldl_nil]
  have hy:=hr y kS
  rw[appB_same (by rw[show(sumB k (startOf w x.1) x q).st=startOf w x.1 from rfl];exact hy.symm),← sumB_snoc k w _ x q y hy]
theorem takeWhile_append_drop {A:Type}(p:A→Bool)(l:List A):l=l.takeWhile p++l.dropWhile p:=(List.takeWhile_append_dropWhile).symm
theorem roll_of (k w:Int)(hw:1≤w):∀(n:Nat) (l:List I2) (acc:List Bkt),l.length≤n→l.Pairwise (fun a b=>a.1<b.1)→(∀ x∈l,1≤x.1)→(∀ x,l.head? = some x→acc.getLast?.map (·.st)≠some (startOf w x.1)) →
  l.foldl (fun acc x=>appB k acc (single w x)) acc=acc++rollB k w l
 |0,l,acc,hn,_,_,_=>by
  have:l=[]:=List.length_eq_zero_iff.1 kO
  subst this
  simp[rollB,pieces]
 |n+1,[],acc,hn,_,_,_=>by simp[rollB,pieces]
 |n+1,x::r,acc,hn,hs,hb,hacc=>by
  obtain⟨h1,h2⟩:=List.pairwise_cons.1 hs
  have hx:=hb x kS
  obtain⟨G,hG⟩:∃ G,r.takeWhile (fun y=>decide (y.1-startOf w x.1≤w))=G:=⟨_,rfl⟩
  obtain⟨R,hR⟩:∃ R,r.dropWhile (fun y=>decide (y.1-startOf w x.1≤w))=R:=⟨_,rfl⟩
  have hr:r=G++R:=by rw[← hG,← hR];exact takeWhile_append_drop _ _
  have hroll:rollB k w (x::r)=sumB k (startOf w x.1) x G::rollB k w R:=by
   unfold rollB
   rw[pieces,hG,hR,List.flatMap_cons]
   rfl
  have hGst:∀ y∈G,startOf w y.1=startOf w x.1:=fun y hy=>by
   have hy2:y∈r.takeWhile (fun y=>decide (y.1-startOf w x.1≤w)):=hG ▸ hy
   have hp:=List.all_eq_true.1 (List.all_takeWhile (p:=fun y:I2=>decide (y.1-startOf w x.1≤w)) (l:=r)) y hy2
   have hyr:y∈r:=by rw[hr];simp[hy]
   exact((start_eq hw hx (h1 y hyr)).1 (by simpa using hp)).symm
  rw[hroll]
  conv=>lhs;rw[hr,← List.cons_append,List.foldl_append]
  rw[fold_piece k w acc x G.length G rfl hGst (hacc x rfl)]
  rw[roll_of k w hw n R (acc++[sumB k (startOf w x.1) x G]) ?_ ?_ ?_ ?_]
  ·simp
  ·simp only[List.length_cons] at hn
   have:=congrArg List.length hr
   rw[List.length_append] at this
   omega
  ·rw[hr] at h2
   exact(List.pairwise_append.1 h2).2.1
  ·intro y hy;exact hb y (by rw[hr];simp[hy])
  ·intro y hy;simp only[List.getLast?_append,List.getLast?_singleton,Option.some_or,Option.map_some];intro he;simp only[Option.some.injEq] at he
   have he2:startOf w x.1=startOf w y.1:=he
   have hyr:y∈r:=by rw[hr];cases R with
    |nil=>cases hy
    |cons a q=>simp at hy;subst hy;simp
   have:=(start_eq hw hx (h1 y hyr)).2 he2
   have hnot:¬ (decide (y.1-startOf w x.1≤w)=true):=by
    cases R with
    |nil=>cases hy
    |cons a q =>
     simp at hy;subst hy
     have:=List.head_dropWhile_not (p:=fun y:I2=>decide (y.1-startOf w x.1≤w)) (l:=r) (by rw[hR];simp)
     simp only[hR,List.head_cons] at this
     simpa using this
   exact hnot (by simpa using this)
theorem rollB_eq {k w:Int}(hw:1≤w){l:List I2}(hs:l.Pairwise (fun a b=>a.1<b.1))(hb:∀ x∈l,1≤x.1):rollB k w l=ofB k w l:=by
 have:=roll_of k w hw l.length l [] (Nat.le_refl _) hs hb (fun x _=>by simp)
 simp only[List.nil_append] at this;exact this.symm
theorem pf224 (n:Int):Pf E0 224 [.c (.p (.int .i64 n))] (P' (.bool (isVl n))):=by
 refine gQ (fn:=Tryz.f224) ?_;simp only[gL,Tryz.ntmps224,Nat.reduceSub,Nat.reduceAdd];refine gY ?_;refine Wc.seq ?_
 by_cases h : -1099511627776≤n
 ·apply gR kB;exact wr (gV [.tmp 2] [.c (.p (.bool (isVl n)))] (by simp only[go_sem,isVl,h,Bool.true_and]))
 ·apply gR kB;exact wr (gV [.tmp 2] [.c (.p (.bool (isVl n)))] (by simp only[go_sem,isVl,h,Bool.false_and]))
def okV (k v:Int):Bool:=isVl v && !((k==2)&&decide (v<0))
theorem mulB {c v:Int}(h1:1≤c)(h2:c≤2000)(h3 : -1099511627776≤v)(h4:v≤1099511627776) : -2199023255552000≤c*v∧c*v≤2199023255552000:=by
 rcases Int.le_total 0 v with h|h
 ·have a:=Int.mul_le_mul_of_nonneg_right h2 h
  have b:=Int.mul_nonneg (show 0≤c by omega) h
  omega
 ·have a:=Int.mul_le_mul_of_nonneg_right h2 (show 0≤-v by omega)
  have b:=Int.mul_nonneg (show 0≤c by omega) (show 0≤-v by omega)
  rw[Int.mul_neg,Int.mul_neg] at a
  rw[Int.mul_neg] at b
  omega
def bkA1 (w:Int)(b:Bkt):Bool:=decide (b.ft≤b.st) || decide (b.lt<b.ft) || decide (b.st+w<b.lt) || decide (1099511627776<b.lt)
def bkA2 (b:Bkt):Bool:=decide (b.c<1) || decide (2000<b.c) || ((b.ft==b.lt) !=(b.c==1))
def bkA3 (k:Int)(b:Bkt):Bool:=okV k b.mn&&(okV k b.mx&&(okV k b.f&&okV k b.l))
def bkA4 (b:Bkt):Bool:=decide (b.f<b.mn) || decide (b.mx<b.f) || decide (b.l<b.mn) || decide (b.mx<b.l)
def bkA5 (b:Bkt):Bool:=decide (b.s<b.c*b.mn) || decide (b.c*b.mx<b.s)
def bkA6 (k:Int)(b:Bkt):Bool:=((k==1)&&(b.inc != 0)) || decide (b.inc<0) || decide ((b.c-1)*1099511627776<b.inc)
def bkA7 (b:Bkt):Bool:=decide (1<b.c) || ((((b.s==b.mn)&&(b.mn==b.mx))&&(b.f==b.mn))&&(b.l==b.mn))
def bkA (k w:Int)(b:Bkt):Bool:=!bkA1 w b&&(!bkA2 b&&(bkA3 k b&&(!bkA4 b&&(!bkA5 b&&(!bkA6 k b&&bkA7 b)))))
theorem bne_false {a b:Bool}:(a != b) = !(a==b):=rfl
theorem pf155 (b:Bkt)(k w:Int)(hs:0≤b.st∧b.st<1099511627776)(hw:1≤w∧w≤1099511627776):Pf E0 155 [.agg (b.pd.map .p),.c (.p (pI k)),.c (.p (pI w))] (P' (.bool (bkA k w b))):=by
 have w1:IntKind.i64.wrap (b.st+w)=b.st+w:=by rw[wi64];omega
 generalize hR:bkA k w b=R;unfold bkA at hR;refine gQ (fn:=Tryz.f155) ?_;simp only[gL,Tryz.ntmps155,Nat.reduceSub,Nat.reduceAdd];refine gY ?_
 have hF:True:=trivial
 refine Wc.seqR (fun y=>bkA1 w b=false∧y.ds=[]∧Fs y.e 174 [(1,P' (pI k)),(2,P' (pI w)),(3,.v (.c (.ref 0 0)))]∧OA y.s.nx y.s [] [(0,.cells (b.pd.map .p) false)]) ?_ ?_
 ·refine Wc.seq ?_
  have bad:bkA1 w b=true→false=R:=fun h=>by rw[← hR,h];rfl
  unfold bkA1 at bad ⊢;rcases gK (decide (b.ft≤b.st)) with z1|z1
  ·apply gR (by simp only[go_sem,w1,z1];rfl);apply gT (by simp only[go_sem,w1,z1]);refine gY ?_
   rw[← bad (by simp only[z1];rfl)]
   exact wr (gU [.tmp 6] [.c (.p (.bool false))])
  rcases gK (decide (b.lt<b.ft)) with z2|z2
  ·apply gR (by simp only[go_sem,w1,z1,z2];rfl);apply gT (by simp only[go_sem,w1,z1,z2]);refine gY ?_
   rw[← bad (by simp only[z1,z2];rfl)]
   exact wr (gU [.tmp 6] [.c (.p (.bool false))])
  rcases gK (decide (b.st+w<b.lt)) with z3|z3
  ·apply gR (by simp only[go_sem,w1,z1,z2,z3];rfl);apply gT (by simp only[go_sem,w1,z1,z2,z3]);refine gY ?_
   rw[← bad (by simp only[z1,z2,z3];rfl)]
   exact wr (gU [.tmp 6] [.c (.p (.bool false))])
  rcases gK (decide (1099511627776<b.lt)) with z4|z4
  ·apply gR (by simp only[go_sem,w1,z1,z2,z3,z4];rfl);apply gT (by simp only[go_sem,w1,z1,z2,z3,z4]);refine gY ?_
   rw[← bad (by simp only[z1,z2,z3,z4];rfl)]
   exact wr (gU [.tmp 6] [.c (.p (.bool false))])
  apply gR (by simp only[go_sem,w1,z1,z2,z3,z4];rfl);apply gF (by simp only[go_sem,w1,z1,z2,z3,z4])
  exact⟨by simp only[z1,z2,z3,z4];rfl,rfl,by simp only[go_sem],by(try simp only[gI]);repeat (first | exact oM s00_oa | refine oN ?_ | refine oA ?_)⟩
 clear hF
 rintro⟨e,ds,s1⟩ ⟨c1,rfl,hF,ho⟩
 simp only[Fs] at hF ho
 have g0:=ho.at_ (0,.cells (b.pd.map .p) false) kS
 simp only[gm] at g0
 rw[c1] at hR
 refine Wc.seqR (fun y=>(bkA2 b=false∧1≤b.c∧b.c≤2000)∧y.ds=[]∧Fs y.e 174 [(1,P' (pI k)),(2,P' (pI w)),(3,.v (.c (.ref 0 0)))]∧OA y.s.nx y.s [] [(0,.cells (b.pd.map .p) false)]) ?_ ?_
 ·refine Wc.seq ?_
  have bad:bkA2 b=true→false=R:=fun h=>by rw[← hR,h];rfl
  unfold bkA2 at bad ⊢;rcases gK (decide (b.c<1)) with z1|z1
  ·apply gR (by simp only[go_sem,hF,g0,z1];rfl);apply gT (by simp only[go_sem,hF,g0,z1]);apply gS kG
   rw[← bad (by simp only[bne_false,z1];rfl)]
   exact wr (gV [.tmp 6] [.c (.p (.bool false))] kF)
  rcases gK (decide (2000<b.c)) with z2|z2
  ·apply gR (by simp only[go_sem,hF,g0,z1,z2];rfl);apply gT (by simp only[go_sem,hF,g0,z1,z2]);apply gS kG
   rw[← bad (by simp only[bne_false,z1,z2];rfl)]
   exact wr (gV [.tmp 6] [.c (.p (.bool false))] kF)
  rcases gK (!((b.ft==b.lt)==(b.c==1))) with z3|z3
  ·apply gR (by simp only[go_sem,hF,g0,z1,z2,z3];rfl);apply gT (by simp only[go_sem,hF,g0,z1,z2,z3]);apply gS kG
   rw[← bad (by simp only[bne_false,z1,z2,z3];rfl)]
   exact wr (gV [.tmp 6] [.c (.p (.bool false))] kF)
  apply gR (by simp only[go_sem,hF,g0,z1,z2,z3];rfl);apply gF (by simp only[go_sem,hF,g0,z1,z2,z3])
  exact⟨⟨by simp only[bne_false,z1,z2,z3];rfl,by have:=of_decide_eq_false z1;omega,by have:=of_decide_eq_false z2;omega⟩,rfl,by simp only[go_sem,hF],by(try simp only[gI]);repeat (first | exact oM ho | refine oN ?_ | refine oA ?_)⟩
 clear hF ho g0 e s1
 rintro⟨e,ds,s1⟩ ⟨⟨c2,hc1,hc2⟩,rfl,hF,ho⟩
 simp only[Fs] at hF ho
 have g0:=ho.at_ (0,.cells (b.pd.map .p) false) kS
 simp only[gm] at g0
 rw[c2] at hR
 refine Wc.seqR (fun y=>bkA3 k b=true∧y.ds=[]∧Fs y.e 174 [(1,P' (pI k)),(2,P' (pI w)),(3,.v (.c (.ref 0 0)))]∧OA y.s.nx y.s [] [(0,.cells (b.pd.map .p) false)]) ?_ ?_
 ·refine Wc.seq ?_
  have bad:∀ v,(v=b.mn∨v=b.mx∨v=b.f∨v=b.l)→okV k v=false→false=R:=fun v hv h=>by
   rw[← hR]
   have:bkA3 k b=false:=by
    unfold bkA3;rcases hv with rfl|rfl|rfl|rfl<;>simp[h]
   rw[this];rfl
  apply gR kC;refine Wc.block (Wc.loop (fun c y=>∃ i:Nat,c=4-i∧i≤4∧y.ds=[]∧Fs y.e 174 [(1,P' (pI k)),(2,P' (pI w)),(3,.v (.c (.ref 0 0))),(62,.v (.agg [.p (pI b.mn),.p (pI b.mx),.p (pI b.f),.p (pI b.l)])),(63,P' (pI i))]∧OA y.s.nx y.s [] [(0,.cells (b.pd.map .p) false)]∧((1≤i→okV k b.mn=true)∧(2≤i→okV k b.mx=true)∧(3≤i→okV k b.f=true)∧(4≤i→okV k b.l=true))) ?_ (k:=4) ?_)
  ·clear hF ho g0 e s1;rintro c ⟨e,ds,s1⟩ ⟨i,rfl,hi,rfl,hF,ho,hok⟩;simp only[Fs] at hF ho;apply gS kG;refine Wc.seq (Wc.cond (t:=decide ((i:Int)<4)) kF (fun hc=>?_) (fun hc=>?_))
   ·have hil:i<4:=gi hc
    obtain⟨v,hvi,hvm,hnx⟩:∃ v,List.take 1 (List.drop i [C.p (pI b.mn),C.p (pI b.mx),C.p (pI b.f),C.p (pI b.l)])=[C.p (pI v)]∧(v=b.mn∨v=b.mx∨v=b.f∨v=b.l)∧(okV k v=true→(1≤i+1→okV k b.mn=true)∧(2≤i+1→okV k b.mx=true)∧(3≤i+1→okV k b.f=true)∧(4≤i+1→okV k b.l=true)):=by
     obtain⟨k1,k2,k3,k4⟩:=hok
     rcases (show i=0∨i=1∨i=2∨i=3 by omega) with rfl|rfl|rfl|rfl
     ·exact⟨b.mn,rfl,.inl rfl,fun h=>⟨fun _=>h,fun h=>kO,fun h=>kO,fun h=>kO⟩⟩
     ·exact⟨b.mx,rfl,.inr (.inl rfl),fun h=>⟨fun _=>k1 kO,fun _=>h,fun h=>kO,fun h=>kO⟩⟩
     ·exact⟨b.f,rfl,.inr (.inr (.inl rfl)),fun h=>⟨fun _=>k1 kO,fun _=>k2 kO,fun _=>h,fun h=>kO⟩⟩
     ·exact⟨b.l,rfl,.inr (.inr (.inr rfl)),fun h=>⟨fun _=>k1 kO,fun _=>k2 kO,fun _=>k3 kO,fun _=>h⟩⟩
    have h4:((i:Int)<((4:Nat):Int))=True:=by simp;omega
    have h5:(i+1≤4)=True:=by simp;omega
    refine Wc.skip (Wc.seq (Wc.block (Wc.seq ?_)));apply gR (by simp only[go_sem,hF,h4,h5,hvi];rfl);refine Wc.seq ?_
    have hokv:okV k v=(isVl v && !((k==2)&&decide (v<0))):=rfl
    have p:=pf224 v
    have good:okV k v=true→(1≤i+1→okV k b.mn=true)∧(2≤i+1→okV k b.mx=true)∧(3≤i+1→okV k b.f=true)∧(4≤i+1→okV k b.l=true):=hnx
    cases hI:isVl v with
    |false =>
     rw[hI] at p
     refine gM fun K F=>?_;simp only[go_sem,hF];refine gP p ?_;simp only[go_sem,hF];apply F;clear F K;apply gT kF;apply gS kG
     rw[← bad v hvm (by rw[hokv,hI];rfl)]
     exact wr (gV [.tmp 6] [.c (.p (.bool false))] kF)
    |true =>
     rw[hI] at p
     cases hk2:(k==2) with
     |false =>
      refine gM fun K F=>?_;simp only[go_sem,hF];refine gP p ?_;simp only[go_sem,hF,hk2];apply F;clear F K;apply gF (by simp only[go_sem,hF,hk2]);apply gR kX
      exact⟨4-(i+1),kO,i+1,rfl,kO,rfl,by simp only[go_sem,hF],by(try simp only[gI]);repeat (first | exact oM ho | refine oN ?_ | refine oA ?_),good (by rw[hokv,hI,hk2];rfl)⟩
     |true =>
      cases hv0:decide (v<0) with
      |true =>
       refine gM fun K F=>?_;simp only[go_sem,hF];refine gP p ?_;simp only[go_sem,hF,hk2,hv0];apply F;clear F K;apply gT (by simp only[go_sem,hF,hk2,hv0]);apply gS kG
       rw[← bad v hvm (by rw[hokv,hI,hk2,hv0];rfl)]
       exact wr (gV [.tmp 6] [.c (.p (.bool false))] kF)
      |false =>
       refine gM fun K F=>?_;simp only[go_sem,hF];refine gP p ?_;simp only[go_sem,hF,hk2,hv0];apply F;clear F K;apply gF (by simp only[go_sem,hF,hk2,hv0]);apply gR kX
       exact⟨4-(i+1),kO,i+1,rfl,kO,rfl,by simp only[go_sem,hF],by(try simp only[gI]);repeat (first | exact oM ho | refine oN ?_ | refine oA ?_),good (by rw[hokv,hI,hk2,hv0];rfl)⟩
   ·have hil:i=4:=by have:=of_decide_eq_false hc;omega
    subst hil;exact Wc.exit ⟨by unfold bkA3;rw[hok.1 kO,hok.2.1 kO,hok.2.2.1 kO,hok.2.2.2 kO];rfl,rfl,by simp only[go_sem,hF],by(try simp only[gI]);repeat (first | exact oM ho | refine oN ?_ | refine oA ?_)⟩
  ·exact⟨0,rfl,kO,rfl,by simp only[go_sem,hF],by(try simp only[gI]);repeat (first | exact oM ho | refine oN ?_ | refine oA ?_),fun h=>kO,fun h=>kO,fun h=>kO,fun h=>kO⟩
 clear hF ho g0 e s1
 rintro⟨e,ds,s1⟩ ⟨c3,rfl,hF,ho⟩
 simp only[Fs] at hF ho
 have g0:=ho.at_ (0,.cells (b.pd.map .p) false) kS
 simp only[gm] at g0
 rw[c3] at hR
 have hv:(-1099511627776≤b.mn∧b.mn≤1099511627776)∧(-1099511627776≤b.mx∧b.mx≤1099511627776):=by
  simp only[bkA3,okV,isVl,Bool.and_eq_true,decide_eq_true_eq] at c3;omega
 obtain⟨m1,m2⟩:=mulB hc1 hc2 hv.1.1 hv.1.2
 obtain⟨m3,m4⟩:=mulB hc1 hc2 hv.2.1 hv.2.2
 have w2:IntKind.i64.wrap (b.c*b.mn)=b.c*b.mn:=by rw[wi64];omega
 have w3:IntKind.i64.wrap (b.c*b.mx)=b.c*b.mx:=by rw[wi64];omega
 have w4:IntKind.i64.wrap (IntKind.i64.wrap (b.c-1)*1099511627776)=(b.c-1)*1099511627776:=by rw[wi64,wi64];omega
 refine Wc.seqR (fun y=>bkA4 b=false∧y.ds=[]∧Fs y.e 174 [(1,P' (pI k)),(2,P' (pI w)),(3,.v (.c (.ref 0 0)))]∧OA y.s.nx y.s [] [(0,.cells (b.pd.map .p) false)]) ?_ ?_
 ·refine Wc.seq ?_
  have bad:bkA4 b=true→false=R:=fun h=>by rw[← hR,h];rfl
  unfold bkA4 at bad ⊢;rcases gK (decide (b.f<b.mn)) with z1|z1
  ·apply gR (by simp only[go_sem,hF,g0,z1];rfl);apply gT (by simp only[go_sem,hF,g0,z1]);apply gS kG
   rw[← bad (by simp only[z1];rfl)]
   exact wr (gV [.tmp 6] [.c (.p (.bool false))] kF)
  rcases gK (decide (b.mx<b.f)) with z2|z2
  ·apply gR (by simp only[go_sem,hF,g0,z1,z2];rfl);apply gT (by simp only[go_sem,hF,g0,z1,z2]);apply gS kG
   rw[← bad (by simp only[z1,z2];rfl)]
   exact wr (gV [.tmp 6] [.c (.p (.bool false))] kF)
  rcases gK (decide (b.l<b.mn)) with z3|z3
  ·apply gR (by simp only[go_sem,hF,g0,z1,z2,z3];rfl);apply gT (by simp only[go_sem,hF,g0,z1,z2,z3]);apply gS kG
   rw[← bad (by simp only[z1,z2,z3];rfl)]
   exact wr (gV [.tmp 6] [.c (.p (.bool false))] kF)
  rcases gK (decide (b.mx<b.l)) with z4|z4
  ·apply gR (by simp only[go_sem,hF,g0,z1,z2,z3,z4];rfl);apply gT (by simp only[go_sem,hF,g0,z1,z2,z3,z4]);apply gS kG
   rw[← bad (by simp only[z1,z2,z3,z4];rfl)]
   exact wr (gV [.tmp 6] [.c (.p (.bool false))] kF)
  apply gR (by simp only[go_sem,hF,g0,z1,z2,z3,z4];rfl);apply gF (by simp only[go_sem,hF,g0,z1,z2,z3,z4])
  exact⟨by simp only[z1,z2,z3,z4];rfl,rfl,by simp only[go_sem,hF],by(try simp only[gI]);repeat (first | exact oM ho | refine oN ?_ | refine oA ?_)⟩
 clear hF ho g0 e s1
 rintro⟨e,ds,s1⟩ ⟨c4,rfl,hF,ho⟩
 simp only[Fs] at hF ho
 have g0:=ho.at_ (0,.cells (b.pd.map .p) false) kS
 simp only[gm] at g0
 rw[c4] at hR
 refine Wc.seqR (fun y=>bkA5 b=false∧y.ds=[]∧Fs y.e 174 [(1,P' (pI k)),(2,P' (pI w)),(3,.v (.c (.ref 0 0)))]∧OA y.s.nx y.s [] [(0,.cells (b.pd.map .p) false)]) ?_ ?_
 ·refine Wc.seq ?_
  have bad:bkA5 b=true→false=R:=fun h=>by rw[← hR,h];rfl
  unfold bkA5 at bad ⊢;rcases gK (decide (b.s<b.c*b.mn)) with z1|z1
  ·apply gR (by simp only[go_sem,hF,g0,w2,w3,z1];rfl);apply gT (by simp only[go_sem,hF,g0,w2,w3,z1]);apply gS kG
   rw[← bad (by simp only[z1];rfl)]
   exact wr (gV [.tmp 6] [.c (.p (.bool false))] kF)
  rcases gK (decide (b.c*b.mx<b.s)) with z2|z2
  ·apply gR (by simp only[go_sem,hF,g0,w2,w3,z1,z2];rfl);apply gT (by simp only[go_sem,hF,g0,w2,w3,z1,z2]);apply gS kG
   rw[← bad (by simp only[z1,z2];rfl)]
   exact wr (gV [.tmp 6] [.c (.p (.bool false))] kF)
  apply gR (by simp only[go_sem,hF,g0,w2,w3,z1,z2];rfl);apply gF (by simp only[go_sem,hF,g0,w2,w3,z1,z2])
  exact⟨by simp only[z1,z2];rfl,rfl,by simp only[go_sem,hF],by(try simp only[gI]);repeat (first | exact oM ho | refine oN ?_ | refine oA ?_)⟩
 clear hF ho g0 e s1
 rintro⟨e,ds,s1⟩ ⟨c5,rfl,hF,ho⟩
 simp only[Fs] at hF ho
 have g0:=ho.at_ (0,.cells (b.pd.map .p) false) kS
 simp only[gm] at g0
 rw[c5] at hR
 refine Wc.seqR (fun y=>bkA6 k b=false∧y.ds=[]∧Fs y.e 174 [(1,P' (pI k)),(2,P' (pI w)),(3,.v (.c (.ref 0 0)))]∧OA y.s.nx y.s [] [(0,.cells (b.pd.map .p) false)]) ?_ ?_
 ·refine Wc.seq ?_
  have bad:bkA6 k b=true→false=R:=fun h=>by rw[← hR,h];rfl
  unfold bkA6 at bad ⊢;cases gK (k==1) with
  |inl k1 =>
   rcases gK (b.inc != 0) with z1|z1
   ·apply gR (by simp only[go_sem,hF,g0,k1,w4,z1];rfl);apply gT (by simp only[go_sem,hF,g0,k1,w4,z1]);apply gS kG
    rw[← bad (by simp only[k1,z1];rfl)]
    exact wr (gV [.tmp 6] [.c (.p (.bool false))] kF)
   rcases gK (decide (b.inc<0)) with z2|z2
   ·apply gR (by simp only[go_sem,hF,g0,k1,w4,z1,z2];rfl);apply gT (by simp only[go_sem,hF,g0,k1,w4,z1,z2]);apply gS kG
    rw[← bad (by simp only[k1,z1,z2];rfl)]
    exact wr (gV [.tmp 6] [.c (.p (.bool false))] kF)
   rcases gK (decide ((b.c-1)*1099511627776<b.inc)) with z3|z3
   ·apply gR (by simp only[go_sem,hF,g0,k1,w4,z1,z2,z3];rfl);apply gT (by simp only[go_sem,hF,g0,k1,w4,z1,z2,z3]);apply gS kG
    rw[← bad (by simp only[k1,z1,z2,z3];rfl)]
    exact wr (gV [.tmp 6] [.c (.p (.bool false))] kF)
   apply gR (by simp only[go_sem,hF,g0,k1,w4,z1,z2,z3];rfl);apply gF (by simp only[go_sem,hF,g0,k1,w4,z1,z2,z3])
   exact⟨by simp only[k1,z1,z2,z3];rfl,rfl,by simp only[go_sem,hF],by(try simp only[gI]);repeat (first | exact oM ho | refine oN ?_ | refine oA ?_)⟩
  |inr k1 =>
   rcases gK (decide (b.inc<0)) with z1|z1
   ·apply gR (by simp only[go_sem,hF,g0,k1,w4,z1];rfl);apply gT (by simp only[go_sem,hF,g0,k1,w4,z1]);apply gS kG
    rw[← bad (by simp only[k1,z1];rfl)]
    exact wr (gV [.tmp 6] [.c (.p (.bool false))] kF)
   rcases gK (decide ((b.c-1)*1099511627776<b.inc)) with z2|z2
   ·apply gR (by simp only[go_sem,hF,g0,k1,w4,z1,z2];rfl);apply gT (by simp only[go_sem,hF,g0,k1,w4,z1,z2]);apply gS kG
    rw[← bad (by simp only[k1,z1,z2];rfl)]
    exact wr (gV [.tmp 6] [.c (.p (.bool false))] kF)
   apply gR (by simp only[go_sem,hF,g0,k1,w4,z1,z2];rfl);apply gF (by simp only[go_sem,hF,g0,k1,w4,z1,z2])
   exact⟨by simp only[k1,z1,z2];rfl,rfl,by simp only[go_sem,hF],by(try simp only[gI]);repeat (first | exact oM ho | refine oN ?_ | refine oA ?_)⟩
 clear hF ho g0 e s1
 rintro⟨e,ds,s1⟩ ⟨c6,rfl,hF,ho⟩
 simp only[Fs] at hF ho
 have g0:=ho.at_ (0,.cells (b.pd.map .p) false) kS
 simp only[gm] at g0
 rw[c6] at hR
 subst hR;refine Wc.seq ?_
 have fin:∀(e:List D) (s:St),e.getD 6 .junk=P' (.bool (bkA7 b))→Wc E0 none .ret { e:=e,ds:=[],s:=s } (bodyQ E0 Tryz.f155 fun d0 s2=>∃ s3,purD s2 d0=some (P' (.bool (bkA7 b)),s3)):=fun e s h =>
  Wc.ret (gV [.tmp 6] [.c (.p (.bool (bkA7 b)))] (by simp only[go_sem,h]))
 cases z1:decide (1<b.c) with
 |true =>
  apply gR (by simp only[go_sem,hF,g0,z1];rfl);exact fin _ _ (by simp only[go_sem,hF,bkA7,z1,Bool.true_or])
 |false =>
  cases z2:(b.s==b.mn) with
  |false =>
   apply gR (by simp only[go_sem,hF,g0,z1,z2];rfl);exact fin _ _ (by simp only[go_sem,hF,bkA7,z1,z2,Bool.false_or])
  |true =>
   cases z3:(b.mn==b.mx) with
   |false =>
    apply gR (by simp only[go_sem,hF,g0,z1,z2,z3];rfl);exact fin _ _ (by simp only[go_sem,hF,bkA7,z1,z2,z3,Bool.false_or])
   |true =>
    cases z4:(b.f==b.mn) with
    |false =>
     apply gR (by simp only[go_sem,hF,g0,z1,z2,z3,z4];rfl);exact fin _ _ (by simp only[go_sem,hF,bkA7,z1,z2,z3,z4,Bool.false_or])
    |true =>
     apply gR (by simp only[go_sem,hF,g0,z1,z2,z3,z4];rfl);exact fin _ _ (by simp only[go_sem,hF,bkA7,z1,z2,z3,z4,Bool.false_or])
end Go.Proofs.YtedcnhbblgmdnaaGreat.Ab
