/- A part of the proof. -/
import Derived.Test.YtedcnhbblgmdnaaGreatT15
set_option maxHeartbeats 8000000
set_option maxRecDepth 10000
set_option linter.unusedSimpArgs false
set_option linter.unusedVariables false
namespace Go.Proofs.YtedcnhbblgmdnaaGreat.Ab
def BSt (r:Nat)(t:List UInt8)(s:St)(M:List (Nat×Ob)):Prop:=∃ a b,OA s.nx s [(1,.v (.c b),t.length,t.map pdOfByte)] (M++[(r,.tc 245 [a,b])])∧isOwner r 0 a=true∧Tg s b
theorem BSt.adv {r:Nat}{t:List UInt8}{s:St}{M:List (Nat×Ob)}(h:BSt r t s M)(n:Nat):BSt r t (s.adv n) M:=by
 obtain⟨a,b,h1,h2,h3⟩:=h
 exact⟨a,b,(h1.mono (Nat.le_add_right _ n)).adv,h2,h3⟩
theorem BSt.w {r:Nat}{t u:List UInt8}{s:St}{M:List (Nat×Ob)}{K:D→St→Prop}(h:BSt r t s M)(hn:t.length+u.length≤140737488355328)
  (F:∀ s',BSt r (t++u) s' M→s.nx≤s'.nx→K (.tup [.c (.p (.int .i64 u.length)),.c (.p .nili)]) s'):wpCall E0 (.v (.c (.p (.fnc 228)))) [.v (.c (.ref r 0)),.v (.c (.p (.str u)))] s K:=by
 obtain⟨a,b,h1,h2,h3⟩:=h
 refine call228 (L1:=[]) (L2:=[]) (M1:=M) (M2:=[]) h1 (Nat.le_refl _) h3 h2 hn fun b' s' h3 h5 h4=>F s' ⟨.ref r 0,b',?_,by simp[isOwner],h5⟩ h4
 simpa only[List.nil_append,List.length_append,List.map_append] using h3
theorem BSt.str {r:Nat}{t:List UInt8}{s:St}{M:List (Nat×Ob)}{K:D→St→Prop}(h:BSt r t s M)(F:K (P' (.str t)) s):wpCall E0 (.v (.c (.p (.fnc 230)))) [.v (.c (.ref r 0))] s K:=by
 obtain⟨a,b,h1,h2,h3⟩:=h
 exact call230 (L1:=[]) (L2:=[]) (M1:=M) (M2:=[]) h1 h3 F
theorem BSt.len {r:Nat}{t:List UInt8}{s:St}{M:List (Nat×Ob)}{K:D→St→Prop}(h:BSt r t s M)(F:∀ m,K (P' (.int .i64 t.length)) (s.adv m)):wpCall E0 (.v (.c (.p (.fnc 229)))) [.v (.c (.ref r 0))] s K:=by
 obtain⟨a,b,h1,h2,h3⟩:=h
 exact call229 (L1:=[]) (L2:=[]) (M1:=M) (M2:=[]) h1 F
theorem BSt.new {s:St}{b k:Nat}{M:List (Nat×Ob)}(h:OA b s [] M){n:Nat}(hk:b≤k)(hn:k+1≤n):OA n (s.put k (.tc 245 [.p .nilp,.nils])) [(1,.v (.c .nils),0,[])] ((k,.tc 245 [.p .nilp,.nils])::M) :=
 (((h.new hk rfl).nil (es:=1)).mono hn)
theorem Tg.fk {s s':St}{b:C}(h:Tg s b)(hk:Fk s s'):Tg s' b:=by
 rcases h with h|⟨n,cs,id,h1,h2,m,h3⟩
 ·exact .inl h
 ·exact .inr ⟨n,cs,id,h1,h2,m,hk _ _ _ _ h3⟩
theorem Pf.ret1 {E:Env}{fn:Func}{x:Fr}{d:D}{s3:St}{k:Nat}(rs:List ResultVar)(vs:List V)(hd:x.ds=[k])(hg:x.s.get k=some .defr)(hrs:fn.results.toList=rs)(hr:resultsD E x.e (x.s.put k .dead) rs=some vs)(hp:purD (x.s.put k .dead) (packD vs)=some (d,s3)) :
  bodyQ E fn (fun d0 s2=>∃ s3,purD s2 d0=some (d,s3)) .ret x:=by
 subst hrs
 exact⟨_,vs,by rw[hd];simp only[killAll,hg],hr,s3,hp⟩
theorem call279 {s:St}{L:List (Nat×D×Nat×List Pd)}{M:List (Nat×Ob)}{n:Nat}{cs:List Pd}{K:D→St→Prop}(h:OA s.nx s L M)
  (F:∀ s',OA s'.nx s' L ((s.nx,.cells [.p (.lst n cs)] false)::M)→s.nx<s'.nx→Fk s s'→K (.v (.c (.fn (.func 291) [] [.ref s.nx 0]))) s'):wpCall E0 (.v (.c (.p (.fnc 279)))) [.v (.c (.p (.lst n cs)))] s K:=by
 refine wpCall.opn (fn:=Tryz.f279) kR kR rfl kR rfl ?_;simp only[gL,Tryz.ntmps279,Nat.reduceSub,Nat.reduceAdd];refine gY ?_;refine gY ?_;refine Wc.ret (Op.ret [.tmp 2] [.c (.fn (.func 291) [] [.ref s.nx 0])] rfl rfl kA (F _ ?_ ?_ ?_))
 ·have:=(h.adv (n:=2)).new (k:=s.nx) (o:=.cells [.p (.lst n cs)] false) (Nat.le_refl _) rfl
  exact(this.mono (b':=s.nx+2+2) kO).adv (n:=2)
 ·simp only[St.nx_adv,St.nx_put];omega
 ·intro id es m tg e
  have:=h.lt e
  show(St.put _ _ _).get id=_
  rw[St.get_put,if_neg kO];exact e
theorem pf254 (n:Int)(f o:List Int)(hf:f.length<2^20)(hfR:f.all inR=true)(ho:o.length<2^40)(hoR:o.all inR=true):Pf E0 254 [.c (.p (pI n)),.c (.p (.lst f.length (f.map pI))),.c (.p (.lst o.length (o.map pI)))] (P' (.str ((appV [] n).1++(encL f++runE o)))):=by
 have hfR':∀ x∈f,inR x=true:=List.all_eq_true.1 hfR
 have hoR':∀ x∈o,inR x=true:=List.all_eq_true.1 hoR
 have a10:(appV [] n).1.length≤10:=by
  unfold appV
  split
  ·simp
  ·rw[List.nil_append];exact vb_len10 kO
 refine gQ (fn:=Tryz.f254) ?_;simp only[gL,Tryz.ntmps254,Nat.reduceSub,Nat.reduceAdd];refine gY ?_;refine gY ?_;refine gN fun K F=>?_;simp only[go_sem];refine gP (pf277 n) ?_;simp only[go_sem]
 have hb0:BSt 1 [] (((({ ob:=[],nx:=0 }:St).adv 1).adv 1).put 1 (.tc 245 [.p .nilp,.nils])) []:=⟨.p .nilp,.nils,BSt.new (b:=0) (s00_oa.adv.adv) kO kY,rfl,.inl rfl⟩
 refine BSt.w (hb0.adv 3) (by simp;omega) fun s1 hB hnx=>?_;clear hb0 hnx
 rw[List.nil_append] at hB
 simp only[go_sem];apply F;clear F K;refine gO ?_;refine gZ ?_;refine Wc.block (Wc.loop (fun k y=>∃(i:Nat),k=f.length-i∧i≤f.length∧y.ds=[]∧y.e.length=36∧y.e.getD 15 .junk=P' (.lst f.length (f.map pI))∧y.e.getD 16 .junk=P' (pI f.length)∧y.e.getD 17 .junk=P' (pI i)∧y.e.getD 7 .junk=.v (.c (.ref 1 0))∧y.e.getD 2 .junk=P' (.lst o.length (o.map pI))∧BSt 1 ((appV [] n).1++encL (f.take i)) y.s []) ?_ (k:=f.length) ?_)
 ·clear hB s1;rintro k ⟨e,ds,s1⟩ ⟨i,rfl,hi,rfl,hlen,h15,h16,h17,h7,h2,hB⟩;simp only at hlen h15 h16 h17 h7 h2 hB
  have hel:(encL (f.take i)).length≤10*i:=by
   refine Nat.le_trans (encL_len _ (List.all_eq_true.2 fun x hx=>hfR' x (List.mem_of_mem_take hx))) ?_;simp only[List.length_take];omega
  apply gS (by simp only[go_sem,hlen,h15,h16,h17,h7,h2];rfl);refine Wc.seq (Wc.cond (t:=decide ((i:Int)<f.length)) kL (fun hc=>?_) (fun hc=>?_))
  ·have hil : i < f.length := by have : (i : Int) < f.length := by simpa using hc
                                 omega
   obtain⟨x,hx⟩:=gE hil
   have hix:=ixA ti175 rfl ti3 (j:=i) (m:=f.length) (cs:=f.map pI) hil kS kD
   have hca:=rpA (off:=i) (drop_map pI hx) (by simp;omega)
   have ex:appS [] x=(vb (zz x),0):=by unfold appS;rw[hfR' x (gw hx)];rfl
   have hz:=vb_len10 (n:=zz x) (by have:=zz_lt (hfR' x (gw hx));omega)
   refine Wc.skip (Wc.seq (Wc.block (Wc.seq ?_)));apply gR (by simp only[go_sem,hlen,h15,h16,h17,h7,h2,hix,hca];rfl);refine gM fun K F=>?_;simp only[go_sem,hlen,h15,h16,h17,h7,h2];refine gP (pf278 x) ?_;simp only[go_sem,hlen,h15,h16,h17,h7,h2,ex];refine BSt.w (((hB.adv 1).adv 3).adv 3) (by simp;omega) fun s2 hB2 hnx=>?_;simp only[go_sem,hlen,h15,h16,h17,h7,h2];apply F;clear F K;apply gR (by simp only[go_sem,hlen,h15,h16,h17,h7,h2,i64n i kO];rfl)
   refine⟨f.length-(i+1),kO,i+1,rfl,kO,rfl,by simp only[go_sem,hlen],by simp only[go_sem,hlen,h15],by simp only[go_sem,hlen,h16],by simp only[go_sem,hlen],by simp only[go_sem,hlen,h7],by simp only[go_sem,hlen,h2],?_⟩
   rw[encL_take hx,← List.append_assoc]
   exact hB2.adv 2
  ·have hil : i = f.length := by have : ¬ (i : Int) < f.length := by simpa using hc
                                 omega
   subst hil
   rw[List.take_length] at hB hel
   refine Wc.exit (Wc.seq (Wc.seq ?_))
   obtain⟨a,b,hoa,hown,htg⟩:=hB
   refine gM fun K F=>?_;simp only[go_sem,hlen,h15,h16,h17,h7,h2];refine call279 (hoa.adv.adv.mono ?_) fun s2 hoa2 hnx2 hfk=>?_
   ·simp only[St.nx_adv];omega
   simp only[go_sem,hlen,h15,h16,h17,h7,h2];apply F;clear F K;refine Wc.block ?_
   have htg2:Tg s2 b:=htg.fk hfk
   refine Wc.iterS (iter291 (r:=((s1.adv 1).adv 2).nx) (frz:=false) ho) (fun i L M=>∃ t a b,L=[(1,.v (.c b),t.length,t.map pdOfByte)]∧M=[(((s1.adv 1).adv 2).nx,.cells [.p (.lst o.length (o.map pI))] false),(1,.tc 245 [a,b])]∧isOwner 1 0 a=true∧t++runE (o.drop i)=(appV [] n).1++(encL f++runE o)∧t.length≤10+10*f.length+20*i∧i≤o.length) (fun L s=>∀ b,(∃ n cs,L=[(1,.v (.c b),n,cs)])→Tg s b) (fun L s s' hk h b hb=>(h b hb).fk hk) kL hoa2 ⟨_,_,_,rfl,rfl,hown,by simp,by simp only[List.length_append];omega,kO⟩ (fun b ⟨n,cs,e⟩=>by cases e;exact htg2) ?_ ?_ ?_ ?_
   ·rintro i L M s ⟨t,a,b,rfl,rfl,hown,ht,htl,hio⟩ hM;exact hM (_,_) (List.mem_cons_self ..)
   ·rintro i k a ⟨x,rfl,_⟩;rfl
   ·rintro i k aa lp s L M ⟨x,rfl,hik,hkl,hall,hend⟩ ⟨t,a,b,rfl,rfl,hown,ht,htl,hio⟩ hs hos
    have hxR:inR x=true:=hoR' x (gw (hall i (Nat.le_refl _) hik))
    have ex:appS [] x=(vb (zz x),0):=by unfold appS;rw[hxR];rfl
    have ek:appV [] ((k-i:Nat):Int)=(vb (k-i),0):=by unfold appV;rw[if_neg kO,Int.toNat_natCast];rfl
    have hz:=vb_len10 (n:=zz x) (by have:=zz_lt hxR;omega)
    have hz2:=vb_len10 (n:=k-i) kO
    simp only[setAll,List.zip_cons_cons,List.zip_nil_right];apply gS (by simp only[go_sem,hlen,h7];rfl);apply gR (by simp only[go_sem,hlen,h7];rfl)
    refine⟨rfl,_,_,(hos.mono ?_).adv.adv,hs,fun lq s' hos' hs'=>?_⟩
    ·simp only[St.nx_adv];omega
    have hB:BSt 1 t s' [(s2.nx,.loop lq),(s2.nx+1,.defr),(((s1.adv 1).adv 2).nx,.cells [.p (.lst o.length (o.map pI))] false)]:=⟨a,b,hos',hown,hs' b ⟨_,_,rfl⟩⟩
    refine Wc.block (Wc.seq ?_);refine gM fun K F=>?_;simp only[go_sem,hlen,h7];refine gP (pf278 x) ?_;simp only[go_sem,hlen,h7,ex];refine BSt.w (hB.adv 3) kO fun s3 hB3 hnx3=>?_;simp only[go_sem,hlen,h7];apply F;clear F K;refine gM fun K F=>?_;simp only[go_sem,hlen,h7];refine gP (pf277 ((k-i:Nat):Int)) ?_;simp only[go_sem,hlen,h7,ek];refine BSt.w (hB3.adv 3) (by simp only[List.length_append];omega) fun s4 hB4 hnx4=>?_;simp only[go_sem,hlen,h7];apply F;clear F K
    obtain⟨a4,b4,hos4,hown4,htg4⟩:=hB4
    refine⟨rfl,_,_,hos4,⟨t++vb (zz x)++vb (k-i),a4,b4,rfl,rfl,hown4,?_,by simp only[List.length_append];omega,hkl⟩,fun b ⟨n,cs,e⟩=>by cases e;exact htg4⟩
    rw[← ht,run_step hik hall hend];simp only[List.append_assoc]
   ·rintro L M s3 hos ⟨t,a,b,rfl,rfl,hown,ht,htl,hio⟩ hs
    rw[List.drop_length,runE,List.append_nil] at ht
    have hB:BSt 1 t s3 [(s2.nx+1,.defr),(((s1.adv 1).adv 2).nx,.cells [.p (.lst o.length (o.map pI))] false)]:=⟨a,b,hos,hown,hs b ⟨_,_,rfl⟩⟩
    refine gN fun K F=>?_;simp only[go_sem,hlen,h7];refine BSt.str (hB.adv 2) ?_;simp only[go_sem,hlen,h7];apply F;clear F K
    rw[← ht]
    exact wr (Pf.ret1 [.tmp 6] [.c (.p (.str t))] rfl (hos.at_ (s2.nx+1,.defr) (List.mem_cons_self ..)) rfl kL rfl)
 ·exact⟨0,rfl,kO,rfl,rfl,rfl,rfl,rfl,rfl,rfl,by simpa[encL] using hB.adv 3⟩
theorem o255:E0.opn 255=false:=by kernel_rfl
theorem x255:E0.xt 255=none:=by kernel_rfl
theorem o254:E0.opn 254=false:=by kernel_rfl
theorem x254:E0.xt 254=none:=by kernel_rfl
theorem pf226 (l:List Int)(hl:l.length<2^40):Pf E0 226 [.c (.p (.lst l.length (l.map pI)))] (.tup [.c (.p (.str (encV l).1)),.c (.p (.int .i64 (encV l).2))]):=by
 refine gQ (fn:=Tryz.f226) ?_;simp only[gL,Tryz.ntmps226,Nat.reduceSub,Nat.reduceAdd];refine gY ?_;refine gO ?_;refine gZ ?_;refine Wc.cond (t:=decide ((20000:Int)<l.length)) rfl (fun hc=>?_) (fun hc=>?_)
 ·have hc':(20000:Int)<l.length:=by simpa using hc
  have e:encV l=([],4):=by unfold encV;rw[if_pos kO]
  refine gY ?_
  rw[e]
  exact wr (gU [.tmp 2,.tmp 3] [.c (.p (.str [])),.c (.p (.int .i64 4))])
 have hc':¬ (20000:Int)<l.length:=by simpa using hc
 have e0:encV l=if l.all inV then (vb l.length++first1 l++runE (diffs l),0) else ([],2):=by unfold encV;rw[if_neg kO]
 have hvl:=vb_len10 (n:=l.length) kO
 refine Wc.skip (Wc.seqR (fun y=>l.all inV=true∧y.ds=[]∧y.e.length=32∧y.e.getD 0 .junk=P' (.lst l.length (l.map pI))) ?_ ?_)
 ·refine gY ?_;refine Wc.block (Wc.loop (fun k y=>∃(i:Nat),k=l.length-i∧i≤l.length∧y.ds=[]∧y.e.length=32∧y.e.getD 0 .junk=P' (.lst l.length (l.map pI))∧y.e.getD 9 .junk=P' (.lst l.length (l.map pI))∧y.e.getD 10 .junk=P' (pI l.length)∧y.e.getD 11 .junk=P' (.int .i64 i)∧(l.take i).all inV=true) ?_ (k:=l.length) ?_)
  ·rintro k ⟨e,ds,s1⟩ ⟨i,rfl,hi,rfl,hlen,h0,h9,h10,h11,hall⟩;simp only at hlen h0 h9 h10 h11;apply gS (by simp only[go_sem,hlen,h0,h9,h10,h11];rfl);refine Wc.seq (Wc.cond (t:=decide ((i:Int)<l.length)) kL (fun hc=>?_) (fun hc=>?_))
   ·have hil : i < l.length := by have : (i : Int) < l.length := by simpa using hc
                                  omega
    obtain⟨x,hx⟩:=gE hil
    have hix:=ixA ti175 rfl ti3 (j:=i) (m:=l.length) (cs:=l.map pI) hil kS kD
    have hca:=rpA (off:=i) (drop_map pI hx) (by simp;omega)
    refine Wc.skip (Wc.seq (Wc.block (Wc.seq ?_)))
    have bad:inV x=false→encV l=([],2):=fun hx2=>by
     rw[e0,if_neg]
     intro h
     rw[List.all_eq_true] at h
     have:=h x (gw hx)
     rw[hx2] at this;cases this
    apply gR (by simp only[go_sem,hlen,h0,h9,h10,h11,hix,hca];rfl);refine Wc.seq ?_
    by_cases hlo:x < -576460752303423488
    ·apply gR (by simp only[go_sem,hlen,h0,h9,h10,h11,hlo];rfl);refine Wc.cond (t:=true) kL (fun hc=>?_) (fun hc=>by cases hc);apply gS (by simp only[go_sem,hlen,h0];rfl)
     rw[bad (by simp[inV];omega)]
     exact wr (gV [.tmp 2,.tmp 3] [.c (.p (.str [])),.c (.p (.int .i64 2))] kL)
    ·apply gR (by simp only[go_sem,hlen,h0,h9,h10,h11,hlo];rfl);refine Wc.cond (t:=decide (576460752303423488<x)) kL (fun hc=>?_) (fun hc=>?_)
     ·have hhi:576460752303423488<x:=by simpa using hc
      apply gS (by simp only[go_sem,hlen,h0];rfl)
      rw[bad (by simp[inV];omega)]
      exact wr (gV [.tmp 2,.tmp 3] [.c (.p (.str [])),.c (.p (.int .i64 2))] kL)
     ·have hhi:¬ 576460752303423488<x:=by simpa using hc
      refine Wc.skip ?_;apply gR (by simp only[go_sem,hlen,h0,h9,h10,h11,i64n i kO];rfl)
      refine⟨l.length-(i+1),kO,i+1,rfl,kO,rfl,by simp only[go_sem,hlen],by simp only[go_sem,hlen,h0],by simp only[go_sem,hlen,h9],by simp only[go_sem,hlen,h10],by simp only[go_sem,hlen],?_⟩
      rw[take_snoc hx,List.all_append,hall];simp[inV];omega
   ·have hil : i = l.length := by have : ¬ (i : Int) < l.length := by simpa using hc
                                  omega
    subst hil
    rw[List.take_length] at hall
    exact Wc.exit ⟨hall,rfl,by simp only[go_sem,hlen],by simp only[go_sem,hlen,h0]⟩
  ·exact⟨0,rfl,kO,rfl,rfl,rfl,rfl,rfl,rfl,rfl⟩
 ·rintro⟨e,ds,s1⟩ ⟨hall,rfl,hlen,h0⟩
  simp only at hlen h0
  have hV:=inV_all hall
  have hdR:(diffs l).all inR=true:=List.all_eq_true.2 fun d hd=>by have:=diffs_mem hV d hd;simp[inR];omega
  have hdl:=diffs_len l
  have hrl:=runE_len _ (diffs l) (Nat.le_refl _) hdR kO
  have ea:appV [] (l.length:Int)=(vb l.length,0):=by unfold appV;rw[if_neg kO,Int.toNat_natCast];rfl
  refine Wc.seq ?_
  have hfl:(l.take 1).length=min 1 l.length:=List.length_take
  have hm:foldO minD (.v (.c (.p (.int .i64 (l.length:Int))))) [.v (.c (.p (.int .i64 1)))]=some (.v (.c (.p (.int .i64 ((l.take 1).length:Int))))):=by
   simp only[foldO,minD,P',Option.some.injEq,D.v.injEq,V.c.injEq,C.p.injEq,Pd.int.injEq,true_and,decide_eq_true_eq,if_true];rcases Nat.lt_or_ge 1 l.length with h|h
   ·have:(l.take 1).length=1:=kO
    rw[this];split<;>first | rfl | omega
   ·have:(l.take 1).length=l.length:=kO
    rw[this];split<;>first | rfl | omega
  have hle:(((l.take 1).length:Int)≤(l.length:Int))=True:=by simp only[eq_iff_iff,iff_true];omega
  have hs:(l.map pI).take (l.take 1).length=(l.take 1).map pI:=by
   rw[List.map_take]
   rcases Nat.lt_or_ge 1 l.length with h|h
   ·rw[show(l.take 1).length=1 by omega]
   ·rw[show(l.take 1).length=l.length by omega,List.take_of_length_le kS,List.take_of_length_le (by simp;omega)]
  have hfe:first1 l=encL (l.take 1):=by
   cases l with
   |nil=>rfl
   |cons x r=>simp[first1,encL]
  have hfR:(l.take 1).all inR=true:=List.all_eq_true.2 fun x hx=>inV_R (List.all_eq_true.1 hall x (List.mem_of_mem_take hx))
  refine Wc.regD fun K F=>?_;simp only[go_sem,hlen,h0,hm,hle,hs,List.length_map,Nat.sub_zero]
  refine⟨by simp[o255,x255,plainD,plainV,plainC],?_⟩
  refine gP (pf255 l hl fun x hx=>by have:=hV x hx;omega) ?_;simp only[go_sem,hlen,h0,hm,hle,hs,List.length_map,Nat.sub_zero]
  refine⟨by simp[o254,x254,plainD,plainV,plainC],?_⟩
  refine gP (pf254 (l.length:Int) (l.take 1) (diffs l) kO hfR kO hdR) ?_;simp only[go_sem,hlen,ea];apply F;clear F K
  rw[e0,if_pos hall,hfe]
  exact wr (gV [.tmp 2,.tmp 3] [.c (.p (.str (vb l.length++encL (l.take 1)++runE (diffs l)))),.c (.p (.int .i64 0))] (by simp only[go_sem,hlen,List.append_assoc]))
theorem pf225 (l:List Int)(hl:l.length<2^40):Pf E0 225 [.c (.p (.lst l.length (l.map pI)))] (.tup [.c (.p (.str (encT l).1)),.c (.p (.int .i64 (encT l).2))]):=by
 refine gQ (fn:=Tryz.f225) ?_;simp only[gL,Tryz.ntmps225,Nat.reduceSub,Nat.reduceAdd];refine gY ?_;refine gO ?_;refine gZ ?_
 have bad:∀ {c:Int},chkT l=c→c≠0→encT l=([],c):=fun h h2=>by unfold encT;rw[if_neg (by rw[h];exact h2),h]
 refine Wc.cond (t:=decide ((20000:Int)<l.length)) rfl (fun hc=>?_) (fun hc=>?_)
 ·have hc':(20000:Int)<l.length:=by simpa using hc
  have e:chkT l=4:=by unfold chkT;rw[if_pos kO]
  refine gY ?_
  rw[bad e kD]
  exact wr (gU [.tmp 2,.tmp 3] [.c (.p (.str [])),.c (.p (.int .i64 4))])
 have hc':¬ (20000:Int)<l.length:=by simpa using hc
 have e0:chkT l=chk1 (prev l 0) (l.drop 0):=by unfold chkT;rw[if_neg kO];rfl
 refine Wc.skip (Wc.seqR (fun y=>chkT l=0∧y.ds=[]∧y.e.length=56∧y.e.getD 0 .junk=P' (.lst l.length (l.map pI))) ?_ ?_)
 ·refine gY ?_;refine Wc.block (Wc.loop (fun k y=>∃(i:Nat),k=l.length-i∧i≤l.length∧y.ds=[]∧y.e.length=56∧y.e.getD 0 .junk=P' (.lst l.length (l.map pI))∧y.e.getD 10 .junk=P' (.lst l.length (l.map pI))∧y.e.getD 11 .junk=P' (pI l.length)∧y.e.getD 12 .junk=P' (.int .i64 i)∧chkT l=chk1 (prev l i) (l.drop i)) ?_ (k:=l.length) ?_)
  ·rintro k ⟨e,ds,s1⟩ ⟨i,rfl,hi,rfl,hlen,h0,h10,h11,h12,hch⟩;simp only at hlen h0 h10 h11 h12;apply gS (by simp only[go_sem,hlen,h0,h10,h11,h12];rfl);refine Wc.seq (Wc.cond (t:=decide ((i:Int)<l.length)) kL (fun hc=>?_) (fun hc=>?_))
   ·have hil : i < l.length := by have : (i : Int) < l.length := by simpa using hc
                                  omega
    obtain⟨x,hx⟩:=gE hil
    have hix:=ixA ti175 rfl ti3 (j:=i) (m:=l.length) (cs:=l.map pI) hil kS kD
    have hca:=rpA (off:=i) (drop_map pI hx) (by simp;omega)
    rw[chk1_step hx] at hch
    refine Wc.skip (Wc.seq (Wc.block (Wc.seq ?_)));apply gR (by simp only[go_sem,hlen,h0,h10,h11,h12,hix,hca];rfl);refine gO ?_
    by_cases hlo:x<1
    ·rw[if_pos (.inl hlo)] at hch
     apply gR (by simp only[go_sem,hlen,h0,h10,h11,h12,hlo];rfl);refine Wc.cond (t:=true) kL (fun hc=>?_) (fun hc=>by cases hc);apply gS (by simp only[go_sem,hlen,h0];rfl)
     rw[bad hch kD]
     exact wr (gV [.tmp 2,.tmp 3] [.c (.p (.str [])),.c (.p (.int .i64 2))] kL)
    ·apply gR (by simp only[go_sem,hlen,h0,h10,h11,h12,hlo];rfl);refine Wc.cond (t:=decide (1099511627776<x)) kL (fun hc=>?_) (fun hc=>?_)
     ·have hhi:1099511627776<x:=by simpa using hc
      rw[if_pos (.inr hhi)] at hch
      apply gS (by simp only[go_sem,hlen,h0];rfl)
      rw[bad hch kD]
      exact wr (gV [.tmp 2,.tmp 3] [.c (.p (.str [])),.c (.p (.int .i64 2))] kL)
     ·have hhi:¬ 1099511627776<x:=by simpa using hc
      rw[if_neg kO] at hch
      refine Wc.skip (Wc.seq ?_)
      by_cases hi0:0<i
      ·obtain⟨y,hy⟩:∃ y,l[i-1]? = some y:=⟨l[i-1],List.getElem?_eq_getElem kO⟩
       have hiy:=ixA ti175 rfl ti3 (j:=i-1) (m:=l.length) (cs:=l.map pI) kO kS kD
       have hcb:=rpA (off:=i-1) (drop_map pI hy) (by simp;omega)
       have e1:IntKind.i64.wrap ((i:Int)-1)=((i-1:Nat):Int):=by rw[wi64];omega
       have hd:(0<(i:Int))=True:=by simp;omega
       have hpr:prev l i=some y:=by unfold prev;rw[if_neg kO];exact hy
       rw[hpr] at hch
       simp only at hch;apply gR (by simp only[go_sem,hlen,h0,h10,h11,h12,hix,hca,hiy,hcb,e1,hd];rfl);refine Wc.cond (t:=decide (x≤y)) (by simp only[go_sem,hlen,hd]) (fun hc=>?_) (fun hc=>?_)
       ·have hxy:x≤y:=by simpa using hc
        rw[if_pos hxy] at hch
        apply gS (by simp only[go_sem,hlen,h0];rfl)
        rw[bad hch kD]
        exact wr (gV [.tmp 2,.tmp 3] [.c (.p (.str [])),.c (.p (.int .i64 9))] kL)
       ·have hxy:¬ x≤y:=by simpa using hc
        rw[if_neg hxy] at hch
        refine Wc.skip ?_;apply gR (by simp only[go_sem,hlen,h0,h10,h11,h12,i64n i kO];rfl)
        exact⟨l.length-(i+1),kO,i+1,rfl,kO,rfl,by simp only[go_sem,hlen],by simp only[go_sem,hlen,h0],by simp only[go_sem,hlen,h10],by simp only[go_sem,hlen,h11],by simp only[go_sem,hlen],hch⟩
      ·have hd:(0<(i:Int))=False:=by simp;omega
       have hpr:prev l i=none:=by unfold prev;rw[if_pos kO]
       rw[hpr] at hch
       simp only at hch;apply gR (by simp only[go_sem,hlen,h0,h10,h11,h12,hd];rfl);refine Wc.cond (t:=false) (by simp only[go_sem,hlen,hd]) (fun hc=>by cases hc) (fun hc=>?_);refine Wc.skip ?_;apply gR (by simp only[go_sem,hlen,h0,h10,h11,h12,i64n i kO];rfl)
       exact⟨l.length-(i+1),kO,i+1,rfl,kO,rfl,by simp only[go_sem,hlen],by simp only[go_sem,hlen,h0],by simp only[go_sem,hlen,h10],by simp only[go_sem,hlen,h11],by simp only[go_sem,hlen],hch⟩
   ·have hil : i = l.length := by have : ¬ (i : Int) < l.length := by simpa using hc
                                  omega
    rw[hil,List.drop_length] at hch
    have hch:chkT l=0:=by rw[hch];cases prev l l.length<;>rfl
    exact Wc.exit ⟨hch,rfl,by simp only[go_sem,hlen],by simp only[go_sem,hlen,h0]⟩
  ·exact⟨0,rfl,kO,rfl,rfl,rfl,rfl,rfl,rfl,e0⟩
 ·rintro⟨e,ds,s1⟩ ⟨hch,rfl,hlen,h0⟩
  simp only at hlen h0
  have e1:encT l=(vb l.length++first1 l++first1 (diffs l)++runE (diffs (diffs l)),0):=by unfold encT;rw[if_pos hch]
  obtain⟨hl2,hV⟩:=chkT_ok hch
  have hR:∀ x∈l,inR x=true:=fun x hx=>by have:=hV x hx;simp[inR];omega
  have hD:=diffs_mem hV
  have hDR:∀ x∈diffs l,inR x=true:=fun x hx=>by have:=hD x hx;simp[inR];omega
  have hDD:=diffs_mem hD
  have hDDR:(diffs (diffs l)).all inR=true:=List.all_eq_true.2 fun d hd=>by have:=hDD d hd;simp[inR];omega
  have hdl:=diffs_len l
  have hddl:=diffs_len (diffs l)
  have ea:appV [] (l.length:Int)=(vb l.length,0):=by unfold appV;rw[if_neg kO,Int.toNat_natCast];rfl
  rw[e1]
  refine gO ?_;apply gR (by simp only[go_sem,hlen,h0];rfl);refine Wc.cond (t:=decide ((l.length:Int)<2)) kL (fun hc=>?_) (fun hc=>?_)
  ·have hc2 : l.length < 2 := by have : (l.length : Int) < 2 := by simpa using hc
                                 omega
   refine gN fun K F=>?_;simp only[go_sem,hlen,h0];refine gP (pf254 (l.length:Int) l [] kO (List.all_eq_true.2 hR) kD rfl) ?_;simp only[go_sem,hlen,ea];apply F;clear F K
   have e2:vb l.length++(encL l++runE [])=vb l.length++first1 l++first1 (diffs l)++runE (diffs (diffs l)):=by
    match l,hc2 with
    |[],_=>simp[encL,first1,diffs]
    |[x],_=>simp[encL,first1,diffs]
   rw[e2]
   exact wr (Pf.ret [.tmp 2,.tmp 3] [.c (.p (.str _)),.c (.p (.int .i64 0))] rfl rfl kL rfl)
  ·have hc2 : 2 ≤ l.length := by have : ¬ (l.length : Int) < 2 := by simpa using hc
                                 omega
   refine Wc.skip (Wc.seq ?_);refine gM fun K F=>?_;simp only[go_sem,hlen,h0];refine gP (pf255 l hl fun x hx=>by have:=hV x hx;omega) ?_;simp only[go_sem,hlen,h0];apply F;clear F K
   obtain⟨x,hx⟩:∃ x,l[0]? = some x:=⟨l[0],List.getElem?_eq_getElem kO⟩
   have hix:=ixA ti175 rfl ti3 (j:=0) (m:=l.length) (cs:=l.map pI) kO kS kD
   have hca:=rpA (off:=0) (drop_map pI hx) kS
   obtain⟨y,hy⟩:∃ y,(diffs l)[0]? = some y:=⟨(diffs l)[0],List.getElem?_eq_getElem kO⟩
   have hiy:=ixA ti175 rfl ti3 (j:=0) (m:=(diffs l).length) (cs:=(diffs l).map pI) kO kS kD
   have hcb:=rpA (off:=0) (drop_map pI hy) kS
   rw[show((0:Nat):Int)=0 from rfl,Nat.zero_mul] at hix hiy
   refine Wc.seq ?_;refine Wc.regD fun K F=>?_;simp only[go_sem,hlen,h0,hix,hca,hiy,hcb]
   refine⟨by simp[o255,x255,plainD,plainV,plainC],?_⟩
   refine gP (pf255 (diffs l) kO fun x hx=>by have:=hD x hx;omega) ?_;simp only[go_sem,hlen,h0,hix,hca,hiy,hcb]
   refine⟨by simp[o254,x254,plainD,plainV,plainC],?_⟩
   have hxy : [x,y].all inR=true:=by simp[hR x (gw hx),hDR y (gw hy)]
   refine gP (pf254 (l.length:Int) [x,y] (diffs (diffs l)) kS hxy kO hDDR) ?_;simp only[go_sem,hlen,ea];apply F;clear F K
   have e2:vb l.length++(encL [x,y]++runE (diffs (diffs l)))=vb l.length++first1 l++first1 (diffs l)++runE (diffs (diffs l)):=by
    have f1:first1 l=vb (zz x):=by
     cases l with
     |nil=>simp at hx
     |cons a r=>simp at hx;subst hx;rfl
    have f2:first1 (diffs l)=vb (zz y):=by
     revert hy
     generalize diffs l=m;intro hy;cases m with
     |nil=>simp at hy
     |cons a r=>simp at hy;subst hy;rfl
    rw[f1,f2];simp[encL]
   rw[e2]
   exact wr (Pf.ret [.tmp 2,.tmp 3] [.c (.p (.str _)),.c (.p (.int .i64 0))] rfl rfl kL rfl)
def encF (f:Int)(l:List Int):List UInt8×Int:=if f=0 then encT l else if f=1 then encV l else encI l
theorem pf156 (f:Int)(l:List Int)(hl:l.length<2^40):Pf E0 156 [.c (.p (pI f)),.c (.p (.lst l.length (l.map pI)))] (.tup [.c (.p (.str (encF f l).1)),.c (.p (.int .i64 (encF f l).2))]):=by
 refine gQ (fn:=Tryz.f156) ?_;simp only[gL,Tryz.ntmps156,Nat.reduceSub,Nat.reduceAdd];refine gY ?_;refine gO ?_;refine gZ ?_;refine Wc.block (Wc.seq ?_);refine gZ ?_;refine Wc.cond (t:=(f==0)) kA (fun hc=>?_) (fun hc=>?_)
 ·have e:encF f l=encT l:=by unfold encF;rw[if_pos (by simpa using hc)]
  rw[e]
  refine gN fun K F=>?_;simp only[go_sem];refine gP (pf225 l hl) ?_;simp only[go_sem];apply F;clear F K;exact wr (gU [.tmp 4,.tmp 5] [.c (.p (.str (encT l).1)),.c (.p (.int .i64 (encT l).2))])
 ·have h0:¬ f=0:=by simpa using hc
  refine gY ?_;refine Wc.cond (t:=(f==1)) kA (fun hc=>?_) (fun hc=>?_)
  ·have e:encF f l=encV l:=by unfold encF;rw[if_neg h0,if_pos (by simpa using hc)]
   rw[e]
   refine gN fun K F=>?_;simp only[go_sem];refine gP (pf226 l hl) ?_;simp only[go_sem];apply F;clear F K;exact wr (gU [.tmp 4,.tmp 5] [.c (.p (.str (encV l).1)),.c (.p (.int .i64 (encV l).2))])
  ·have h1:¬ f=1:=by simpa using hc
   have e:encF f l=encI l:=by unfold encF;rw[if_neg h0,if_neg h1]
   rw[e]
   refine Wc.skip (Wc.seq ?_);refine gM fun K F=>?_;simp only[go_sem];refine gP (pf227 l hl) ?_;simp only[go_sem];apply F;clear F K;exact wr (gU [.tmp 4,.tmp 5] [.c (.p (.str (encI l).1)),.c (.p (.int .i64 (encI l).2))])
abbrev I2:=Int×Int
abbrev p2 (x:I2):List Pd:=[pI x.1,pI x.2]
structure Hst where
 p:Int
 c:Int
 s:Int
 mn:Int
 mx:Int
 bs:List I2
abbrev Hst.pd (h:Hst):List Pd:=[pI h.p,pI h.c,pI h.s,pI h.mn,pI h.mx,.lst h.bs.length (h.bs.flatMap p2)]
structure HSm where
 t:Int
 h:Hst
abbrev HSm.pd (x:HSm):List Pd:=[pI x.t,pI x.h.p,pI x.h.c,pI x.h.s,pI x.h.mn,pI x.h.mx,.lst x.h.bs.length (x.h.bs.flatMap p2)]
structure Col (A:Type) where
 f:Int
 g:Nat
 w:Nat
 get:A→Int
abbrev Col.pd {A:Type}(c:Col A):List Pd:=[pI c.f,.fnc c.g,.fnc c.w]
def packE {A:Type}(l:List A):List (Col A)→Option (List (List UInt8))
 |[]=>some []
 | c :: r => if (encF c.f (l.map c.get)).2 = 0 then (match packE l r with
   |some ss=>some ((encF c.f (l.map c.get)).1::ss)
   |none=>none) else none
def fillZ {A:Type}(l:List A)(g:A→Int)(j:Nat):List C:=((l.take j).map fun a=>C.p (pI (g a)))++List.replicate (l.length-j) (.p (pI 0))
theorem fillZ_len {A:Type}(l:List A)(g:A→Int){j:Nat}(h:j≤l.length):(fillZ l g j).length=l.length:=by simp[fillZ];omega
theorem fillZ_set {A:Type}{l:List A}{g:A→Int}{j:Nat}{a:A}(h:l[j]? = some a):(fillZ l g j).take j++[.p (pI (g a))]++(fillZ l g j).drop (j+1)=fillZ l g (j+1):=by
 have hj:=(List.getElem?_eq_some_iff.1 h).1
 have e1:((l.take j).map fun a=>C.p (pI (g a))).length=j:=by simp;omega
 have e2:l.length-j=(l.length-(j+1))+1:=kO
 unfold fillZ
 rw[take_snoc h,List.take_append_of_le_length kO,List.take_of_length_le kO,List.drop_append,List.drop_of_length_le kO,e1,e2,List.replicate_succ]
 simp
theorem fillZ_all {A:Type}(l:List A)(g:A→Int):fillZ l g l.length=((l.map g).map pI).map .p:=by simp[fillZ]
theorem allM_purS:∀ l:List Pd,allM purS (l.map .p)=some l
 |[]=>rfl
 |x::r=>by simp only[List.map_cons,allM,purS,allM_purS r]
theorem repl_one (n:Nat)(c:C):repl n [c]=List.replicate n c:=by
 induction n with
 |zero=>rfl
 |succ n ih=>simp only[repl,ih,List.replicate_succ];rfl
theorem fillZ_0 {A:Type}(l:List A)(g:A→Int):fillZ l g 0=repl l.length [.p (pI 0)]:=by simp[fillZ,repl_one]
theorem ixM {E:Env}{t e:Nat}{i ie:TI}(ht:E.ti t=some i)(hk:i.kn=.slice e)(he:E.ti e=some ie){r off j m es:Nat}(hj:j<m)(hs:es=ie.size) :
  indexAddrD E t (.v (.c (.mt r off m es))) (.v (.c (.p (.int .i64 (j:Int)))))=some (.v (.c (.ref r (off+j*es)))):=by
 unfold indexAddrD
 rw[ht]
 simp only[D.int?,hk,he,Int.toNat_natCast]
 rw[if_pos ⟨Int.natCast_nonneg j,kO,hs⟩]
def NumS {A:Type}(l:List A)(g:A→Int)(j:Nat)(L:List (Nat×D×Nat×List Pd))(M:List (Nat×Ob))(c9:C)(s:St):Prop :=
 (l=[]∧(∃ k,c9=.own 0 [] k)∧OA s.nx s L M)∨∃ k9,c9=.mt k9 0 l.length 1∧OA s.nx s L ((k9,.cells (fillZ l g j) false)::M)
theorem NumS.adv {A:Type}{l:List A}{g:A→Int}{j:Nat}{L:List (Nat×D×Nat×List Pd)}{M:List (Nat×Ob)}{c9:C}{s:St}(h:NumS l g j L M c9 s){n:Nat}:NumS l g j L M c9 (s.adv n):=by
 rcases h with ⟨h1,h2,h3⟩|⟨k9,h1,h2⟩
 ·exact .inl ⟨h1,h2,(h3.mono (Nat.le_add_right _ n)).adv⟩
 ·exact .inr ⟨k9,h1,(h2.mono (Nat.le_add_right _ n)).adv⟩
theorem purVs_pc {s s':St}{x y:Pd}{c:C}(h:purC s c=some (y,s')):purVs s [.c (.p x),.c c]=some ([.c (.p x),.c (.p y)],s'):=by
 have h0:purC s (.p x)=some (x,s):=rfl
 simp only[purVs,purV,h0,h]
theorem NumS.pur {A:Type}{l:List A}{g:A→Int}{L:List (Nat×D×Nat×List Pd)}{M:List (Nat×Ob)}{c9:C}{s:St}(h:NumS l g l.length L M c9 s) :
  ∃ s',purC s c9=some (.lst (l.map g).length ((l.map g).map pI),s')∧OA s'.nx s' L M∧s'.nx=s.nx:=by
 rcases h with ⟨rfl,⟨k,rfl⟩,h3⟩|⟨k9,rfl,h2⟩
 ·exact⟨s,rfl,h3,rfl⟩
 ·have hg:s.get k9=some (.cells (fillZ l g l.length) false):=h2.at_ (k9,.cells (fillZ l g l.length) false) kS
  refine⟨s.put k9 (.cells (((l.map g).map pI).map .p) true),?_,?_,rfl⟩
  ·simp only[purC,hg,fillZ_all,allM_purS,List.drop_zero,List.length_map,Nat.zero_add,Nat.mul_one,Nat.le_refl,if_true]
   rw[List.take_of_length_le kS]
  ·exact OA.sub (M:=[]++_::M) (h2.set (M1:=[]) (o':=.cells (((l.map g).map pI).map .p) true) rfl) (List.Sublist.refl _) (List.sublist_cons_self _ _)
end Go.Proofs.YtedcnhbblgmdnaaGreat.Ab
namespace Go.Proofs.YtedcnhbblgmdnaaGreat.Ab
end Go.Proofs.YtedcnhbblgmdnaaGreat.Ab
namespace Go.Proofs.YtedcnhbblgmdnaaGreat.Ab
def jn (t:List UInt8):List (List UInt8)→Option (List UInt8)
 |[]=>some t
 |s::r=>if 262144<(t++vb s.length++s).length then none else jn (t++vb s.length++s) r
theorem pf178 (t:List UInt8)(ss:List (List UInt8))(ht:t.length≤262144)(hs:∀ s∈ss,s.length≤35184372088832)(hl:ss.length<2^40) :
  Pf E0 178 [.c (.p (.str t)),.c (.p (.lst ss.length (ss.map .str)))] (.tup [.c (.p (.str ((jn t ss).getD []))),.c (.p (.bool (jn t ss).isSome))]):=by
 refine gQ (fn:=Tryz.f178) ?_;simp only[gL,Tryz.ntmps178,Nat.reduceSub,Nat.reduceAdd];refine gY ?_;refine gY ?_
 have hb0:BSt 2 [] (((({ ob:=[],nx:=0 }:St).adv 2).adv 1).put 2 (.tc 245 [.p .nilp,.nils])) []:=⟨.p .nilp,.nils,BSt.new (b:=0) (s00_oa.adv.adv) kO kY,rfl,.inl rfl⟩
 refine gN fun K F=>?_;simp only[go_sem];refine BSt.w (hb0.adv 2) (by simp;omega) fun s1 hB hnx=>?_;clear hb0 hnx
 rw[List.nil_append] at hB
 simp only[go_sem];apply F;clear F K;refine gO ?_;refine gZ ?_;refine Wc.block (Wc.loop (fun k y=>∃(i:Nat) (u:List UInt8),k=ss.length-i∧i≤ss.length∧y.ds=[]∧y.e.length=33∧y.e.getD 13 .junk=P' (.lst ss.length (ss.map .str))∧y.e.getD 14 .junk=P' (pI ss.length)∧y.e.getD 15 .junk=P' (pI i)∧y.e.getD 6 .junk=.v (.c (.ref 2 0))∧BSt 2 u y.s []∧u.length≤262144∧jn t ss=jn u (ss.drop i)) ?_ (k:=ss.length) ?_)
 ·clear hB s1;rintro k ⟨e,ds,s1⟩ ⟨i,u,rfl,hi,rfl,hlen,h13,h14,h15,h6,hB,hul,hj⟩;simp only at hlen h13 h14 h15 h6 hB;apply gS (by simp only[go_sem,hlen,h13,h14,h15,h6];rfl);refine Wc.seq (Wc.cond (t:=decide ((i:Int)<ss.length)) kL (fun hc=>?_) (fun hc=>?_))
  ·have hil : i < ss.length := by have : (i : Int) < ss.length := by simpa using hc
                                  omega
   obtain⟨x,hx⟩:=gE hil
   have hxl:=hs x (gw hx)
   have hix:=ixA ti155 rfl ti9 (j:=i) (m:=ss.length) (cs:=ss.map .str) hil kS kD
   have hca:=rpA (off:=i) (drop_map Pd.str hx) (by simp;omega)
   have ea:appV [] (x.length:Int)=(vb x.length,0):=by unfold appV;rw[if_neg kO,Int.toNat_natCast];rfl
   have hz:=vb_len10 (n:=x.length) kO
   have hd:jn u (ss.drop i)=if 262144<(u++vb x.length++x).length then none else jn (u++vb x.length++x) (ss.drop (i+1)):=by
    rw[List.drop_eq_getElem_cons hil,(List.getElem?_eq_some_iff.1 hx).2];rfl
   rw[hd] at hj
   refine Wc.skip (Wc.seq (Wc.block (Wc.seq ?_)));apply gR (by simp only[go_sem,hlen,h13,h14,h15,h6,hix,hca];rfl);refine gN fun K F=>?_;simp only[go_sem,hlen,h13,h14,h15,h6];refine gP (pf100 [] (x.length:Int) kS) ?_;simp only[go_sem,hlen,h13,h14,h15,h6,ea];apply F;clear F K;refine gN fun K F=>?_;simp only[go_sem,hlen,h13,h14,h15,h6];refine BSt.w ((((hB.adv 1).adv 3).adv 8).adv 2) kO fun s2 hB2 hnx=>?_;simp only[go_sem,hlen,h13,h14,h15,h6];apply F;clear F K;refine gN fun K F=>?_;simp only[go_sem,hlen,h13,h14,h15,h6];refine BSt.w (hB2.adv 2) (by simp only[List.length_append];omega) fun s3 hB3 hnx=>?_;simp only[go_sem,hlen,h13,h14,h15,h6];apply F;clear F K;refine gN fun K F=>?_;simp only[go_sem,hlen,h13,h14,h15,h6];refine BSt.len (hB3.adv 2) fun m=>?_;simp only[go_sem,hlen,h13,h14,h15,h6];apply F;clear F K;refine Wc.cond (t:=decide ((262144:Int)<(u++vb x.length++x).length)) kL (fun hc=>?_) (fun hc=>?_)
   ·have hbig:262144<(u++vb x.length++x).length:=by
     have:(262144:Int)<(u++vb x.length++x).length:=of_decide_eq_true hc
     omega
    rw[if_pos hbig] at hj
    apply gS kM
    rw[hj]
    exact wr (gV [.tmp 4,.tmp 5] [.c (.p (.str [])),.c (.p (.bool false))] kL)
   ·have hbig:¬ 262144<(u++vb x.length++x).length:=by
     have:¬ (262144:Int)<(u++vb x.length++x).length:=of_decide_eq_false hc
     omega
    rw[if_neg hbig] at hj
    refine Wc.skip ?_;apply gR (by simp only[go_sem,hlen,h13,h14,h15,h6,i64n i kO];rfl)
    exact⟨ss.length-(i+1),kO,i+1,_,rfl,kO,rfl,by simp only[go_sem,hlen],by simp only[go_sem,hlen,h13],by simp only[go_sem,hlen,h14],by simp only[go_sem,hlen],by simp only[go_sem,hlen,h6],((hB3.adv 2).adv m).adv 2,kO,hj⟩
  ·have hil : i = ss.length := by have : ¬ (i : Int) < ss.length := by simpa using hc
                                  omega
   subst hil
   rw[List.drop_length] at hj
   refine Wc.exit (Wc.seq ?_);refine gM fun K F=>?_;simp only[go_sem,hlen,h13,h14,h15,h6];refine BSt.str ((hB.adv 1).adv 3) ?_;simp only[go_sem,hlen,h13,h14,h15,h6];apply F;clear F K
   rw[hj]
   exact wr (gV [.tmp 4,.tmp 5] [.c (.p (.str u)),.c (.p (.bool true))] kL)
 ·exact⟨0,t,rfl,kO,rfl,rfl,rfl,rfl,rfl,rfl,hB.adv 3,ht,by simp⟩
def finE (sig:Int)(lab:Pd)(z:List Pd)(o:Option (List UInt8)):D:=match o with
 |none=>.tup [noCh,.c (.p (pI 4))]
 |some d=>.tup [chV sig lab z d,.c (.p (pI 0))]
theorem pf101 (sig:Int)(n:Nat)(cs:List Pd)(z0 z1 z2 z3 z4 z5 z6 z7 z8 z9 z10 z11 z12:Pd)(t:List UInt8)(ss:List (List UInt8))(ht:t.length≤262144)(hs:∀ s∈ss,s.length≤35184372088832)(hl:ss.length<2^40) :
  Pf E0 101 [.c (.p (pI sig)),.c (.p (.lst n cs)),.agg [.p z0,.p z1,.p z2,.p z3,.p z4,.p z5,.p z6,.p z7,.p z8,.p z9,.p z10,.p z11,.p z12],.c (.p (.str t)),.c (.p (.lst ss.length (ss.map .str)))] (finE sig (.lst n cs) [z0,z1,z2,z3,z4,z5,z6,z7,z8,z9,z10,z11,z12] (jn t ss)):=by
 refine gQ (fn:=Tryz.f101) ?_;simp only[gL,Tryz.ntmps101,Nat.reduceSub,Nat.reduceAdd];refine gY ?_;refine gN fun K F=>?_;simp only[go_sem];refine gP (pf178 t ss ht hs hl) ?_;simp only[go_sem];apply F;clear F K;refine gO ?_;refine gZ ?_;cases hj:jn t ss with
 |none =>
  refine Wc.cond (t:=true) (by simp only[go_sem,Option.isSome]) (fun hc=>?_) (fun hc=>by cases hc);refine gY ?_;exact wr (gU [.cell 10 96,.tmp 11] [.agg ([.p (pI 0),.nils]++zz0.map .p++[.p (.str [])]),.c (.p (pI 4))])
 |some d =>
  refine Wc.cond (t:=false) (by simp only[go_sem,Option.isSome]) (fun hc=>by cases hc) (fun hc=>?_);refine Wc.skip (Wc.seq ?_);apply gR (by simp only[go_sem,Option.getD];rfl);exact wr (gV [.cell 10 96,.tmp 11] [chV sig (.lst n cs) [z0,z1,z2,z3,z4,z5,z6,z7,z8,z9,z10,z11,z12] d,.c (.p (pI 0))] (by simp only[go_sem];try rfl))
theorem Own.vs1 {s:St}{es n:Nat}{c:C}{cs:List Pd}(h:Own s es (.v (.c c)) n cs)(s':St):purVs s' [.c c]=some ([.c (.p (.lst n cs))],s'):=by
 obtain⟨h1,h2⟩:=h
 rcases h2 with ⟨h2,rfl⟩|⟨id,h2,_⟩
 ·cases h2
  have:cs=[]:=List.length_eq_zero_iff.1 (by simpa using h1)
  subst this;rfl
 ·cases h2;rfl
theorem OA.perm {b:Nat}{s:St}{L L':List (Nat×D×Nat×List Pd)}{M:List (Nat×Ob)}(h:OA b s L M)(hp:L.Perm L'):OA b s L' M :=
 ⟨h.free,fun y hy=>h.own y (hp.mem_iff.2 hy),(hp.pairwise_iff (fun hxy id h1 h2=>hxy id h2 h1)).1 h.dis,h.at_,h.nof,h.dism⟩
theorem packE_len {A:Type}{l:List A}:∀ {cols:List (Col A)} {ss:List (List UInt8)},packE l cols=some ss→ss.length≤cols.length
 |[],ss,h=>by simp only[packE,Option.some.injEq] at h;subst h;simp
 |c::r,ss,h=>by
  simp only[packE] at h
  split at h
  ·split at h
   ·rename_i ss' hs
    cases h
    have:=packE_len hs
    simp only[List.length_cons];omega
   ·cases h
  ·cases h
def nb (c:Int):Bool:=decide (97≤c∧c≤122) || decide (65≤c∧c≤90) || decide (48≤c∧c≤57) || decide (c=95)
theorem pf246 (c:Int):Pf E0 246 [.c (.p (.int .u8 c))] (P' (.bool (nb c))):=by
 refine gQ (fn:=Tryz.f246) ?_;simp only[gL,Tryz.ntmps246,Nat.reduceSub,Nat.reduceAdd];refine gY ?_;refine Wc.seq ?_
 have hcs:(c<48)∨(48≤c∧c≤57)∨(58≤c∧c≤64)∨(65≤c∧c≤90)∨(91≤c∧c≤96)∨(97≤c∧c≤122)∨(123≤c):=kO
 rcases hcs with hi|hi|hi|hi|hi|hi|hi
 ·
  have f0:(97≤c)=False:=by simp only[eq_iff_iff,iff_false];omega
  have f1:(c≤122)=True:=by simp only[eq_iff_iff,iff_true];omega
  have f2:(65≤c)=False:=by simp only[eq_iff_iff,iff_false];omega
  have f3:(c≤90)=True:=by simp only[eq_iff_iff,iff_true];omega
  have f4:(48≤c)=False:=by simp only[eq_iff_iff,iff_false];omega
  have f5:(c≤57)=True:=by simp only[eq_iff_iff,iff_true];omega
  have hb:(c==95)=false:=by simp;omega
  apply gR (by simp only[go_sem,f0,f1,f2,f3,f4,f5,hb];rfl)
  have e:nb c=false:=by simp[nb];omega
  rw[e]
  exact wr (gV [.tmp 2] [.c (.p (.bool false))] (by simp only[go_sem,f0,f1,f2,f3,f4,f5,hb]))
 ·
  have f0:(97≤c)=False:=by simp only[eq_iff_iff,iff_false];omega
  have f1:(c≤122)=True:=by simp only[eq_iff_iff,iff_true];omega
  have f2:(65≤c)=False:=by simp only[eq_iff_iff,iff_false];omega
  have f3:(c≤90)=True:=by simp only[eq_iff_iff,iff_true];omega
  have f4:(48≤c)=True:=by simp only[eq_iff_iff,iff_true];omega
  have f5:(c≤57)=True:=by simp only[eq_iff_iff,iff_true];omega
  have hb:(c==95)=false:=by simp;omega
  apply gR (by simp only[go_sem,f0,f1,f2,f3,f4,f5,hb];rfl)
  have e:nb c=true:=by simp[nb];omega
  rw[e]
  exact wr (gV [.tmp 2] [.c (.p (.bool true))] (by simp only[go_sem,f0,f1,f2,f3,f4,f5,hb]))
 ·
  have f0:(97≤c)=False:=by simp only[eq_iff_iff,iff_false];omega
  have f1:(c≤122)=True:=by simp only[eq_iff_iff,iff_true];omega
  have f2:(65≤c)=False:=by simp only[eq_iff_iff,iff_false];omega
  have f3:(c≤90)=True:=by simp only[eq_iff_iff,iff_true];omega
  have f4:(48≤c)=True:=by simp only[eq_iff_iff,iff_true];omega
  have f5:(c≤57)=False:=by simp only[eq_iff_iff,iff_false];omega
  have hb:(c==95)=false:=by simp;omega
  apply gR (by simp only[go_sem,f0,f1,f2,f3,f4,f5,hb];rfl)
  have e:nb c=false:=by simp[nb];omega
  rw[e]
  exact wr (gV [.tmp 2] [.c (.p (.bool false))] (by simp only[go_sem,f0,f1,f2,f3,f4,f5,hb]))
 ·
  have f0:(97≤c)=False:=by simp only[eq_iff_iff,iff_false];omega
  have f1:(c≤122)=True:=by simp only[eq_iff_iff,iff_true];omega
  have f2:(65≤c)=True:=by simp only[eq_iff_iff,iff_true];omega
  have f3:(c≤90)=True:=by simp only[eq_iff_iff,iff_true];omega
  have f4:(48≤c)=True:=by simp only[eq_iff_iff,iff_true];omega
  have f5:(c≤57)=False:=by simp only[eq_iff_iff,iff_false];omega
  have hb:(c==95)=false:=by simp;omega
  apply gR (by simp only[go_sem,f0,f1,f2,f3,f4,f5,hb];rfl)
  have e:nb c=true:=by simp[nb];omega
  rw[e]
  exact wr (gV [.tmp 2] [.c (.p (.bool true))] (by simp only[go_sem,f0,f1,f2,f3,f4,f5,hb]))
 ·
  have f0:(97≤c)=False:=by simp only[eq_iff_iff,iff_false];omega
  have f1:(c≤122)=True:=by simp only[eq_iff_iff,iff_true];omega
  have f2:(65≤c)=True:=by simp only[eq_iff_iff,iff_true];omega
  have f3:(c≤90)=False:=by simp only[eq_iff_iff,iff_false];omega
  have f4:(48≤c)=True:=by simp only[eq_iff_iff,iff_true];omega
  have f5:(c≤57)=False:=by simp only[eq_iff_iff,iff_false];omega
  by_cases h95:c=95
  ·have hb:(c==95)=true:=by simpa using h95
   apply gR (by simp only[go_sem,f0,f1,f2,f3,f4,f5,hb];rfl)
   have e:nb c=true:=by simp[nb];omega
   rw[e]
   exact wr (gV [.tmp 2] [.c (.p (.bool true))] (by simp only[go_sem,f0,f1,f2,f3,f4,f5,hb]))
  ·have hb:(c==95)=false:=by simpa using h95
   apply gR (by simp only[go_sem,f0,f1,f2,f3,f4,f5,hb];rfl)
   have e:nb c=false:=by simp[nb];omega
   rw[e]
   exact wr (gV [.tmp 2] [.c (.p (.bool false))] (by simp only[go_sem,f0,f1,f2,f3,f4,f5,hb]))
 ·
  have f0:(97≤c)=True:=by simp only[eq_iff_iff,iff_true];omega
  have f1:(c≤122)=True:=by simp only[eq_iff_iff,iff_true];omega
  have f2:(65≤c)=True:=by simp only[eq_iff_iff,iff_true];omega
  have f3:(c≤90)=False:=by simp only[eq_iff_iff,iff_false];omega
  have f4:(48≤c)=True:=by simp only[eq_iff_iff,iff_true];omega
  have f5:(c≤57)=False:=by simp only[eq_iff_iff,iff_false];omega
  have hb:(c==95)=false:=by simp;omega
  apply gR (by simp only[go_sem,f0,f1,f2,f3,f4,f5,hb];rfl)
  have e:nb c=true:=by simp[nb];omega
  rw[e]
  exact wr (gV [.tmp 2] [.c (.p (.bool true))] (by simp only[go_sem,f0,f1,f2,f3,f4,f5,hb]))
 ·
  have f0:(97≤c)=True:=by simp only[eq_iff_iff,iff_true];omega
  have f1:(c≤122)=False:=by simp only[eq_iff_iff,iff_false];omega
  have f2:(65≤c)=True:=by simp only[eq_iff_iff,iff_true];omega
  have f3:(c≤90)=False:=by simp only[eq_iff_iff,iff_false];omega
  have f4:(48≤c)=True:=by simp only[eq_iff_iff,iff_true];omega
  have f5:(c≤57)=False:=by simp only[eq_iff_iff,iff_false];omega
  have hb:(c==95)=false:=by simp;omega
  apply gR (by simp only[go_sem,f0,f1,f2,f3,f4,f5,hb];rfl)
  have e:nb c=false:=by simp[nb];omega
  rw[e]
  exact wr (gV [.tmp 2] [.c (.p (.bool false))] (by simp only[go_sem,f0,f1,f2,f3,f4,f5,hb]))
theorem pf220 (c:Int):Pf E0 220 [.c (.p (.int .u8 c))] (P' (.bool (nb c))):=by
 refine gQ (fn:=Tryz.f220) ?_;simp only[gL,Tryz.ntmps220,Nat.reduceSub,Nat.reduceAdd];refine gY ?_;refine Wc.seq ?_
 have hcs:(c<48)∨(48≤c∧c≤57)∨(58≤c∧c≤64)∨(65≤c∧c≤90)∨(91≤c∧c≤96)∨(97≤c∧c≤122)∨(123≤c):=kO
 rcases hcs with hi|hi|hi|hi|hi|hi|hi
 ·
  have f0:(97≤c)=False:=by simp only[eq_iff_iff,iff_false];omega
  have f1:(c≤122)=True:=by simp only[eq_iff_iff,iff_true];omega
  have f2:(65≤c)=False:=by simp only[eq_iff_iff,iff_false];omega
  have f3:(c≤90)=True:=by simp only[eq_iff_iff,iff_true];omega
  have f4:(48≤c)=False:=by simp only[eq_iff_iff,iff_false];omega
  have f5:(c≤57)=True:=by simp only[eq_iff_iff,iff_true];omega
  have hb:(c==95)=false:=by simp;omega
  apply gR (by simp only[go_sem,f0,f1,f2,f3,f4,f5,hb];rfl)
  have e:nb c=false:=by simp[nb];omega
  rw[e]
  exact wr (gV [.tmp 2] [.c (.p (.bool false))] (by simp only[go_sem,f0,f1,f2,f3,f4,f5,hb]))
 ·
  have f0:(97≤c)=False:=by simp only[eq_iff_iff,iff_false];omega
  have f1:(c≤122)=True:=by simp only[eq_iff_iff,iff_true];omega
  have f2:(65≤c)=False:=by simp only[eq_iff_iff,iff_false];omega
  have f3:(c≤90)=True:=by simp only[eq_iff_iff,iff_true];omega
  have f4:(48≤c)=True:=by simp only[eq_iff_iff,iff_true];omega
  have f5:(c≤57)=True:=by simp only[eq_iff_iff,iff_true];omega
  have hb:(c==95)=false:=by simp;omega
  apply gR (by simp only[go_sem,f0,f1,f2,f3,f4,f5,hb];rfl)
  have e:nb c=true:=by simp[nb];omega
  rw[e]
  exact wr (gV [.tmp 2] [.c (.p (.bool true))] (by simp only[go_sem,f0,f1,f2,f3,f4,f5,hb]))
 ·
  have f0:(97≤c)=False:=by simp only[eq_iff_iff,iff_false];omega
  have f1:(c≤122)=True:=by simp only[eq_iff_iff,iff_true];omega
  have f2:(65≤c)=False:=by simp only[eq_iff_iff,iff_false];omega
  have f3:(c≤90)=True:=by simp only[eq_iff_iff,iff_true];omega
  have f4:(48≤c)=True:=by simp only[eq_iff_iff,iff_true];omega
  have f5:(c≤57)=False:=by simp only[eq_iff_iff,iff_false];omega
  have hb:(c==95)=false:=by simp;omega
  apply gR (by simp only[go_sem,f0,f1,f2,f3,f4,f5,hb];rfl)
  have e:nb c=false:=by simp[nb];omega
  rw[e]
  exact wr (gV [.tmp 2] [.c (.p (.bool false))] (by simp only[go_sem,f0,f1,f2,f3,f4,f5,hb]))
 ·
  have f0:(97≤c)=False:=by simp only[eq_iff_iff,iff_false];omega
  have f1:(c≤122)=True:=by simp only[eq_iff_iff,iff_true];omega
  have f2:(65≤c)=True:=by simp only[eq_iff_iff,iff_true];omega
  have f3:(c≤90)=True:=by simp only[eq_iff_iff,iff_true];omega
  have f4:(48≤c)=True:=by simp only[eq_iff_iff,iff_true];omega
  have f5:(c≤57)=False:=by simp only[eq_iff_iff,iff_false];omega
  have hb:(c==95)=false:=by simp;omega
  apply gR (by simp only[go_sem,f0,f1,f2,f3,f4,f5,hb];rfl)
  have e:nb c=true:=by simp[nb];omega
  rw[e]
  exact wr (gV [.tmp 2] [.c (.p (.bool true))] (by simp only[go_sem,f0,f1,f2,f3,f4,f5,hb]))
 ·
  have f0:(97≤c)=False:=by simp only[eq_iff_iff,iff_false];omega
  have f1:(c≤122)=True:=by simp only[eq_iff_iff,iff_true];omega
  have f2:(65≤c)=True:=by simp only[eq_iff_iff,iff_true];omega
  have f3:(c≤90)=False:=by simp only[eq_iff_iff,iff_false];omega
  have f4:(48≤c)=True:=by simp only[eq_iff_iff,iff_true];omega
  have f5:(c≤57)=False:=by simp only[eq_iff_iff,iff_false];omega
  by_cases h95:c=95
  ·have hb:(c==95)=true:=by simpa using h95
   apply gR (by simp only[go_sem,f0,f1,f2,f3,f4,f5,hb];rfl)
   have e:nb c=true:=by simp[nb];omega
   rw[e]
   exact wr (gV [.tmp 2] [.c (.p (.bool true))] (by simp only[go_sem,f0,f1,f2,f3,f4,f5,hb]))
  ·have hb:(c==95)=false:=by simpa using h95
   apply gR (by simp only[go_sem,f0,f1,f2,f3,f4,f5,hb];rfl)
   have e:nb c=false:=by simp[nb];omega
   rw[e]
   exact wr (gV [.tmp 2] [.c (.p (.bool false))] (by simp only[go_sem,f0,f1,f2,f3,f4,f5,hb]))
 ·
  have f0:(97≤c)=True:=by simp only[eq_iff_iff,iff_true];omega
  have f1:(c≤122)=True:=by simp only[eq_iff_iff,iff_true];omega
  have f2:(65≤c)=True:=by simp only[eq_iff_iff,iff_true];omega
  have f3:(c≤90)=False:=by simp only[eq_iff_iff,iff_false];omega
  have f4:(48≤c)=True:=by simp only[eq_iff_iff,iff_true];omega
  have f5:(c≤57)=False:=by simp only[eq_iff_iff,iff_false];omega
  have hb:(c==95)=false:=by simp;omega
  apply gR (by simp only[go_sem,f0,f1,f2,f3,f4,f5,hb];rfl)
  have e:nb c=true:=by simp[nb];omega
  rw[e]
  exact wr (gV [.tmp 2] [.c (.p (.bool true))] (by simp only[go_sem,f0,f1,f2,f3,f4,f5,hb]))
 ·
  have f0:(97≤c)=True:=by simp only[eq_iff_iff,iff_true];omega
  have f1:(c≤122)=False:=by simp only[eq_iff_iff,iff_false];omega
  have f2:(65≤c)=True:=by simp only[eq_iff_iff,iff_true];omega
  have f3:(c≤90)=False:=by simp only[eq_iff_iff,iff_false];omega
  have f4:(48≤c)=True:=by simp only[eq_iff_iff,iff_true];omega
  have f5:(c≤57)=False:=by simp only[eq_iff_iff,iff_false];omega
  have hb:(c==95)=false:=by simp;omega
  apply gR (by simp only[go_sem,f0,f1,f2,f3,f4,f5,hb];rfl)
  have e:nb c=false:=by simp[nb];omega
  rw[e]
  exact wr (gV [.tmp 2] [.c (.p (.bool false))] (by simp only[go_sem,f0,f1,f2,f3,f4,f5,hb]))
end Go.Proofs.YtedcnhbblgmdnaaGreat.Ab
