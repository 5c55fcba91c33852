/- A part of the proof. -/
import Derived.Test.YtedcnhbblgmdnaaGreatT24
import Derived.Test.YtedcnhbblgmdnaaGreatT10
set_option maxHeartbeats 8000000
set_option maxRecDepth 10000
set_option linter.unusedSimpArgs false
set_option linter.unusedVariables false
namespace Go.Proofs.YtedcnhbblgmdnaaGreat.Ab
theorem sumV_bnd {k:Int}:∀(l:List I2),(∀ x∈l,okS k x)→∀ s0:Int,s0-l.length*1099511627776≤l.foldl (fun s x=>s+x.2) s0∧l.foldl (fun s x=>s+x.2) s0≤s0+l.length*1099511627776
 |[],_,s0=>by simp
 |a::r,h,s0=>by
  obtain⟨h1,h2⟩:=sumV_bnd r (fun x hx=>h x (by simp[hx])) (s0+a.2)
  obtain⟨_,a1,a2⟩:=h a kS
  simp only[List.foldl_cons,List.length_cons];omega
theorem OA.putF {b k:Nat}{s:St}{o:Ob}{M:List (Nat×Ob)}(h:OA b s [] M)(hk:k<b)(hm:∀ y∈M,y.1≠k):OA b (s.put k o) [] M:=by
 refine⟨fun q hq=>?_,fun y hy=>(by cases hy),h.dis,fun y hy=>?_,h.nof,h.dism⟩
 ·rw[St.get_put,if_neg kO];exact h.free q hq
 ·rw[St.get_put,if_neg (fun e=>hm y hy e.symm)];exact h.at_ y hy
theorem pf91 (st k:Int)(x:I2)(r:List I2)(hk:k=1∨k=2)(hl:(x::r).length≤2000)(hs:(x::r).Pairwise (fun a b=>a.1<b.1))(hb:∀ y∈(x::r),okS k y):Pf E0 91 [.c (.p (pI st)),.c (.p (.lst (x::r).length ((x::r).flatMap p2))),.c (.p (pI k))] (.v (.agg ((sumB k st x r).pd.map .p))):=by
 have hfl:((x::r).flatMap p2).length=(x::r).length*2:=flat_len (k:=2) (fun _=>rfl) _
 obtain⟨z,hz⟩:∃ z,(x::r).getLast kS=z:=⟨_,rfl⟩
 have hzl:(x::r)[(x::r).length-1]? = some z:=by rw[← hz,List.getLast_eq_getElem];simp
 have hx0:(x::r)[0]? = some x:=rfl
 have hpos:0<(x::r).length:=by simp
 have hix:indexAddrD E0 23 (.v (.c (.p (.lst (x::r).length ((x::r).flatMap p2))))) (.v (.c (.p (.int .i64 0))))=_:=ixA ti23 rfl ti39 (j:=0) (m:=(x::r).length) (cs:=(x::r).flatMap p2) hpos hfl kD
 have hca:=rpA (off:=0*2) (drop_flat (f:=p2) (k:=2) (fun _=>rfl) hx0) (by rw[hfl];omega)
 have hiz:=ixA ti23 rfl ti39 (j:=(x::r).length-1) (m:=(x::r).length) (cs:=(x::r).flatMap p2) kO hfl kD
 have hcz:=rpA (off:=((x::r).length-1)*2) (drop_flat (f:=p2) (k:=2) (fun _=>rfl) hzl) (by rw[hfl];omega)
 have e1:IntKind.i64.wrap (((x::r).length:Int)-1)=(((x::r).length-1:Nat):Int):=by rw[wi64];omega
 simp only[Nat.zero_mul] at hix hca
 have hsum:sumB k st x r=⟨st,(x::r).length,sumV (x::r),(x::r).foldl (fun m y=>minI m y.2) x.2,(x::r).foldl (fun m y=>maxI m y.2) x.2,x.2,z.2,x.1,z.1,if k=2 then incV (x::r) else 0⟩:=by
  unfold sumB;rw[hz]
 rw[hsum]
 have hinc:k=2→Pf E0 148 [.c (.p (.lst (x::r).length ((x::r).flatMap p2)))] (P' (pI (incV (x::r)))):=fun e=>pf148 _ hl hs (fun y hy=>e ▸ hb y hy)
 clear hsum hz;generalize hLL:(x::r)=l at *;refine gQ (fn:=Tryz.f91) ?_;simp only[gL,Tryz.ntmps91,Nat.reduceSub,Nat.reduceAdd];refine gY ?_;refine Wc.seq ?_;refine Wc.regT fun K F=>?_;simp only[go_sem,hix,hca,hiz,hcz,e1]
 refine⟨by rw[trOK_eq];rfl,F _ _ ?_⟩
 refine gY ?_;refine Wc.seqR (fun y=>y.ds=[]∧Fs y.e 68 [(1,P' (.lst l.length (l.flatMap p2))),(2,P' (pI k)),(6,.v (.c (.ref 0 0))),(9,.v (.c (.ref 30 0)))]∧OA y.s.nx y.s [] [(30,.cells ([pI st,pI l.length,pI (sumV l),pI (l.foldl (fun m y=>minI m y.2) x.2),pI (l.foldl (fun m y=>maxI m y.2) x.2),pI x.2,pI z.2,pI x.1,pI z.1,pI 0].map .p) false),(0,.cells ((List.replicate 10 (pI 0)).map .p) false)]) ?_ ?_
 ·refine gY ?_;refine Wc.block (Wc.loop (fun c y=>∃(i:Nat),c=l.length-i∧i≤l.length∧y.ds=[]∧Fs y.e 68 [(1,P' (.lst l.length (l.flatMap p2))),(2,P' (pI k)),(6,.v (.c (.ref 0 0))),(9,.v (.c (.ref 30 0))),(37,P' (.lst l.length (l.flatMap p2))),(38,P' (pI l.length)),(39,P' (pI i))]∧OA y.s.nx y.s [] [(30,.cells ([pI st,pI l.length,pI (sumV (l.take i)),pI ((l.take i).foldl (fun m y=>minI m y.2) x.2),pI ((l.take i).foldl (fun m y=>maxI m y.2) x.2),pI x.2,pI z.2,pI x.1,pI z.1,pI 0].map .p) false),(0,.cells ((List.replicate 10 (pI 0)).map .p) false)]) ?_ (k:=l.length) ?_)
  ·rintro c ⟨e,ds,s1⟩ ⟨i,rfl,hi,rfl,hF,ho⟩;simp only[Fs] at hF ho
   have g:=ho.at_ (30,_) (List.mem_cons_self ..)
   simp only[gm] at g
   have hlt:=ho.lt g
   have n30:∀ j,(s1.nx+j=30)=False:=fun j=>by simp;omega
   have n30':∀ j,(30=s1.nx+j)=False:=fun j=>by simp;omega
   apply gS kG;refine Wc.seq ?_;refine Wc.cond (t:=decide ((i:Int)<l.length)) kF (fun hc=>?_) (fun hc=>?_)
   ·have hil:i<l.length:=gi hc
    obtain⟨u,hu⟩:=gE hil
    have hiu:=ixA ti23 rfl ti39 (j:=i) (m:=l.length) (cs:=l.flatMap p2) hil hfl kD
    have hcu:=rpA (off:=i*2) (drop_flat (f:=p2) (k:=2) (fun _=>rfl) hu) (by rw[hfl];omega)
    have htk:=take_succ hu
    have hbu:=hb u (gw hu)
    have hsb:=sumV_bnd (k:=k) (l.take i) (fun y hy=>hb y (List.mem_of_mem_take hy)) 0
    have hti:(l.take i).length=i:=by simp;omega
    have es:sumV (l.take (i+1))=sumV (l.take i)+u.2:=by rw[htk];simp[sumV,List.foldl_append]
    have em:(l.take (i+1)).foldl (fun m y=>minI m y.2) x.2=minI ((l.take i).foldl (fun m y=>minI m y.2) x.2) u.2:=by rw[htk,List.foldl_append];rfl
    have ex:(l.take (i+1)).foldl (fun m y=>maxI m y.2) x.2=maxI ((l.take i).foldl (fun m y=>maxI m y.2) x.2) u.2:=by rw[htk,List.foldl_append];rfl
    have ew:IntKind.i64.wrap (sumV (l.take i)+u.2)=sumV (l.take i)+u.2:=by
     have h1:sumV (l.take i)=(l.take i).foldl (fun s x=>s+x.2) 0:=rfl
     obtain⟨_,b1,b2⟩:=hbu
     rw[wi64];omega
    generalize sumV (l.take i)=S at *;generalize (l.take i).foldl (fun m y=>minI m y.2) x.2=Mn at *;generalize (l.take i).foldl (fun m y=>maxI m y.2) x.2=Mx at *;refine Wc.skip (Wc.seq (Wc.block (Wc.seq ?_)));apply gR (by simp only[go_sem,hF,hiu,hcu];rfl);apply gS (by simp only[go_sem,hF,g,ew,n30,n30'];rfl);apply gS (by simp only[go_sem,hF,g,minB2,St.put_put,n30,n30'];rfl);apply gR (by simp only[go_sem,hF,g,maxB2,St.put_put,n30,n30'];rfl);apply gR kX
    refine⟨l.length-(i+1),kO,i+1,rfl,kO,rfl,by simp only[go_sem,hF],?_⟩
    rw[es,em,ex]
    exact by(try simp only[gI]);(repeat refine oA ?_);refine OA.ofS (M1:=[]) ?_;repeat (first | exact⟨_,OA.mono ho kO⟩ | refine OAs.adv ?_ | refine OAs.put ?_ | refine OAs.putB ?_ kO)
   ·have hil:i=l.length:=by have:=of_decide_eq_false hc;omega
    rw[hil,List.take_length] at ho
    exact Wc.exit ⟨rfl,by simp only[go_sem,hF],oZ⟩
  ·refine⟨0,rfl,kO,rfl,by simp only[go_sem],?_⟩
   simp only[St.nx_put,St.nx_adv];refine OA.advB (OA.newB (k:=30) (OA.advB (OA.putF (k:=11) (OA.putF (k:=10) (OA.putB (k:=11) (OA.putB (k:=10) (OA.advB (OA.newB (k:=0) (OA.mono (s00_oa.adv (n:=1)) kO) kO rfl)) kO) kO) kO kS) kO kS)) kO rfl)
 rintro⟨e,ds,s1⟩ ⟨rfl,hF,ho⟩
 simp only[Fs] at hF ho
 have g:=ho.at_ (30,_) (List.mem_cons_self ..)
 have g0:=ho.at_ (0,.cells ((List.replicate 10 (pI 0)).map .p) false) kS
 simp only[gm] at g g0;refine Wc.seqR (fun y=>y.ds=[]∧Fs y.e 68 [(6,.v (.c (.ref 0 0))),(9,.v (.c (.ref 30 0)))]∧y.s.get 30=some (.cells ([pI st,pI l.length,pI (sumV l),pI (l.foldl (fun m y=>minI m y.2) x.2),pI (l.foldl (fun m y=>maxI m y.2) x.2),pI x.2,pI z.2,pI x.1,pI z.1,pI (if k=2 then incV l else 0)].map .p) false)∧y.s.get 0=some (.cells ((List.replicate 10 (pI 0)).map .p) false)) ?_ ?_
 ·refine Wc.seq ?_;rcases hk with hk1|hk2
  ·subst hk1;apply gR kG;apply gX (by simp only[go_sem,hF,Int.reduceBEq]);refine Wc.skip ⟨rfl,by simp only[go_sem,hF],?_,?_⟩
   ·simp only[go_sem,g]
   ·simp only[go_sem,g0]
  ·subst hk2
   have p:=hinc rfl
   apply gR kG;apply gT kF;refine gM fun K F=>?_;simp only[go_sem,hF];refine gP p ?_;simp only[go_sem,hF,g];apply F;clear F K
   refine⟨rfl,by simp only[go_sem,hF],?_,?_⟩
   ·simp only[go_sem]
   ·simp only[go_sem,g0]
 rintro⟨e,ds,s1⟩ ⟨rfl,hF,g,g0⟩
 simp only[Fs] at hF;simp only[gm] at g g0;apply gS (by simp only[go_sem,hF,g,g0];rfl);exact wr (gV [.cell 6 41] [.agg ([pI st,pI l.length,pI (sumV l),pI (l.foldl (fun m y=>minI m y.2) x.2),pI (l.foldl (fun m y=>maxI m y.2) x.2),pI x.2,pI z.2,pI x.1,pI z.1,pI (if k=2 then incV l else 0)].map .p)] kF)
def trOK3 (ops:Array Oper):List Tr→Bool
 |[]=>true
 |x::r=>(r.all fun y=>dirEdge ops y.i x.i || (reach ops 9 y.i x.i || freeOK x y))&&trOK3 ops r
theorem trOK_eq3 (ops:Array Oper):∀ l,trOK ops l=trOK3 ops l
 |[]=>rfl
 |x::r=>by
  rw[trOK,trOK3,trOK_eq3 ops r]
  congr 2
  funext y
  unfold pairOK hasEdge;cases dirEdge ops y.i x.i<;>cases freeOK x y<;>cases reach ops 9 y.i x.i<;>rfl
theorem GB.app {b key:Nat}{s:St}{L:List (Nat×D×Nat×List Pd)}{M G:List (Nat×Ob)}{x:C}{l m:List Bkt}{y:D}{K:D→St→Prop}(ho:OA b s L (G++M))(hx:GB x l G)(hkey:b≤key)(hn:l.length+m.length<2^30)(hy:srcD E0 29 s y=some (m.length,m.flatMap Bkt.pd))(hm:m≠[])
  (hk:∀ x' G' s',OA (key+1) s' L (G' ++ M)→s'.nx=s.nx→GB x' (l++m) G'→K (.v (.c x')) s'):stepK (appendD E0 key [29,29] (.v (.c x)) y s) K:=by
 have hfl:(m.flatMap Bkt.pd).length=m.length*10:=flat_len (k:=10) (fun _=>rfl) m
 have hm0:0<m.length:=List.length_pos_iff.2 hm
 rcases hx with ⟨rfl,rfl,rfl⟩|⟨id,rfl,rfl⟩
 ·refine OA.appN (by_:=80) (m:=m.length) (ys:=m.flatMap Bkt.pd) (L:=L) (M:=M) ho hkey rfl ⟨_,ti29,rfl⟩ ti41 rfl rfl rfl kD kD hy hfl hm0 (by simp only[List.length_nil] at hn;omega) fun s' hs hnx=>?_;exact hk _ [(key,.grow 10 m.length (cB m) false)] s' hs hnx (.inr ⟨key,by simp,by simp⟩)
 ·refine OA.appG (M1:=[]) (M2:=M) (by_:=80) (n:=l.length) (m:=m.length) (ys:=m.flatMap Bkt.pd) (cs:=cB l) (L:=L) ho rfl ⟨_,ti29,rfl⟩ ti41 rfl rfl rfl kD kD hy hfl kO fun s' hs hnx=>?_;refine hk _ [(id,.grow 10 (l.length+m.length) (cB l++(m.flatMap Bkt.pd).map .p) false)] s' (hs.mono kO) hnx (.inr ⟨id,by rw[List.length_append],by rw[List.length_append,cB_app];rfl⟩)
theorem Pf.retG1 {fn:Func}{x:Fr}{xc:C}{l:List Bkt}{G M:List (Nat×Ob)}{L:List (Nat×D×Nat×List Pd)}{b kd:Nat}{lb:List Lb}{k w:Int}(rs:List ResultVar)(hd:x.ds=[kd])(hm:(kd,Ob.defr)∈M)(hrs:fn.results.toList=rs)
  (hr:resultsD E0 x.e (x.s.put kd .dead) rs=some [.agg [.p (.lst lb.length (lb.flatMap lbP)),.p (pI k),.p (pI w),xc]]) (ho:OA b x.s L (G++M)) (h:GB xc l G) :
  bodyQ E0 fn (fun d0 s2=>∃ s3,purD s2 d0=some (.v (.agg ((Rlp.mk lb k w l).pd.map .p)),s3)) .ret x:=by
 obtain⟨s3,h3⟩:=h.pur (ho.keepG hm (o':=.dead) rfl)
 have hp:∀(s:St) (x:Pd),purC s (.p x)=some (x,s):=fun _ _=>rfl
 refine Pf.ret1 rs _ hd (ho.at_ (kd,.defr) (by simp[hm])) hrs hr (s3:=s3) ?_;simp only[packD,purD,purVs,purV,purCs,hp,h3,List.map_cons,List.map_nil]
theorem OA.rot' {b:Nat}{s:St}{L:List (Nat×D×Nat×List Pd)}{A B M:List (Nat×Ob)}(h:OA b s L (A++(B++M))):OA b s L (B++(A++M)):=by
 rw[← List.append_assoc] at h ⊢
 exact h.rot
theorem OA.setAt {b k:Nat}{s:St}{o o':Ob}{L:List (Nat×D×Nat×List Pd)}{A B R:List (Nat×Ob)}(h:OA b s L (A++(B++(k,o)::R)))(hf:o'.isFront=false):OA b (s.put k o') L (A++(B++(k,o')::R)):=by
 rw[← List.append_assoc] at h ⊢
 exact h.set hf
theorem o91:E0.opn 91=false:=by kernel_rfl
theorem x91:E0.xt 91=none:=by kernel_rfl
theorem pf43 (x:Ser)(v:Sv x)(w:Int)(hw:1≤w∧w≤1099511627776):Pf E0 43 [.agg (x.pd.map .p),.c (.p (pI w))] (.v (.agg ((Rlp.mk x.lb x.k w (ofB x.k w x.sm)).pd.map .p))):=by
 have hvl:=v.len
 have hroll:rollB x.k w x.sm=ofB x.k w x.sm:=rollB_eq hw.1 v.srt (fun y hy=>(v.ok y hy).1.1)
 have hrl:(rollB x.k w x.sm).length≤2000:=by have:=ofB_len x.k w x.sm;rw[hroll];omega
 rw[← hroll]
 generalize hRB:rollB x.k w x.sm=RB at *;refine gQ (fn:=Tryz.f43) ?_;simp only[gL,Tryz.ntmps43,Nat.reduceSub,Nat.reduceAdd];refine gY ?_;refine gY ?_;refine Wc.seqR (fun y=>∃ xc G k9,y.ds=[k9]∧Fs y.e 31 [(4,.v (.c (.ref 1 0))),(5,.v (.c (.ref 8 0)))]∧OA y.s.nx y.s [] (G++[(k9,.defr),(8,.cells [.p (.lst x.lb.length (x.lb.flatMap lbP)),.p (pI x.k),.p (pI w),xc] false),(1,.cells [.nils,.p (pI 0),.p (pI 0),.nils] false)])∧GB xc RB G) ?_ ?_
 ·refine gN fun K F=>?_;simp only[go_sem];refine call90 (M:=[(8,.cells [.p (.lst x.lb.length (x.lb.flatMap lbP)),.p (pI x.k),.p (pI w),.nils] false),(1,.cells [.nils,.p (pI 0),.p (pI 0),.nils] false),(0,.cells (x.pd.map .p) false)]) (L:=[]) (by(try simp only[gI]);repeat (first | exact oM s00_oa | refine oN ?_ | refine oP ?_ | refine oA ?_)) fun s2 ho hnx=>?_;simp only[go_sem];apply F;clear F K;refine Wc.block ?_;refine Wc.iter (iter147 (l:=x.sm) (w:=w) (r:=14) (q:=15) (fr:=false) (fq:=false) hw kO (fun y hy=>(v.ok y hy).1)) (fun i L M=>∃ xc G acc,L=[]∧M=G++[(15,.cells [.p (pI w)] false),(14,.cells [.p (.lst x.sm.length (x.sm.flatMap p2))] false),(8,.cells [.p (.lst x.lb.length (x.lb.flatMap lbP)),.p (pI x.k),.p (pI w),xc] false),(1,.cells [.nils,.p (pI 0),.p (pI 0),.nils] false),(0,.cells (x.pd.map .p) false)]∧GB xc acc G∧acc++(pieces w (x.sm.drop i)).flatMap (sumP x.k)=RB) kA ho ⟨.nils,[],[],rfl,rfl,.inl ⟨rfl,rfl,rfl⟩,by rw[← hRB];rfl⟩ ?_ ?_ ?_ ?_
  ·rintro i L M s ⟨xc,G,acc,rfl,rfl,hG,hacc⟩ hM
   exact⟨hM (14,_) kS,hM (15,_) kS⟩
  ·rintro i k a ⟨st,p,rfl,_⟩;rfl
  ·rintro i k aa lp s L M ⟨st,p,rfl,hpne,hpm,hpl,hpc,hps⟩ ⟨xc,G,acc,rfl,rfl,hG,hacc⟩ hos
   obtain⟨x0,r0,rfl⟩:∃ x0 r0,p=x0::r0:=by
    cases p with
    |nil=>exact absurd rfl hpne
    |cons a b=>exact⟨a,b,rfl⟩
   have p91:=pf91 st x.k x0 r0 v.k kO (v.srt.sublist hps) (fun y hy=>v.ok y (hpm y hy))
   rw[hpc,List.flatMap_cons] at hacc
   have hsp:sumP x.k (st,x0::r0)=[sumB x.k st x0 r0]:=rfl
   rw[hsp,← List.append_assoc] at hacc
   have hal:acc.length+[sumB x.k st x0 r0].length<2^30:=by
    have:=congrArg List.length hacc
    simp only[List.length_append] at this ⊢;omega
   generalize sumB x.k st x0 r0=bk at *;simp only[setAll,List.zip_cons_cons,List.zip_nil_right];refine gY ?_;refine gZ ?_
   refine⟨rfl,[],G++[(15,.cells [.p (pI w)] false),(14,.cells [.p (.lst x.sm.length (x.sm.flatMap p2))] false),(8,.cells [.p (.lst x.lb.length (x.lb.flatMap lbP)),.p (pI x.k),.p (pI w),xc] false),(1,.cells [.nils,.p (pI 0),.p (pI 0),.nils] false),(0,.cells (x.pd.map .p) false)],?_,fun lq s' hos'=>?_⟩
   ·exact by(try simp only[gI]);repeat (first | exact oM hos | refine oN ?_ | refine oP ?_ | refine oA ?_)
   have hos2:OA s'.nx s' [] (G++((s2.nx,.loop lq)::(s2.nx+1,.defr)::[(15,.cells [.p (pI w)] false),(14,.cells [.p (.lst x.sm.length (x.sm.flatMap p2))] false),(8,.cells [.p (.lst x.lb.length (x.lb.flatMap lbP)),.p (pI x.k),.p (pI w),xc] false),(1,.cells [.nils,.p (pI 0),.p (pI 0),.nils] false),(0,.cells (x.pd.map .p) false)])):=OA.rot (A:=[_,_]) (B:=G) hos' |> fun h=>by simpa using h
   have g8:=hos2.at_ (8,.cells [.p (.lst x.lb.length (x.lb.flatMap lbP)),.p (pI x.k),.p (pI w),xc] false) kS
   have g0:=hos2.at_ (0,.cells (x.pd.map .p) false) kS
   simp only[gm] at g0;refine Wc.block ?_;refine Wc.regT fun K F=>?_;simp only[go_sem,g8,g0];refine gP p91 ?_;simp only[go_sem,g8,g0,o91,x91];refine GB.app (m:=[bk]) (M:=((s2.nx,.loop lq)::(s2.nx+1,.defr)::[(15,.cells [.p (pI w)] false),(14,.cells [.p (.lst x.sm.length (x.sm.flatMap p2))] false),(8,.cells [.p (.lst x.lb.length (x.lb.flatMap lbP)),.p (pI x.k),.p (pI w),xc] false),(1,.cells [.nils,.p (pI 0),.p (pI 0),.nils] false),(0,.cells (x.pd.map .p) false)])) (G:=G) (L:=[]) ?_ hG (Nat.le_refl _) hal (by simp only[go_sem];try rfl) kS fun x' G' s3 hs hnx hG'=>?_
   ·exact by(try simp only[gI]);repeat (first | exact oM hos2 | refine oN ?_ | refine oP ?_ | refine oA ?_)
   have g8':=hs.at_ (8,.cells [.p (.lst x.lb.length (x.lb.flatMap lbP)),.p (pI x.k),.p (pI w),xc] false) kS
   simp only[go_sem,g8',g0]
   refine⟨by rw[trOK_eq3];rfl,F _ _ ?_⟩
   have hs3:=OA.setAt (A:=G') (B:=[_,_,_,_]) (R:=[_,_]) (o':=.cells [.p (.lst x.lb.length (x.lb.flatMap lbP)),.p (pI x.k),.p (pI w),x'] false) hs rfl
   refine⟨rfl,[],G' ++ [(15,.cells [.p (pI w)] false),(14,.cells [.p (.lst x.sm.length (x.sm.flatMap p2))] false),(8,.cells [.p (.lst x.lb.length (x.lb.flatMap lbP)),.p (pI x.k),.p (pI w),x'] false),(1,.cells [.nils,.p (pI 0),.p (pI 0),.nils] false),(0,.cells (x.pd.map .p) false)],?_,x',G',acc++[bk],rfl,rfl,hG',hacc⟩
   have hs4:=OA.rot' (A:=G') (B:=[(s2.nx,.loop lq),(s2.nx+1,.defr)]) (M:=[(15,.cells [.p (pI w)] false),(14,.cells [.p (.lst x.sm.length (x.sm.flatMap p2))] false),(8,.cells [.p (.lst x.lb.length (x.lb.flatMap lbP)),.p (pI x.k),.p (pI w),x'] false),(1,.cells [.nils,.p (pI 0),.p (pI 0),.nils] false),(0,.cells (x.pd.map .p) false)]) hs3
   refine OA.mono hs4 ?_;simp only[St.nx_put,St.nx_adv] at hnx ⊢;omega
  ·rintro L M s3 hos ⟨xc,G,acc,rfl,rfl,hG,hacc⟩
   rw[List.drop_length] at hacc
   have ha:acc=RB:=by rw[← hacc,pieces];simp
   rw[ha] at hG
   refine⟨xc,G,s2.nx+1,rfl,by simp only[go_sem],?_,hG⟩
   have h1:=OA.rot (A:=[_]) (B:=G) (M:=[(15,.cells [.p (pI w)] false),(14,.cells [.p (.lst x.sm.length (x.sm.flatMap p2))] false),(8,.cells [.p (.lst x.lb.length (x.lb.flatMap lbP)),.p (pI x.k),.p (pI w),xc] false),(1,.cells [.nils,.p (pI 0),.p (pI 0),.nils] false),(0,.cells (x.pd.map .p) false)]) hos
   refine OA.sub h1 (List.Sublist.refl _) ?_
   rw[List.append_assoc]
   refine List.Sublist.append (List.Sublist.refl _) ?_
   exact(((((List.nil_sublist _).cons_cons _).cons_cons _).cons _).cons _).cons_cons _
 ·rintro⟨e,ds,s1⟩ ⟨xc,G,k9,rfl,hF,ho,hG⟩
  simp only[Fs] at hF ho
  have g8:=ho.at_ (8,.cells [.p (.lst x.lb.length (x.lb.flatMap lbP)),.p (pI x.k),.p (pI w),xc] false) kS
  have g1:=ho.at_ (1,.cells [.nils,.p (pI 0),.p (pI 0),.nils] false) kS
  have g9:=ho.at_ (k9,.defr) kS
  have hd:=ho.dism
  rw[List.pairwise_append] at hd
  have hd2:=hd.2.1
  simp only[List.pairwise_cons,List.mem_cons,List.not_mem_nil,or_false] at hd2
  have n1:(k9=1)=False:=by have:=hd2.1 _ (.inr rfl);simpa using this
  have n1':(1=k9)=False:=by have:=hd2.1 _ (.inr rfl);simp at this ⊢;omega
  apply gS (by simp only[go_sem,hF,g8,g1];rfl)
  have h3:OA s1.nx (s1.put 1 (.cells [.p (.lst x.lb.length (x.lb.flatMap lbP)),.p (pI x.k),.p (pI w),xc] false)) [] (G++[(k9,.defr)]):=by
   have h4:OA s1.nx s1 [] ((G++[(k9,.defr),(8,.cells [.p (.lst x.lb.length (x.lb.flatMap lbP)),.p (pI x.k),.p (pI w),xc] false)])++(1,.cells [.nils,.p (pI 0),.p (pI 0),.nils] false)::[]):=by simpa using ho
   refine OA.sub (h4.set (o':=.cells [.p (.lst x.lb.length (x.lb.flatMap lbP)),.p (pI x.k),.p (pI w),xc] false) rfl) (List.Sublist.refl _) ?_
   rw[List.append_assoc]
   exact List.Sublist.append (List.Sublist.refl _) ((List.nil_sublist _).cons_cons _)
  exact wr (Pf.retG1 [.cell 4 31] rfl (List.mem_singleton.2 rfl) rfl (by simp only[go_sem,hF,n1,n1']) h3.adv hG)
theorem pf72 (x:Ser)(z:x.Sz):Pf E0 72 [.agg (x.pd.map .p)] (P' (.bool (serOK x))):=by
 have hfl:(x.hs.flatMap HSm.pd).length=x.hs.length*7:=flat_len (k:=7) (fun _=>rfl) x.hs
 refine gQ (fn:=Tryz.f72) ?_;simp only[gL,Tryz.ntmps72,Nat.reduceSub,Nat.reduceAdd];refine gY ?_;refine gO ?_;refine gM fun K F=>?_;simp only[go_sem];refine gP (pf134 x.lb z.lb z.ls) ?_;simp only[go_sem];apply F;clear F K;refine Wc.cond (t:=lckA x.lb != 0) kA (fun hc=>?_) (fun hc=>?_)
 ·have h0:lckA x.lb≠0:=by simpa using hc
  have e:serOK x=false:=by unfold serOK;rw[if_pos h0]
  rw[e]
  refine gY ?_;exact wr (gU [.tmp 2] [.c (.p (.bool false))])
 have h0:¬ lckA x.lb≠0:=by simpa using hc
 have e0:serOK x=if x.k=3 then (x.sm.length==0)&&validH x.hs else (x.hs.length==0)&&(!(x.sm.length==0)&&(sckA x.k x.sm==0)):=by unfold serOK;rw[if_neg h0]
 rw[e0]
 refine Wc.skip (Wc.seq (Wc.seq ?_));refine gZ ?_;refine Wc.cond (t:=x.k != 3) kA (fun hc=>?_) (fun hc=>?_)
 ·have h3:¬ x.k=3:=by simpa using hc
  rw[if_neg h3]
  refine Wc.seq ?_;cases hs:(x.hs.length==0) with
  |false =>
   apply gR (by simp only[go_sem,len_beq,hs];rfl);exact wr (gU [.tmp 2] [.c (.p (.bool false))])
  |true =>
   cases hm:(x.sm.length==0) with
   |true =>
    apply gR (by simp only[go_sem,len_beq,len_pos,hs,hm];rfl);exact wr (gU [.tmp 2] [.c (.p (.bool false))])
   |false =>
    refine gM fun K F=>?_;simp only[go_sem,len_beq,len_pos,hs,hm];refine gP (pf135 x.k x.sm z.sm) ?_;simp only[go_sem,len_beq,len_pos,hs,hm];apply F;clear F K;exact wr (gU [.tmp 2] [.c (.p (.bool (sckA x.k x.sm==0)))])
 have h3:x.k=3:=by simpa using hc
 rw[if_pos h3]
 refine Wc.skip (Wc.seqR (fun y=>(x.sm.length=0∧x.hs.length≠0∧x.hs.length≤2000)∧y.ds=[]∧Fs y.e 72 [(1,.v (.c (.ref 0 0)))]∧OA y.s.nx y.s [] [(0,.cells (x.pd.map .p) false)]) ?_ ?_)
 ·refine Wc.seq ?_;cases hm:(x.sm.length==0) with
  |false =>
   rw[Bool.false_and]
   apply gR (by simp only[go_sem,len_beq,len_pos,hm];rfl);refine gG ?_;refine gY ?_;exact wr (gU [.tmp 2] [.c (.p (.bool false))])
  |true =>
   have y1:x.sm.length=0:=by simpa using hm
   cases hs:(x.hs.length==0) with
   |true =>
    have y2:x.hs.length=0:=by simpa using hs
    rw[validH_bad kO,Bool.and_false]
    apply gR (by simp only[go_sem,len_beq,len_pos,hm,hs];rfl);refine gG ?_;refine gY ?_;exact wr (gU [.tmp 2] [.c (.p (.bool false))])
   |false =>
    have y2:x.hs.length≠0:=by rw[beq_eq_false_iff_ne] at hs;exact hs
    apply gR (by simp only[go_sem,len_beq,len_pos,hm,hs];rfl);refine Wc.cond (t:=decide ((2000:Int)<x.hs.length)) kA (fun hc=>?_) (fun hc=>?_)
    ·have y3:(2000:Int)<x.hs.length:=of_decide_eq_true hc
     rw[validH_bad kO,Bool.and_false]
     refine gY ?_;exact wr (gU [.tmp 2] [.c (.p (.bool false))])
    ·have y3:¬ (2000:Int)<x.hs.length:=of_decide_eq_false hc
     exact Wc.skip ⟨kO,rfl,by simp only[go_sem],oW⟩
 rintro⟨e,ds,s1⟩ ⟨⟨z1,z2,z3⟩,rfl,hF,ho⟩
 simp only[Fs] at hF ho
 have g0:=ho.at_ (0,.cells (x.pd.map .p) false) kS
 simp only[gm] at g0
 have e1:((x.sm.length==0)&&validH x.hs)=vh (prevH x.hs 0) (x.hs.drop 0):=by
  unfold validH
  have b1:(x.hs.length==0)=false:=by rw[beq_eq_false_iff_ne];exact z2
  have b2:(x.sm.length==0)=true:=by simpa using z1
  rw[b1,b2,decide_eq_true z3];rfl
 rw[e1]
 have eP:vh (prevH x.hs 0) (x.hs.drop 0)=vh (prevH x.hs 0) (x.hs.drop 0):=rfl
 generalize hV:vh (prevH x.hs 0) (x.hs.drop 0)=VV at eP ⊢;apply gS kG;refine Wc.seqR (fun y=>VV=true∧y.ds=[]∧Fs y.e 72 []) ?_ ?_
 ·apply gS kC;refine Wc.block (Wc.loop (fun k y=>∃ i:Nat,k=x.hs.length-i∧i≤x.hs.length∧y.ds=[]∧Fs y.e 72 [(3,P' (pI (prevH x.hs i))),(48,P' (.lst x.hs.length (x.hs.flatMap HSm.pd))),(49,P' (pI x.hs.length)),(50,P' (pI i))]∧VV=vh (prevH x.hs i) (x.hs.drop i)) ?_ (k:=x.hs.length) ?_)
  ·clear hF ho g0 e s1;rintro k ⟨e,ds,s1⟩ ⟨i,rfl,hi,rfl,hF,hch⟩;simp only[Fs] at hF;apply gS kG;refine Wc.seq ?_;refine Wc.cond (t:=decide ((i:Int)<x.hs.length)) kF (fun hc=>?_) (fun hc=>?_)
   ·have hil:i<x.hs.length:=gi hc
    obtain⟨u,hu⟩:=gE hil
    have hix:=ixA ti24 rfl ti152 (j:=i) (m:=x.hs.length) (cs:=x.hs.flatMap HSm.pd) hil hfl kD
    have hca:=rpA (off:=i*7) (drop_flat (f:=HSm.pd) (k:=7) (fun _=>rfl) hu) (by rw[hfl];omega)
    rw[vh_step hu] at hch
    have bad:(u.t≤prevH x.hs i∨1099511627776<u.t∨hck u.h≠0)→VV=false:=fun h=>by rw[hch,if_pos h]
    refine Wc.skip (Wc.seq (Wc.block (Wc.seq ?_)));apply gR (by simp only[go_sem,hF,hix,hca];rfl);refine Wc.seqR (fun y=>¬ (u.t≤prevH x.hs i∨1099511627776<u.t∨hck u.h≠0)∧y.ds=[]∧Fs y.e 72 [(5,.v (.c (.ref (s1.nx+3) 0))),(48,P' (.lst x.hs.length (x.hs.flatMap HSm.pd))),(49,P' (pI x.hs.length)),(50,P' (pI i))]∧y.s.get (s1.nx+3)=some (.cells (u.pd.map .p) false)) ?_ ?_
    ·refine Wc.seq ?_
     by_cases y1:u.t≤prevH x.hs i
     ·apply gR (by simp only[go_sem,hF,y1];rfl);apply gT kF;apply gS kG
      rw[bad (.inl y1)]
      exact wr (gV [.tmp 2] [.c (.p (.bool false))] kF)
     by_cases y2:1099511627776<u.t
     ·apply gR (by simp only[go_sem,hF,y1,y2];rfl);apply gT kF;apply gS kG
      rw[bad (.inr (.inl y2))]
      exact wr (gV [.tmp 2] [.c (.p (.bool false))] kF)
     refine gM fun K F=>?_;simp only[go_sem,hF,y1,y2];refine gP (pf136 u.h (z.hb u (gw hu))) ?_;simp only[go_sem,hF,y1,y2];apply F;clear F K;refine Wc.cond (t:=hck u.h != 0) kF (fun hc=>?_) (fun hc=>?_)
     ·apply gS kG
      rw[bad (.inr (.inr (by simpa using hc)))]
      exact wr (gV [.tmp 2] [.c (.p (.bool false))] kF)
     ·have y3:hck u.h=0:=by simpa using hc
      exact Wc.skip ⟨kO,rfl,by simp only[go_sem,hF],by simp only[go_sem]⟩
    clear hF hc
    rintro⟨e,ds,s2⟩ ⟨hz,rfl,hF,g5⟩
    simp only[Fs] at hF;simp only[gm] at g5
    rw[if_neg hz] at hch
    have hpb:prevH x.hs (i+1)=u.t:=by simp[prevH,hu]
    apply gR (by simp only[go_sem,hF,g5];rfl);apply gR kX
    exact⟨x.hs.length-(i+1),kO,i+1,rfl,kO,rfl,by simp only[go_sem,hF,hpb],hch⟩
   ·have hil:i=x.hs.length:=by have:=of_decide_eq_false hc;omega
    rw[hil,List.drop_length] at hch
    exact Wc.exit ⟨hch,rfl,by simp only[go_sem,hF]⟩
  ·exact⟨0,rfl,kO,rfl,by simp only[go_sem,hF,show prevH x.hs 0=0 from rfl],hV.symm⟩
 ·rintro⟨e,ds,s1⟩ ⟨hch,rfl,hF⟩
  simp only[Fs] at hF
  rw[hch]
  apply gS kG;exact wr (gV [.tmp 2] [.c (.p (.bool true))] kF)
theorem b10:((1:Int) != 0)=true:=rfl
/-! ### valid rollups -/
structure VB (w:Int) (b:Bkt):Prop where
 c1:1≤b.c
 c2:b.c≤2000
 f1 : -1099511627776≤b.f
 f2:b.f≤1099511627776
 l1 : -1099511627776≤b.l
 l2:b.l≤1099511627776
 i1:0≤b.inc
 i2:b.inc≤2197923743924224
 s1 : -2199023255552000≤b.s
 s2:b.s≤2199023255552000
 t0:0≤b.st
 t1:b.st<1099511627776
 t2:b.st<b.ft
 t3:b.ft≤b.lt
 t4:b.lt≤b.st+w
 t5:b.lt≤1099511627776
 tm:b.st.tmod w=0
theorem VB.of {k w:Int}{b:Bkt}(hk:k=1∨k=2)(h:bkA k w b=true)(t0:0≤b.st)(t1:b.st<1099511627776)(tm:b.st.tmod w=0):VB w b:=by
 have hv:∀ v,okV k v=true→-1099511627776≤v∧v≤1099511627776:=fun v hv=>by
  simp only[okV,isVl,Bool.and_eq_true,decide_eq_true_eq] at hv;exact hv.1
 simp only[bkA,Bool.and_eq_true,Bool.not_eq_true'] at h
 obtain⟨h1,h2,h3,h4,h5,h6,h7⟩:=h
 simp only[bkA1,Bool.or_eq_false_iff,decide_eq_false_iff_not] at h1;simp only[bkA2,Bool.or_eq_false_iff,decide_eq_false_iff_not] at h2;simp only[bkA3,Bool.and_eq_true] at h3;simp only[bkA5,Bool.or_eq_false_iff,decide_eq_false_iff_not] at h5;simp only[bkA6,Bool.or_eq_false_iff,decide_eq_false_iff_not] at h6
 obtain⟨m1,m2⟩:=hv _ h3.1
 obtain⟨x1,x2⟩:=hv _ h3.2.1
 obtain⟨f1,f2⟩:=hv _ h3.2.2.1
 obtain⟨l1,l2⟩:=hv _ h3.2.2.2
 have c1:1≤b.c:=kO
 have c2:b.c≤2000:=kO
 have a1:=mulB c1 c2 m1 m2
 have a2:=mulB c1 c2 x1 x2
 exact⟨c1,c2,f1,f2,l1,l2,kO,kO,kO,kO,t0,t1,kO,kO,kO,kO,tm⟩
structure Wn (n:Int) (b:Bkt):Prop where
 c1:0≤b.c
 c2:b.c≤n*2000
 f1 : -1099511627776≤b.f
 f2:b.f≤1099511627776
 l1 : -1099511627776≤b.l
 l2:b.l≤1099511627776
 i1 : -(n*2200122767179776)≤b.inc
 i2:b.inc≤n*2200122767179776
 s1 : -(n*2199023255552000)≤b.s
 s2:b.s≤n*2199023255552000
theorem Wn.more {n m:Int}{b:Bkt}(h:Wn n b)(hm:n≤m):Wn m b:=by
 obtain⟨c1,c2,f1,f2,l1,l2,i1,i2,s1,s2⟩:=h
 constructor<;>omega
theorem Wn.join {w n k:Int}{a b:Bkt}(ha:Wn n a)(hb:VB w b)(h0:0≤n):Wn (n+1) (joinB k a b):=by
 obtain⟨c1,c2,f1,f2,l1,l2,i1,i2,s1,s2⟩:=ha
 obtain⟨d1,d2,g1,g2,m1,m2,j1,j2,t1,t2,_⟩:=hb
 have hst : -2199023255552≤stepV a.l b.f∧stepV a.l b.f≤2199023255552:=by unfold stepV;split<;>omega
 constructor<;>simp only[joinB]<;>first | omega | (split<;>omega)
theorem St.put_adv (s:St)(k n:Nat)(o:Ob):(s.put k o).adv n=(s.adv n).put k o:=rfl
theorem GB.len {x:C}{l:List Bkt}{G:List (Nat×Ob)}(h:GB x l G):lenD E0 29 (.v (.c x))=some (.v (.c (.p (.int .i64 l.length)))):=by
 rcases h with ⟨rfl,rfl,_⟩|⟨id,rfl,_⟩
 ·rw[lenD_nils,ti29];rfl
 ·rw[lenD_gs,ti29];rfl
theorem less_irr:∀ s:List UInt8,Op.bytesLess s s=false
 |[]=>rfl
 |a::r=>by
  simp only[Op.bytesLess,less_irr r,Bool.and_false,Bool.or_false,decide_eq_false_iff_not];exact UInt8.lt_irrefl a
theorem o154:E0.opn 154=false:=by kernel_rfl
theorem x154:E0.xt 154=none:=by kernel_rfl
theorem pf154 (s:List UInt8):Pf E0 154 [.c (.p (.str s)),.c (.p (.str s))] (P' (pI 0)):=by
 have h:=less_irr s
 refine gQ (fn:=Tryz.f154) ?_;simp only[gL,Tryz.ntmps154,Nat.reduceSub,Nat.reduceAdd];refine gY ?_;refine gO ?_;apply gR kB;apply gF (by simp only[go_sem,h]);refine gO ?_;apply gR kB;apply gF (by simp only[go_sem,h,Bool.or_true]);refine gY ?_;exact wr (gU [.tmp 4] [.c (.p (pI 0))])
theorem pf96 (l:List Lb)(hl:l.length<2^60):Pf E0 96 [.c (.p (.lst l.length (l.flatMap lbP))),.c (.p (.lst l.length (l.flatMap lbP)))] (P' (pI 0)):=by
 have hfl:(l.flatMap lbP).length=l.length*2:=flat_len (k:=2) (fun _=>rfl) l
 refine gQ (fn:=Tryz.f96) ?_;simp only[gL,Tryz.ntmps96,Nat.reduceSub,Nat.reduceAdd];refine gY ?_;refine Wc.seqA (fun y=>y.ds=[]∧y.e.length=58∧y.e.getD 0 .junk=P' (.lst l.length (l.flatMap lbP))∧y.e.getD 1 .junk=P' (.lst l.length (l.flatMap lbP))) ?_ ?_
 ·refine gY ?_;refine Wc.block (Wc.loop (fun k y=>∃ i:Nat,k=l.length-i∧i≤l.length∧y.ds=[]∧y.e.length=58∧y.e.getD 0 .junk=P' (.lst l.length (l.flatMap lbP))∧y.e.getD 1 .junk=P' (.lst l.length (l.flatMap lbP))∧y.e.getD 5 .junk=P' (pI i)) ?_ (k:=l.length) ?_)
  ·rintro k ⟨e,ds,s1⟩ ⟨i,rfl,hi,rfl,hlen,h0,h1,h5⟩;simp only at hlen h0 h1 h5;refine gO ?_
   by_cases hil:i<l.length
   ·have hd:((i:Int)<(l.length:Int))=True:=by simp only[eq_iff_iff,iff_true];omega
    obtain⟨x,hx⟩:=gE hil
    have hix:=ixA ti22 rfl ti117 (j:=i) (m:=l.length) (cs:=l.flatMap lbP) hil hfl kD
    have hca:=rpA (off:=i*2) (drop_flat (f:=lbP) (k:=2) (fun _=>rfl) hx) (by rw[hfl];omega)
    have hcc:=rpA (off:=i*2+1) (cs:=l.flatMap lbP) (pre:=[.str x.2]) (rest:=(l.drop (i+1)).flatMap lbP) (by rw[← List.drop_drop,drop_flat (f:=lbP) (k:=2) (fun _=>rfl) hx];rfl) (by rw[hfl];omega)
    apply gR (by simp only[go_sem,hlen,h0,h1,h5,hd];rfl);apply gT (by simp only[go_sem,hlen,hd]);refine Wc.skip (Wc.seq (Wc.block (Wc.seq (Wc.seq ?_))));refine Wc.regD fun K F=>?_;simp only[go_sem,hlen,h0,h1,h5,hix,hca]
    refine⟨by simp[o154,x154,plainD,plainV,plainC],?_⟩
    refine gP (pf154 x.1) ?_;simp only[go_sem,hlen,h0,h1,h5,hix,hca];apply F;clear F K;apply gS (by simp only[go_sem,hlen,h0,h1,h5];rfl);apply gF (by simp only[go_sem,hlen];try rfl);refine Wc.seq ?_;refine Wc.regD fun K F=>?_;simp only[go_sem,hlen,h0,h1,h5,hix,hcc]
    refine⟨by simp[o154,x154,plainD,plainV,plainC],?_⟩
    refine gP (pf154 x.2) ?_;simp only[go_sem,hlen,h0,h1,h5,hix,hcc];apply F;clear F K;apply gS (by simp only[go_sem,hlen,h0,h1,h5];rfl);apply gF (by simp only[go_sem,hlen];try rfl);apply gR (by simp only[go_sem,hlen,h0,h1,h5,i64n i kO];rfl)
    exact⟨l.length-(i+1),kO,i+1,rfl,kO,rfl,by simp only[go_sem,hlen],by simp only[go_sem,hlen,h0],by simp only[go_sem,hlen,h1],by simp only[go_sem,hlen]⟩
   ·have hd:((i:Int)<(l.length:Int))=False:=by simp only[eq_iff_iff,iff_false];omega
    apply gR (by simp only[go_sem,hlen,h0,h1,h5,hd];rfl);apply gX (by simp only[go_sem,hlen,hd]);exact Wc.exit ⟨rfl,rfl,by simp only[go_sem,hlen],by simp only[go_sem,hlen,h0],by simp only[go_sem,hlen,h1]⟩
  ·exact⟨0,rfl,kO,rfl,rfl,rfl,rfl,rfl⟩
 rintro⟨e,ds,s1⟩ ⟨rfl,hlen,h0,h1⟩
 simp only at hlen h0 h1
 have hd:((l.length:Int)<(l.length:Int))=False:=by simp
 refine gO ?_;apply gR (by simp only[go_sem,hlen,h0,h1,hd];rfl);apply gF (by simp only[go_sem,hlen,hd]);refine gO ?_;apply gR (by simp only[go_sem,hlen,h0,h1,hd];rfl);apply gF (by simp only[go_sem,hlen,hd]);apply gS kM;exact wr (gV [.tmp 4] [.c (.p (pI 0))] kL)
theorem pf50 (l:List Lb)(hl:l.length<2^60):Pf E0 50 [.c (.p (.lst l.length (l.flatMap lbP))),.c (.p (.lst l.length (l.flatMap lbP)))] (P' (.bool true)):=by
 refine gQ (fn:=Tryz.f50) ?_;simp only[gL,Tryz.ntmps50,Nat.reduceSub,Nat.reduceAdd];refine gY ?_;refine gN fun K F=>?_;simp only[go_sem];refine gP (pf96 l hl) ?_;simp only[go_sem];apply F;clear F K;exact wr (gV [.tmp 4] [.c (.p (.bool true))] (by simp only[go_sem];try rfl))
theorem pf107 (h:Hst):Pf E0 107 [.agg (h.pd.map .p)] (P' (.bool (decide (40<h.bs.length)))):=by
 refine gQ (fn:=Tryz.f107) ?_;simp only[gL,Tryz.ntmps107,Nat.reduceSub,Nat.reduceAdd];refine gY ?_;refine gY ?_
 rw[show decide (40<h.bs.length)=decide ((40:Int)<h.bs.length) by rw[decide_eq_decide];omega]
 exact wr (gU [.tmp 2] [.c (.p (.bool (decide ((40:Int)<h.bs.length))))])
def lbG (x:Lb):Bool:=decide (61<x.1.length) || decide (201<x.2.length)
def lbsG (l:List Lb):Bool:=l.any lbG || decide (17<l.length)
theorem pf39 (l:List Lb)(hl:l.length<2^60):Pf E0 39 [.c (.p (.lst l.length (l.flatMap lbP)))] (P' (.bool (lbsG l))):=by
 have hfl:(l.flatMap lbP).length=l.length*2:=flat_len (k:=2) (fun _=>rfl) l
 refine gQ (fn:=Tryz.f39) ?_;simp only[gL,Tryz.ntmps39,Nat.reduceSub,Nat.reduceAdd];refine gY ?_;refine Wc.seqR (fun y=>l.any lbG=false∧y.ds=[]∧y.e.length=29∧y.e.getD 0 .junk=P' (.lst l.length (l.flatMap lbP))) ?_ ?_
 ·refine gY ?_;refine Wc.block (Wc.loop (fun k y=>∃ i:Nat,k=l.length-i∧i≤l.length∧y.ds=[]∧y.e.length=29∧y.e.getD 0 .junk=P' (.lst l.length (l.flatMap lbP))∧y.e.getD 3 .junk=P' (pI i)∧(l.take i).any lbG=false) ?_ (k:=l.length) ?_)
  ·rintro k ⟨e,ds,s1⟩ ⟨i,rfl,hi,rfl,hlen,h0,h3,hn⟩;simp only at hlen h0 h3;refine gO ?_;apply gR (by simp only[go_sem,hlen,h0,h3];rfl);refine Wc.cond (t:=decide ((i:Int)<l.length)) kL (fun hc=>?_) (fun hc=>?_)
   ·have hil:i<l.length:=by have h9:(i:Int)<l.length:=(by simpa using hc);omega
    obtain⟨x,hx⟩:=gE hil
    have hix:=ixA ti22 rfl ti117 (j:=i) (m:=l.length) (cs:=l.flatMap lbP) hil hfl kD
    have hca:=rpA (off:=i*2) (drop_flat (f:=lbP) (k:=2) (fun _=>rfl) hx) (by rw[hfl];omega)
    have hcc:=rpA (off:=i*2+1) (cs:=l.flatMap lbP) (pre:=[.str x.2]) (rest:=(l.drop (i+1)).flatMap lbP) (by rw[← List.drop_drop,drop_flat (f:=lbP) (k:=2) (fun _=>rfl) hx];rfl) (by rw[hfl];omega)
    have bad:lbG x=true→lbsG l=true:=fun h=>by
     unfold lbsG
     rw[List.any_eq_true.2 ⟨x,gw hx,h⟩,Bool.true_or]
    refine Wc.skip (Wc.seq (Wc.block (Wc.seq ?_)))
    by_cases z1:61<x.1.length
    ·have f1:((61:Int)<(x.1.length:Int))=True:=by simp only[eq_iff_iff,iff_true];omega
     apply gR (by simp only[go_sem,hlen,h0,h3,hix,hca,f1];rfl);apply gT kL;apply gS kM
     rw[bad (by simp[lbG,z1])]
     exact wr (gV [.tmp 2] [.c (.p (.bool true))] kL)
    have f1:((61:Int)<(x.1.length:Int))=False:=by simp only[eq_iff_iff,iff_false];omega
    apply gR (by simp only[go_sem,hlen,h0,h3,hix,hca,hcc,f1];rfl);refine Wc.cond (t:=decide ((201:Int)<x.2.length)) kL (fun hc=>?_) (fun hc=>?_)
    ·have z2:(201:Int)<x.2.length:=of_decide_eq_true hc
     have z3:201<x.2.length:=kO
     apply gS kM
     rw[bad (by simp[lbG,z3])]
     exact wr (gV [.tmp 2] [.c (.p (.bool true))] kL)
    ·have z2:¬ (201:Int)<x.2.length:=of_decide_eq_false hc
     have z3:¬ 201<x.2.length:=kO
     refine Wc.skip ?_;apply gR (by simp only[go_sem,hlen,h0,h3,i64n i kO];rfl)
     refine⟨l.length-(i+1),kO,i+1,rfl,kO,rfl,by simp only[go_sem,hlen],by simp only[go_sem,hlen,h0],by simp only[go_sem,hlen],?_⟩
     rw[take_snoc hx,List.any_append,hn]
     simp only[List.any_cons,List.any_nil,lbG,decide_eq_false z1,decide_eq_false z3,Bool.or_self]
   ·have hil:i=l.length:=by have h9:¬ (i:Int)<l.length:=(by simpa using hc);omega
    subst hil
    rw[List.take_length] at hn
    exact Wc.exit ⟨hn,rfl,by simp only[go_sem,hlen],by simp only[go_sem,hlen,h0]⟩
  ·exact⟨0,rfl,kO,rfl,rfl,rfl,rfl,rfl⟩
 rintro⟨e,ds,s1⟩ ⟨hn,rfl,hlen,h0⟩
 simp only at hlen h0;apply gS (by simp only[go_sem,hlen,h0];rfl)
 have e1:lbsG l=decide ((17:Int)<l.length):=by unfold lbsG;rw[hn,Bool.false_or,decide_eq_decide];omega
 rw[e1]
 exact wr (gV [.tmp 2] [.c (.p (.bool (decide ((17:Int)<l.length))))] kL)
theorem pf40 (l:List I2):Pf E0 40 [.c (.p (.lst l.length (l.flatMap p2)))] (P' (.bool (decide (24<l.length)))):=by
 refine gQ (fn:=Tryz.f40) ?_;simp only[gL,Tryz.ntmps40,Nat.reduceSub,Nat.reduceAdd];refine gY ?_;refine gY ?_
 rw[show decide (24<l.length)=decide ((24:Int)<l.length) by rw[decide_eq_decide];omega]
 exact wr (gU [.tmp 2] [.c (.p (.bool (decide ((24:Int)<l.length))))])
def serG (x:Ser):Bool:=x.hs.any (fun y=>decide (40<y.h.bs.length)) || (lbsG x.lb || (decide (24<x.sm.length) || decide (6<x.hs.length)))
theorem pf56 (x:Ser)(hh:x.hs.length<2^60)(hlb:x.lb.length<2^60):Pf E0 56 [.agg (x.pd.map .p)] (P' (.bool (serG x))):=by
 have hfl:(x.hs.flatMap HSm.pd).length=x.hs.length*7:=flat_len (k:=7) (fun _=>rfl) x.hs
 refine gQ (fn:=Tryz.f56) ?_;simp only[gL,Tryz.ntmps56,Nat.reduceSub,Nat.reduceAdd];refine gY ?_;refine Wc.seqR (fun y=>x.hs.any (fun y=>decide (40<y.h.bs.length))=false∧y.ds=[]∧y.e.length=32∧y.e.getD 1 .junk=.v (.c (.ref 0 0))∧y.s.get 0=some (.cells (x.pd.map .p) false)) ?_ ?_
 ·refine gY ?_;refine Wc.block (Wc.loop (fun k y=>∃ i:Nat,k=x.hs.length-i∧i≤x.hs.length∧y.ds=[]∧y.e.length=32∧y.e.getD 1 .junk=.v (.c (.ref 0 0))∧y.e.getD 3 .junk=P' (pI i)∧y.s.get 0=some (.cells (x.pd.map .p) false)∧(x.hs.take i).any (fun y=>decide (40<y.h.bs.length))=false) ?_ (k:=x.hs.length) ?_)
  ·rintro k ⟨e,ds,s1⟩ ⟨i,rfl,hi,rfl,hlen,h1,h3,g0,hn⟩;simp only at hlen h1 h3 g0
   have g0':=g0
   simp only[gm] at g0;refine gO ?_;apply gR (by simp only[go_sem,hlen,h1,h3,g0];rfl);refine Wc.cond (t:=decide ((i:Int)<x.hs.length)) kL (fun hc=>?_) (fun hc=>?_)
   ·have hil:i<x.hs.length:=by have h9:(i:Int)<x.hs.length:=(by simpa using hc);omega
    obtain⟨u,hu⟩:=gE hil
    have hix:=ixA ti24 rfl ti152 (j:=i) (m:=x.hs.length) (cs:=x.hs.flatMap HSm.pd) hil hfl kD
    have hcc:=rpA (off:=i*7+1) (cs:=x.hs.flatMap HSm.pd) (pre:=u.h.pd) (rest:=(x.hs.drop (i+1)).flatMap HSm.pd) (by rw[← List.drop_drop,drop_flat (f:=HSm.pd) (k:=7) (fun _=>rfl) hu];rfl) (by rw[hfl];omega)
    refine Wc.skip (Wc.seq (Wc.block (Wc.seq ?_)));refine gM fun K F=>?_;simp only[go_sem,hlen,h1,h3,g0,hix,hcc];refine gP (pf107 u.h) ?_;simp only[go_sem,hlen,h1,h3,g0,hix,hcc];apply F;clear F K;refine Wc.cond (t:=decide (40<u.h.bs.length)) kL (fun hc=>?_) (fun hc=>?_)
    ·have e1:serG x=true:=by
      unfold serG
      rw[List.any_eq_true.2 ⟨u,gw hu,hc⟩,Bool.true_or]
     apply gS kM
     rw[e1]
     exact wr (gV [.tmp 2] [.c (.p (.bool true))] kL)
    ·refine Wc.skip ?_;apply gR (by simp only[go_sem,hlen,h1,h3,i64n i kO];rfl)
     refine⟨x.hs.length-(i+1),kO,i+1,rfl,kO,rfl,by simp only[go_sem,hlen],by simp only[go_sem,hlen,h1],by simp only[go_sem,hlen],g0',?_⟩
     rw[take_snoc hu,List.any_append,hn]
     simp only[List.any_cons,List.any_nil,hc,Bool.or_self]
   ·have hil:i=x.hs.length:=by have h9:¬ (i:Int)<x.hs.length:=(by simpa using hc);omega
    subst hil
    rw[List.take_length] at hn
    exact Wc.exit ⟨hn,rfl,by simp only[go_sem,hlen],by simp only[go_sem,hlen,h1],g0'⟩
  ·exact⟨0,rfl,kO,rfl,rfl,rfl,rfl,by simp only[go_sem],rfl⟩
 rintro⟨e,ds,s1⟩ ⟨hn,rfl,hlen,h1,g0⟩
 simp only at hlen h1 g0;simp only[gm] at g0
 have e1:serG x=(lbsG x.lb || (decide (24<x.sm.length) || decide (6<x.hs.length))):=by unfold serG;rw[hn,Bool.false_or]
 rw[e1]
 refine gN fun K F=>?_;simp only[go_sem,hlen,h1,g0];refine gP (pf39 x.lb hlb) ?_;cases z1:lbsG x.lb with
 |true =>
  simp only[go_sem,hlen,h1,g0,z1];apply F;clear F K
  try rw[z1]
  rw[Bool.true_or]
  exact wr (gV [.tmp 2] [.c (.p (.bool true))] kL)
 |false =>
  simp only[go_sem,hlen,h1,g0,z1];refine gP (pf40 x.sm) ?_;cases z2:decide (24<x.sm.length) with
  |true =>
   simp only[go_sem,hlen,h1,g0,z1,z2];apply F;clear F K
   try rw[z1]
   try rw[z2]
   rw[Bool.false_or,Bool.true_or]
   exact wr (gV [.tmp 2] [.c (.p (.bool true))] kL)
  |false =>
   simp only[go_sem,hlen,h1,g0,z1,z2];apply F;clear F K
   try rw[z1]
   try rw[z2]
   rw[Bool.false_or,Bool.false_or,show decide (6<x.hs.length)=decide ((6:Int)<x.hs.length) by rw[decide_eq_decide];omega]
   exact wr (gV [.tmp 2] [.c (.p (.bool (decide ((6:Int)<x.hs.length))))] kL)
theorem thenD_ret {K:Fr→Prop}{Q:Ex→Fr→Prop}{y:Fr}(h:Q .ret y):thenD K Q .ret y:=h
noncomputable def aw:Option Bool:=match bodyD E0 (runF E0 100) 100 12 [] { ob:=[],nx:=0 } with
 |some (.v (.c (.p (.bool b))),_)=>some b
 |_=>none
theorem aw_true:aw=some true:=by kernel_rfl
theorem pf12:Pf E0 12 [] (P' (.bool true)):=by
 have h:=aw_true
 unfold aw at h
 split at h
 ·rename_i b s hb
  cases h
  exact⟨100,_,_,_,hb,rfl⟩
 ·cases h
theorem pf17 (x:Rlp)(hl:x.lb.length<2^60)(hn:x.bs.length<2^60):Pf E0 17 [.agg (x.pd.map .p),.agg (x.pd.map .p)] (P' (.bool true)):=by
 have hfl:(x.bs.flatMap Bkt.pd).length=x.bs.length*10:=flat_len (k:=10) (fun _=>rfl) _
 refine gQ (fn:=Tryz.f17) ?_;simp only[gL,Tryz.ntmps17,Nat.reduceSub,Nat.reduceAdd];refine gY ?_;refine gO ?_;refine gM fun K F=>?_;simp only[go_sem];refine gP (pf50 x.lb hl) ?_;simp only[go_sem,bne_self_eq_false];apply F;clear F K;refine gH ?_;refine Wc.seqR (fun y=>y.ds=[]∧Fs y.e 53 []) ?_ ?_
 ·refine gY ?_;refine Wc.block (Wc.loop (fun c y=>∃ i:Nat,c=x.bs.length-i∧i≤x.bs.length∧y.ds=[]∧Fs y.e 53 [(2,.v (.c (.ref 0 0))),(3,.v (.c (.ref 1 0))),(5,P' (pI i))]∧OA y.s.nx y.s [] [(1,.cells (x.pd.map .p) false),(0,.cells (x.pd.map .p) false)]) ?_ (k:=x.bs.length) ⟨0,rfl,kO,rfl,by simp only[go_sem],by(try simp only[St.put_adv,St.adv_adv,St.put_put,gI]);repeat (first | exact oM s00_oa | refine oN ?_ | refine oP ?_ | refine oA ?_)⟩);rintro c ⟨e,ds,s1⟩ ⟨i,rfl,hi,rfl,hF,ho⟩;simp only[Fs] at hF ho
  have g0:=ho.at_ (0,.cells (x.pd.map .p) false) kS
  have g1:=ho.at_ (1,.cells (x.pd.map .p) false) kS
  simp only[gm] at g0 g1;refine gO ?_;apply gR kC;refine Wc.cond (t:=decide ((i:Int)<x.bs.length)) kF (fun hc=>?_) (fun hc=>?_)
  ·have hil:i<x.bs.length:=gi hc
   obtain⟨b,hb⟩:=gE hil
   have hix:=ixA ti29 rfl ti41 (j:=i) (m:=x.bs.length) (cs:=x.bs.flatMap Bkt.pd) hil hfl kD
   have hca:=rpA (off:=i*10) (drop_flat (f:=Bkt.pd) (k:=10) (fun _=>rfl) hb) (by rw[hfl];omega)
   refine Wc.skip (Wc.seq (Wc.block (Wc.seq ?_)));refine Wc.regD fun K F=>?_;simp only[go_sem,hF,g0,g1,hix,hca,eqL,eqS];apply F;clear F K;apply gX kF;refine Wc.skip ?_;apply gR kX
   exact⟨x.bs.length-(i+1),kO,i+1,rfl,kO,rfl,by simp only[go_sem,hF],by(try simp only[St.put_adv,St.adv_adv,St.put_put,gI]);repeat (first | exact oM ho | refine oN ?_ | refine oP ?_ | refine oA ?_)⟩
  ·exact Wc.exit ⟨rfl,by simp only[go_sem,hF]⟩
 rintro⟨e,ds,s1⟩ ⟨rfl,hF⟩
 simp only[Fs] at hF;apply gS kG;exact wr (gV [.tmp 4] [.c (.p (.bool true))] kF)
theorem lbsG_sz {l:List Lb}(h:lbsG l=false):l.length<2^40∧∀ y∈l,y.1.length<2^50∧y.2.length<2^50:=by
 simp only[lbsG,Bool.or_eq_false_iff,decide_eq_false_iff_not] at h
 obtain⟨h2,h3⟩:=h
 rw[List.any_eq_false] at h2
 refine⟨kO,fun y hy=>?_⟩
 have:=h2 y hy
 simp only[lbG,Bool.or_eq_true,decide_eq_true_eq] at this;omega
structure Rz (x:Rlp):Prop where
 lb:x.lb.length<2^40
 ls:∀ y∈x.lb,y.1.length<2^50∧y.2.length<2^50
 bs:x.bs.length<2^40
theorem Rz.same {x:Rlp}(z:Rz x):Pf E0 17 [.agg (x.pd.map .p),.agg (x.pd.map .p)] (P' (.bool true)):=pf17 x (by have:=z.lb;omega) (by have:=z.bs;omega)
end Go.Proofs.YtedcnhbblgmdnaaGreat.Ab
