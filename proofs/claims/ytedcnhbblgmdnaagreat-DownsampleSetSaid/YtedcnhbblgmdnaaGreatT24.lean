/- A part of the proof. -/
import Derived.Test.YtedcnhbblgmdnaaGreatT23
set_option maxHeartbeats 8000000
set_option maxRecDepth 10000
set_option linter.unusedSimpArgs false
set_option linter.unusedVariables false
namespace Go.Proofs.YtedcnhbblgmdnaaGreat.Ab
/-! ### slices that are objects of the state -/
theorem ixG {t e:Nat}{i ie:TI}(ht:E0.ti t=some i)(hk:i.kn=.slice e)(he:E0.ti e=some ie){q id off es j n:Nat}(hj:j<n)(hes:ie.size=es) :
  indexAddrD E0 t (.v (.c (.gs q id off n es))) (.v (.c (.p (.int .i64 (j:Int)))))=some (.v (.c (.gref q id (off+j*es)))):=by
 unfold indexAddrD
 rw[ht]
 simp only[D.int?,hk,he,Int.toNat_natCast]
 rw[if_pos ⟨Int.natCast_nonneg j,kO,hes.symm⟩]
theorem allM_p:∀(l:List Pd),allM purS (l.map .p)=some l
 |[]=>rfl
 |x::r=>by simp only[List.map_cons,allM,purS,allM_p r]
def cB (l:List Bkt):List C:=(l.flatMap Bkt.pd).map .p
theorem cB_len (l:List Bkt):(cB l).length=l.length*10:=by rw[cB,List.length_map];exact flat_len (k:=10) (fun _=>rfl) l
theorem cB_app (l m:List Bkt):cB (l++m)=cB l++cB m:=by simp[cB]
theorem cB_drop (q:List Bkt)(a:Bkt)(r:List Bkt):(cB (q++a::r)).drop (q.length*10)=a.pd.map .p++cB r:=by
 rw[cB_app,← cB_len q,List.drop_left]
 simp[cB]
theorem cB_take (q r:List Bkt):(cB (q++r)).take (q.length*10)=cB q:=by
 rw[cB_app,← cB_len q,List.take_left]
def GB (x:C)(l:List Bkt)(G:List (Nat×Ob)):Prop:=(x=.nils∧l=[]∧G=[])∨∃ id,x=.gs l.length id 0 l.length 10∧G=[(id,.grow 10 l.length (cB l) false)]
structure JB (a b:Bkt):Prop where
 l1 : -1099511627776≤a.l
 l2:a.l≤1099511627776
 f1 : -1099511627776≤b.f
 f2:b.f≤1099511627776
 i1 : -4611686018427387904≤a.inc+b.inc
 i2:a.inc+b.inc≤4611686018427387904
 c1 : -4611686018427387904≤a.c+b.c
 c2:a.c+b.c≤4611686018427387904
 s1 : -9223372036854775808≤a.s+b.s
 s2:a.s+b.s≤9223372036854775807
theorem JB.pf95 {a b:Bkt}(h:JB a b)(k:Int):Pf E0 95 [.agg (a.pd.map .p),.agg (b.pd.map .p),.c (.p (pI k))] (.v (.agg ((joinB k a b).pd.map .p))):=Ab.pf95 a b k ⟨⟨h.l1,h.l2⟩,h.f1,h.f2⟩ ⟨h.i1,h.i2⟩ ⟨h.c1,h.c2⟩ ⟨h.s1,h.s2⟩
theorem OA.putB {s:St}{c k:Nat}{o:Ob}{L:List (Nat×D×Nat×List Pd)}{M:List (Nat×Ob)}(h:OA k s L M)(hc:k<c):OA c (s.put k o) L M:=(h.put (Nat.le_refl _)).mono hc
theorem o95:E0.opn 95=false:=by kernel_rfl
theorem x95:E0.xt 95=none:=by kernel_rfl
theorem OAs.putB {c key k:Nat}{s:St}{o:Ob}{L:List (Nat×D×Nat×List Pd)}{M1 M2:List (Nat×Ob)}(h:OAs key s L M1 k M2)(hc:key<c):OAs c (s.put key o) L M1 k M2:=by
 obtain⟨o',h⟩:=h;exact⟨o',OA.putB h hc⟩
theorem call46 {s:St}{L:List (Nat×D×Nat×List Pd)}{M G:List (Nat×Ob)}{x:C}{l:List Bkt}{b:Bkt}{k:Int}{K:D→St→Prop}(ho:OA s.nx s L (G++M))(hx:GB x l G)(hn:l.length<2^30)(hj:∀ a,l.getLast? = some a→a.st=b.st→JB a b)
  (F:∀ x' G' s',OA s'.nx s' L (G' ++ M)→s.nx≤s'.nx→GB x' (appB k l b) G'→K (.v (.c x')) s'):wpCall E0 (P' (.fnc 46)) [.v (.c x),.v (.agg (b.pd.map .p)),P' (pI k)] s K:=by
 rcases hx with ⟨rfl,rfl,rfl⟩|⟨id,rfl,rfl⟩
 ·refine wpCall.opn (fn:=Tryz.f46) kR kR rfl kR rfl ?_;simp only[gL,Tryz.ntmps46,Nat.reduceSub,Nat.reduceAdd];refine gY ?_;refine gY ?_;refine gO ?_;refine Wc.regD fun K F=>?_;simp only[go_sem];apply F;clear F K;refine gG ?_;refine gN fun K F=>?_;simp only[go_sem];refine OA.appN (by_:=80) (m:=1) (ys:=b.pd) (L:=L) (M:=M) ?_ (Nat.le_refl _) rfl ⟨_,ti29,rfl⟩ ti41 rfl rfl rfl kD kD kA rfl kD kD fun s' hs hnx=>?_
  ·exact by(try simp only[gI]);repeat (first | exact oM ho | refine oN ?_ | refine oP ?_ | refine oA ?_)
  simp only[go_sem];apply F;clear F K;refine Wc.ret (Op.ret [.tmp 6] [.c (.gs 1 (s.nx+21) 0 1 10)] rfl rfl kA (F _ _ _ ?_ ?_ (.inr ⟨_,rfl,rfl⟩)))
  ·exact hs.mono (by simp only[St.nx_put,St.nx_adv] at hnx ⊢;omega)
  ·simp only[St.nx_put,St.nx_adv] at hnx ⊢;omega
 ·have g:s.get id=some (.grow 10 l.length (cB l) false):=ho.at_ (id,.grow 10 l.length (cB l) false) kS
  have hid:=ho.lt g
  have nid:∀ j,(s.nx+j=id)=False:=fun j=>by simp;omega
  have nid0:(s.nx=id)=False:=by simp;omega
  rcases List.eq_nil_or_concat l with rfl|⟨q,a,rfl⟩
  ·refine wpCall.opn (fn:=Tryz.f46) kR kR rfl kR rfl ?_;simp only[gL,Tryz.ntmps46,Nat.reduceSub,Nat.reduceAdd];refine gY ?_;refine gY ?_;refine gO ?_;refine Wc.regD fun K F=>?_;simp only[go_sem];apply F;clear F K;refine gG ?_;refine gN fun K F=>?_;simp only[go_sem];refine OA.appG (M1:=[]) (M2:=M) (by_:=80) (n:=0) (m:=1) (ys:=b.pd) (cs:=cB []) (L:=L) (b:=s.nx+22) ?_ rfl ⟨_,ti29,rfl⟩ ti41 rfl rfl rfl kD kD kA rfl kD fun s' hs hnx=>?_
   ·exact by(try simp only[gI]);repeat (first | exact oM ho | refine oN ?_ | refine oP ?_ | refine oA ?_)
   simp only[go_sem];apply F;clear F K;refine Wc.ret (Op.ret [.tmp 6] [.c (.gs 1 id 0 1 10)] rfl rfl kA (F _ _ _ ?_ ?_ (.inr ⟨_,rfl,rfl⟩)))
   ·exact hs.mono (by simp only[St.nx_put,St.nx_adv] at hnx ⊢;omega)
   ·simp only[St.nx_put,St.nx_adv] at hnx ⊢;omega
  ·rw[List.concat_eq_append] at *
   have hl:(q++[a]).length=q.length+1:=by simp
   have hix:indexAddrD E0 29 (.v (.c (.gs (q++[a]).length id 0 (q++[a]).length 10))) (.v (.c (.p (.int .i64 (q.length:Int)))))=_:=ixG ti29 rfl ti41 (j:=q.length) (n:=(q++[a]).length) kO rfl
   have e1:IntKind.i64.wrap (((q++[a]).length:Int)-1)=(q.length:Int):=by rw[wi64,hl];omega
   have hdr:(cB (q++[a])).drop (q.length*10)=a.pd.map .p++cB []:=cB_drop q a []
   have hle:(q.length*10≤(cB (q++[a])).length)=True:=by rw[cB_len,hl];simp;omega
   have hz:(((q++[a]).length:Int)==0)=false:=by rw[beq_eq_false_iff_ne,hl];omega
   simp only[Nat.zero_add] at hix;generalize hN:(q++[a]).length=N at *;generalize hCS:cB (q++[a])=CS at *;refine wpCall.opn (fn:=Tryz.f46) kR kR rfl kR rfl ?_;simp only[gL,Tryz.ntmps46,Nat.reduceSub,Nat.reduceAdd];refine gY ?_;refine gY ?_;refine gO ?_;refine Wc.regD fun K F=>?_;simp only[go_sem,hz,e1,hix,hle,hdr,g,nid,nid0];apply F;clear F K;refine Wc.cond (t:=a.st != b.st) kA (fun hc=>?_) (fun hc=>?_)
   ·have hne:a.st≠b.st:=by simpa using hc
    have hA:appB k (q++[a]) b=(q++[a])++[b]:=appB_new fun x hx=>by simp at hx;subst hx;exact hne
    rw[hA] at F
    refine gN fun K F=>?_;simp only[go_sem];refine OA.appG (M1:=[]) (M2:=M) (by_:=80) (n:=N) (m:=1) (ys:=b.pd) (cs:=CS) (L:=L) (b:=s.nx+22) ?_ rfl ⟨_,ti29,rfl⟩ ti41 rfl rfl rfl kD kD kA rfl kO fun s' hs hnx=>?_
    ·exact by(try simp only[gI]);repeat (first | exact oM ho | refine oN ?_ | refine oP ?_ | refine oA ?_)
    simp only[go_sem];apply F;clear F K;refine Wc.ret (Op.ret [.tmp 6] [.c (.gs (N+1) id 0 (N+1) 10)] rfl rfl kA (F _ _ _ ?_ ?_ (.inr ⟨id,?_,rfl⟩)))
    ·have e9:((q++[a])++[b]).length=N+1:=by simp[← hN]
     rw[cB_app,hCS,e9]
     exact hs.mono (by simp only[St.nx_put,St.nx_adv] at hnx ⊢;omega)
    ·simp only[St.nx_put,St.nx_adv] at hnx ⊢;omega
    ·have e9:((q++[a])++[b]).length=N+1:=by simp[← hN]
     rw[e9]
   ·have heq:a.st=b.st:=by simpa using hc
    have hA:appB k (q++[a]) b=q++[joinB k a b]:=appB_same heq
    rw[hA] at F
    have p95:=(hj a kS heq).pf95 k
    have hqN:((q.length:Int)≤(N:Int))=True:=by simp;omega
    have e7:(q++[joinB k a b]).length=q.length+1:=by simp
    have e8:cB (q++[joinB k a b])=cB q++(joinB k a b).pd.map .p:=by rw[cB_app];simp[cB]
    have hpu:allM purS ((CS.drop 0).take (q.length*10))=some (q.flatMap Bkt.pd):=by
     rw[List.drop_zero,← hCS,cB_take,cB,allM_p]
    have hfl:(q.flatMap Bkt.pd).length=q.length*10:=flat_len (k:=10) (fun _=>rfl) q
    have hle2:q.length*10≤CS.length:=by rw[← hCS,cB_len];omega
    simp only[List.drop_zero] at hpu
    have hnb:∀ j,(s.nx+j != id)=true:=fun j=>by rw[bne_iff_ne];omega
    have hnb2:∀ j,(id != s.nx+j)=true:=fun j=>by rw[bne_iff_ne];omega
    have hnb3:∀ j,(s.nx+(j+1) != s.nx)=true:=fun j=>by rw[bne_iff_ne];omega
    have hnb4:∀ j,(s.nx != s.nx+(j+1))=true:=fun j=>by rw[bne_iff_ne];omega
    refine Wc.skip (Wc.seq ?_);refine Wc.regT fun K' F'=>?_
    by_cases hq0:0<q.length
    ·simp only[go_sem,e1,hqN,hq0,Option.isSome_none,Nat.sub_zero];refine OA.appG (M1:=[]) (M2:=(s.nx,.cells (b.pd.map .p) false)::(id,.grow 10 N CS false)::M) (by_:=80) (n:=0) (m:=q.length) (ys:=q.flatMap Bkt.pd) (cs:=[]) (L:=L) (b:=s.nx+20) ?_ rfl ⟨_,ti29,rfl⟩ ti41 rfl rfl rfl kD kD (by simp only[go_sem,g,nid,nid0,hpu,hle2]) hfl kO fun s' hs hnx=>?_
     ·exact by(try simp only[gI]);repeat (first | exact oM ho | refine oN ?_ | refine oP ?_ | refine oA ?_)
     simp only[Nat.zero_add,List.nil_append] at hs
     have g':s'.get id=some (.grow 10 N CS false):=hs.at_ (id,.grow 10 N CS false) kS
     have g2:s'.get s.nx=some (.cells (b.pd.map .p) false):=hs.at_ (s.nx,.cells (b.pd.map .p) false) kS
     simp only[gm] at g2;simp only[go_sem,e1,hix,g',g2,hle,hdr];refine gP p95 ?_;simp only[go_sem,x95,o95];refine OA.appG (M1:=[]) (M2:=(s.nx,.cells (b.pd.map .p) false)::(id,.grow 10 N CS false)::M) (by_:=80) (n:=q.length) (m:=1) (ys:=(joinB k a b).pd) (cs:=(q.flatMap Bkt.pd).map .p) (L:=L) (b:=s.nx+34) ?_ rfl ⟨_,ti29,rfl⟩ ti41 rfl rfl rfl kD kD kA rfl kO fun s'' hs2 hnx2=>?_
     ·exact by(try simp only[gI]);repeat (first | exact oM hs | refine oN ?_ | refine oP ?_ | refine oA ?_)
     simp only[go_sem]
     refine⟨by rw[trOK_eq];simp[trOK2,dirEdge,freeOK,keysOK,apartK,Region.binds,plainD,plainV,plainC,hnb,hnb2,hnb3,hnb4],F' _ _ ?_⟩
     refine Wc.ret (Op.ret [.tmp 6] [.c (.gs (q.length+1) (s.nx+18) 0 (q.length+1) 10)] rfl rfl kA (F _ [(s.nx+18,.grow 10 (q.length+1) (cB q++(joinB k a b).pd.map .p) false)] _ ?_ ?_ (.inr ⟨s.nx+18,by rw[e7],by rw[e7,e8]⟩)))
     ·refine OA.sub (OA.mono hs2 (by simp only[St.nx_put,St.nx_adv] at hnx hnx2 ⊢;omega)) (List.Sublist.refl _) ?_;exact List.Sublist.cons_cons _ (List.Sublist.cons _ (List.Sublist.cons _ (List.Sublist.refl _)))
     ·simp only[St.nx_put,St.nx_adv] at hnx hnx2 ⊢;omega
    ·have hq0':q=[]:=List.length_eq_zero_iff.1 kO
     have hqe:q.length=0:=kO
     simp only[go_sem,e1,hqN,hq0,hqe,Option.isSome_none,Nat.sub_zero];refine OA.appG (M1:=[]) (M2:=(s.nx,.cells (b.pd.map .p) false)::(id,.grow 10 N CS false)::M) (by_:=80) (n:=0) (m:=q.length) (ys:=q.flatMap Bkt.pd) (cs:=[]) (L:=L) (b:=s.nx+20) ?_ rfl ⟨_,ti29,rfl⟩ ti41 rfl rfl rfl kD kD (by simp only[go_sem,hq0',List.flatMap_nil]) hfl kO fun s' hs hnx=>?_
     ·exact by(try simp only[gI]);repeat (first | exact oM ho | refine oN ?_ | refine oP ?_ | refine oA ?_)
     simp only[Nat.zero_add,List.nil_append] at hs
     have g':s'.get id=some (.grow 10 N CS false):=hs.at_ (id,.grow 10 N CS false) kS
     have g2:s'.get s.nx=some (.cells (b.pd.map .p) false):=hs.at_ (s.nx,.cells (b.pd.map .p) false) kS
     simp only[gm] at g2;simp only[go_sem,e1,hix,g',g2,hle,hdr];refine gP p95 ?_;simp only[go_sem,x95,o95];refine OA.appG (M1:=[]) (M2:=(s.nx,.cells (b.pd.map .p) false)::(id,.grow 10 N CS false)::M) (by_:=80) (n:=q.length) (m:=1) (ys:=(joinB k a b).pd) (cs:=(q.flatMap Bkt.pd).map .p) (L:=L) (b:=s.nx+34) ?_ rfl ⟨_,ti29,rfl⟩ ti41 rfl rfl rfl kD kD kA rfl kO fun s'' hs2 hnx2=>?_
     ·exact by(try simp only[gI]);repeat (first | exact oM hs | refine oN ?_ | refine oP ?_ | refine oA ?_)
     simp only[go_sem]
     refine⟨by rw[trOK_eq];simp[trOK2,dirEdge,freeOK,keysOK,apartK,Region.binds,plainD,plainV,plainC,hnb,hnb2,hnb3,hnb4],F' _ _ ?_⟩
     refine Wc.ret (Op.ret [.tmp 6] [.c (.gs (q.length+1) (s.nx+18) 0 (q.length+1) 10)] rfl rfl kA (F _ [(s.nx+18,.grow 10 (q.length+1) (cB q++(joinB k a b).pd.map .p) false)] _ ?_ ?_ (.inr ⟨s.nx+18,by rw[e7],by rw[e7,e8]⟩)))
     ·refine OA.sub (OA.mono hs2 (by simp only[St.nx_put,St.nx_adv] at hnx hnx2 ⊢;omega)) (List.Sublist.refl _) ?_;exact List.Sublist.cons_cons _ (List.Sublist.cons _ (List.Sublist.cons _ (List.Sublist.refl _)))
     ·simp only[St.nx_put,St.nx_adv] at hnx hnx2 ⊢;omega
def zR:Rlp:=⟨[],0,0,[]⟩
abbrev resR (x:Rlp)(e:Int):D:=.tup [.agg (x.pd.map .p),.c (.p (pI e))]
theorem sck_sorted {k:Int}:∀ {l:List I2} {p:Option Int},sck k p l=0→l.Pairwise (fun a b=>a.1<b.1)∧∀ y,p=some y→∀ a∈l,y<a.1
 |[],p,_=>⟨List.Pairwise.nil,fun _ _ a ha=>by cases ha⟩
 |x::r,p,h=>by
  simp only[sck] at h
  split at h
  ·cases h
  ·have key:sck k (some x.1) r=0∧∀ y,p=some y→y<x.1:=by
    split at h
    ·rename_i y
     split at h
     ·cases h
     ·refine⟨h,fun z hz=>?_⟩
      cases hz;omega
    ·exact⟨h,fun z hz=>by cases hz⟩
   obtain⟨h1,h2⟩:=sck_sorted key.1
   refine⟨List.pairwise_cons.2 ⟨fun b hb=>h2 x.1 rfl b hb,h1⟩,fun y hy a ha=>?_⟩
   have:=key.2 y hy
   rcases List.mem_cons.1 ha with rfl|ha
   ·exact this
   ·have:=h2 x.1 rfl a ha;omega
theorem sck_pos {k:Int}(hk:k=2):∀ {l:List I2} {p:Option Int},sck k p l=0→∀ x∈l,0≤x.2
 |[],p,h,x,hx=>by cases hx
 |y::r,p,h,x,hx=>by
  have h1:¬ (smpOK y=false∨(k=2∧y.2<0)):=fun hb=>by
   cases p<;>simp only[sck] at h<;>rw[if_pos hb] at h<;>cases h
  have h2:sck k (some y.1) r=0:=by
   cases p with
   |none=>simp only[sck] at h;rw[if_neg h1] at h;exact h
   |some z =>
    simp only[sck] at h
    rw[if_neg h1] at h
    split at h
    ·cases h
    ·exact h
  rcases List.mem_cons.1 hx with rfl|hx
  ·exact Int.not_lt.1 fun hn=>h1 (.inr ⟨hk,hn⟩)
  ·exact sck_pos hk h2 x hx
structure Sv (x:Ser):Prop where
 lb:lckA x.lb=0
 k:x.k=1∨x.k=2
 ne:x.sm≠[]
 len:x.sm.length≤2000
 srt:x.sm.Pairwise (fun a b=>a.1<b.1)
 ok:∀ y∈x.sm,okS x.k y
 hs:x.hs=[]
theorem serOK_v {x:Ser}(h:serOK x=true)(hk:¬ x.k=3):Sv x:=by
 have h0:=h
 unfold serOK at h
 split at h
 ·cases h
 rename_i hl
 simp only[Bool.and_eq_true] at h
 obtain⟨h1,h2,h3⟩:=h
 have hs0:sckA x.k x.sm=0:=by simpa using h3
 obtain⟨k1,k2,k3⟩:=sckA_ok hs0
 have hs1:sck x.k none x.sm=0:=by
  unfold sckA at hs0
  split at hs0
  ·cases hs0
  ·split at hs0
   ·cases hs0
   ·exact hs0
 refine⟨Decidable.not_not.1 hl,k1,fun e=>by rw[e] at h2;simp at h2,k2,(sck_sorted hs1).1,fun y hy=>?_,List.length_eq_zero_iff.1 (by simpa using h1)⟩
 obtain⟨a1,a2⟩:=k3 y hy
 simp only[isT,isVl,Bool.and_eq_true,decide_eq_true_eq] at a1 a2
 refine⟨a1,a2,fun e=>?_⟩
 exact sck_pos e hs1 y hy
structure WB (b:Bkt):Prop where
 c1:0≤b.c
 c2:b.c≤1000000
 f1 : -1099511627776≤b.f
 f2:b.f≤1099511627776
 l1 : -1099511627776≤b.l
 l2:b.l≤1099511627776
 i1 : -1152921504606846976≤b.inc
 i2:b.inc≤1152921504606846976
 s1 : -1152921504606846976≤b.s
 s2:b.s≤1152921504606846976
theorem JB.of {a b:Bkt}(ha:WB a)(hb:WB b):JB a b:=by
 obtain⟨a1,a2,a3,a4,a5,a6,a7,a8,a9,a10⟩:=ha
 obtain⟨b1,b2,b3,b4,b5,b6,b7,b8,b9,b10⟩:=hb
 constructor<;>omega
theorem WB.single {k w:Int}{x:I2}(h:okS k x):WB (single w x):=by
 obtain⟨h1,h2,h3⟩:=h
 constructor<;>simp only[Ab.single]<;>omega
theorem GoodB.wb {k n:Int}{b:Bkt}(h:GoodB k n b)(hn:n≤1000000):WB b:=by
 have c1:=h.c1;have c2:=h.c2;have f1:=h.f1;have f2:=h.f2;have lo:=h.lo;have hi:=h.hi;have l1:=h.l1;have l2:=h.l2;have s1:=h.s1;have s2:=h.s2;have i0:=h.i0;have i1:=h.i1
 have a1:b.c*(-1099511627776)≤b.c*b.mn:=Int.mul_le_mul_of_nonneg_left lo kO
 have a2:b.c*b.mx≤b.c*1099511627776:=Int.mul_le_mul_of_nonneg_left hi kO
 constructor<;>omega
def ofC (x:Ser)(w:Int):Int:=if serOK x=false then 1 else if x.k=3 then 8 else if btw w 1 1099511627776=false then 2 else 0
def ofR (x:Ser)(w:Int):Rlp:=if ofC x w=0 then ⟨x.lb,x.k,w,ofB x.k w x.sm⟩ else zR
theorem take_succ {A:Type}{l:List A}{i:Nat}{x:A}(h:l[i]? = some x):l.take (i+1)=l.take i++[x]:=by rw[List.take_add_one,h];rfl
theorem appB_len (k:Int)(l:List Bkt)(b:Bkt):(appB k l b).length≤l.length+1:=by
 unfold appB
 split
 ·simp
 ·split<;>simp<;>omega
theorem apps_len (k:Int):∀(m l:List Bkt),(m.foldl (appB k) l).length≤l.length+m.length
 |[],l=>by simp
 |b::m,l=>by
  have h1:=apps_len k m (appB k l b)
  have h2:=appB_len k l b
  simp only[List.foldl_cons,List.length_cons];omega
theorem ofB_len (k w:Int)(l:List I2):(ofB k w l).length≤l.length:=by
 rw[ofB_grp]
 have:=apps_len k (l.map (single w)) []
 simp only[List.length_nil,List.length_map] at this
 show((l.map (single w)).foldl (appB k) []).length≤_
 omega
theorem cB_all (l:List Bkt):allM purS (cB l)=some (l.flatMap Bkt.pd):=allM_p _
theorem GB.pur {b:Nat}{s:St}{L:List (Nat×D×Nat×List Pd)}{M G:List (Nat×Ob)}{x:C}{l:List Bkt}(ho:OA b s L (G++M))(h:GB x l G):∃ s',purC s x=some (.lst l.length (l.flatMap Bkt.pd),s'):=by
 rcases h with ⟨rfl,rfl,rfl⟩|⟨id,rfl,rfl⟩
 ·exact⟨s,rfl⟩
 ·have g:s.get id=some (.grow 10 l.length (cB l) false):=ho.at_ (id,.grow 10 l.length (cB l) false) kS
  have hf:(l.flatMap Bkt.pd).length=l.length*10:=flat_len (k:=10) (fun _=>rfl) l
  refine⟨s.put id (.grow 10 l.length ((l.flatMap Bkt.pd).map .p) true),?_⟩
  simp only[purC,g,cB_all,true_and,Nat.zero_add,hf,Nat.le_refl,if_true,List.drop_zero]
  rw[List.take_of_length_le kO]
theorem OA.keepG {b k:Nat}{s:St}{o o':Ob}{L:List (Nat×D×Nat×List Pd)}{M G:List (Nat×Ob)}(h:OA b s L (G++M))(hm:(k,o)∈M)(hf:o'.isFront=false):OA b (s.put k o') L (G++[]):=by
 obtain⟨M1,M2,rfl⟩:=List.append_of_mem hm
 rw[← List.append_assoc] at h
 refine(h.set hf).sub (List.Sublist.refl _) ?_
 rw[List.append_nil,List.append_assoc]
 exact List.sublist_append_left _ _
theorem Pf.retG {fn:Func}{x:Fr}{xc:C}{l:List Bkt}{G M:List (Nat×Ob)}{L:List (Nat×D×Nat×List Pd)}{b:Nat}{lb:List Lb}{k w e:Int}(rs:List ResultVar)(hd:x.ds=[])(hrs:fn.results.toList=rs)
  (hr:resultsD E0 x.e x.s rs=some [.agg [.p (.lst lb.length (lb.flatMap lbP)),.p (pI k),.p (pI w),xc],.c (.p (pI e))]) (ho:OA b x.s L (G++M)) (h:GB xc l G) :
  bodyQ E0 fn (fun d0 s2=>∃ s3,purD s2 d0=some (resR ⟨lb,k,w,l⟩ e,s3)) .ret x:=by
 obtain⟨s3,h3⟩:=h.pur ho
 refine Pf.ret rs _ hd hrs hr (s3:=s3) ?_
 have hp:∀(s:St) (x:Pd),purC s (.p x)=some (x,s):=fun _ _=>rfl
 simp only[packD,purD,purVs,purV,purCs,hp,h3,List.map_cons,List.map_nil]
 rfl
theorem o46:E0.opn 46=true:=by kernel_rfl
theorem x46:E0.xt 46=none:=by kernel_rfl
theorem o47:E0.opn 47=false:=by kernel_rfl
theorem x47:E0.xt 47=none:=by kernel_rfl
theorem pf14 (x:Ser)(z:x.Sz)(w:Int):Pf E0 14 [.agg (x.pd.map .p),.c (.p (pI w))] (resR (ofR x w) (ofC x w)):=by
 have hfl:(x.sm.flatMap p2).length=x.sm.length*2:=flat_len (k:=2) (fun _=>rfl) _
 refine gQ (fn:=Tryz.f14) ?_;simp only[gL,Tryz.ntmps14,Nat.reduceSub,Nat.reduceAdd];refine gY ?_;refine gO ?_;refine gM fun K F=>?_;simp only[go_sem];refine gP (pf44 x z) ?_;cases hok:serOK x with
 |false =>
  simp only[go_sem];apply F;clear F K;refine gG ?_;refine gY ?_
  have e:ofC x w=1:=by unfold ofC;rw[if_pos hok]
  rw[ofR,e]
  exact wr (gU [.cell 4 31,.tmp 5] [.agg [.nils,.p (pI 0),.p (pI 0),.nils],.c (.p (pI 1))])
 |true =>
 simp only[go_sem];apply F;clear F K;refine gH ?_;refine gO ?_;refine gZ ?_;refine Wc.cond (t:=x.k==3) kA (fun hc=>?_) (fun hc=>?_)
 ·have hk:x.k=3:=by simpa using hc
  refine gY ?_
  have e:ofC x w=8:=by unfold ofC;rw[if_neg (by simp[hok]),if_pos hk]
  rw[ofR,e]
  exact wr (gU [.cell 4 31,.tmp 5] [.agg [.nils,.p (pI 0),.p (pI 0),.nils],.c (.p (pI 8))])
 have hk:¬ x.k=3:=by simpa using hc
 refine Wc.skip (Wc.seq (Wc.seq ?_));refine gM fun K F=>?_;simp only[go_sem];refine gP (pf45 w 1 1099511627776) ?_;cases hw:btw w 1 1099511627776 with
 |false =>
  simp only[go_sem];apply F;clear F K;refine gG ?_;refine gY ?_
  have e:ofC x w=2:=by unfold ofC;rw[if_neg (by simp[hok]),if_neg hk,if_pos hw]
  rw[ofR,e]
  exact wr (gU [.cell 4 31,.tmp 5] [.agg [.nils,.p (pI 0),.p (pI 0),.nils],.c (.p (pI 2))])
 |true =>
 simp only[go_sem];apply F;clear F K;refine gH ?_
 have e:ofC x w=0:=by unfold ofC;rw[if_neg (by simp[hok]),if_neg hk,if_neg (by simp[hw])]
 rw[ofR,e,if_pos rfl]
 have hw':1≤w∧w≤1099511627776:=by simpa[btw] using hw
 have v:=serOK_v hok hk
 refine gY ?_;refine Wc.seqR (fun y=>∃ k6 xc G,y.ds=[]∧Fs y.e 47 [(2,.v (.c (.ref 0 0))),(4,.v (.c (.ref 1 0))),(6,.v (.c (.ref k6 0)))]∧OA y.s.nx y.s [] (G++[(k6,.cells [.p (.lst x.lb.length (x.lb.flatMap lbP)),.p (pI x.k),.p (pI w),xc] false),(1,.cells [.nils,.p (pI 0),.p (pI 0),.nils] false),(0,.cells (x.pd.map .p) false)])∧GB xc (ofB x.k w x.sm) G) ?_ ?_
 ·refine gY ?_;refine Wc.block (Wc.loop (fun c y=>∃(i k6:Nat) (xc:C) (G:List (Nat×Ob)),c=x.sm.length-i∧i≤x.sm.length∧y.ds=[]∧Fs y.e 47 [(1,P' (pI w)),(2,.v (.c (.ref 0 0))),(4,.v (.c (.ref 1 0))),(6,.v (.c (.ref k6 0))),(7,P' (pI i))]∧OA y.s.nx y.s [] (G++[(k6,.cells [.p (.lst x.lb.length (x.lb.flatMap lbP)),.p (pI x.k),.p (pI w),xc] false),(1,.cells [.nils,.p (pI 0),.p (pI 0),.nils] false),(0,.cells (x.pd.map .p) false)])∧GB xc (ofB x.k w (x.sm.take i)) G) ?_ (k:=x.sm.length) ?_)
  ·rintro c ⟨e,ds,s1⟩ ⟨i,k6,xc,G,rfl,hi,rfl,hF,ho,hG⟩;simp only[Fs] at hF ho
   have g6:=ho.at_ (k6,.cells [.p (.lst x.lb.length (x.lb.flatMap lbP)),.p (pI x.k),.p (pI w),xc] false) kS
   have g0:=ho.at_ (0,.cells (x.pd.map .p) false) kS
   simp only[gm] at g0;refine gO ?_;apply gR kC;refine Wc.cond (t:=decide ((i:Int)<x.sm.length)) kF (fun hc=>?_) (fun hc=>?_)
   ·have hil:i<x.sm.length:=gi hc
    obtain⟨u,hu⟩:=gE hil
    have hix:=ixA ti23 rfl ti39 (j:=i) (m:=x.sm.length) (cs:=x.sm.flatMap p2) hil hfl kD
    have hca:=rpA (off:=i*2) (drop_flat (f:=p2) (k:=2) (fun _=>rfl) hu) (by rw[hfl];omega)
    have hus:=v.ok u (gw hu)
    have htk:x.sm.take (i+1)=x.sm.take i++[u]:=take_succ hu
    have hsr:(x.sm.take i).Pairwise (fun a b=>a.1<b.1):=v.srt.sublist (List.take_sublist _ _)
    have hlen:(x.sm.take i).length=i:=by simp;omega
    have hvl:=v.len
    refine Wc.skip (Wc.seq (Wc.block ?_));refine Wc.regT fun K F=>?_;simp only[go_sem,hF,g6,g0,hix,hca];refine gP (pf47 u w hus.1 hw') ?_;simp only[go_sem,hF,g6,g0,hix,hca,o47,x47];refine call46 (G:=G) (M:=[(k6,.cells [.p (.lst x.lb.length (x.lb.flatMap lbP)),.p (pI x.k),.p (pI w),xc] false),(1,.cells [.nils,.p (pI 0),.p (pI 0),.nils] false),(0,.cells (x.pd.map .p) false)]) (L:=[]) (b:=single w u) ?_ hG (by have:=ofB_len x.k w (x.sm.take i);omega) (fun a ha _=>JB.of ((ofB_good hw'.1 i _ hlen hsr (fun y hy=>v.ok y (List.mem_of_mem_take hy)) a (List.mem_of_getLast? ha)).wb kO) (WB.single hus)) fun x' G' s' hs hnx hG'=>?_
    ·exact by(try simp only[gI]);repeat (first | exact oM ho | refine oN ?_ | refine oP ?_ | refine oA ?_)
    have g6':=hs.at_ (k6,.cells [.p (.lst x.lb.length (x.lb.flatMap lbP)),.p (pI x.k),.p (pI w),xc] false) kS
    simp only[go_sem,hF,g6',o46,x46,hix]
    refine⟨by rw[trOK_eq];rfl,F _ _ ?_⟩
    apply gR kX
    refine⟨x.sm.length-(i+1),kO,i+1,k6,x',G',rfl,kO,rfl,by simp only[go_sem,hF],?_,?_⟩
    ·exact by(try simp only[gI]);first | ((repeat (first | exact oM hs | refine oA ?_));done) | ((repeat refine oA ?_);refine OA.ofS ?_;repeat (first | exact⟨_,OA.mono hs kO⟩ | refine OAs.adv ?_ | refine OAs.put ?_))
    ·rw[htk,ofB_snoc];exact hG'
   ·have hil:i=x.sm.length:=by have:=of_decide_eq_false hc;omega
    rw[hil,List.take_length] at hG
    exact Wc.exit ⟨k6,xc,G,rfl,by simp only[go_sem,hF],oZ,hG⟩
  ·exact⟨0,18,.nils,[],rfl,kO,rfl,by simp only[go_sem],oW,.inl ⟨rfl,rfl,rfl⟩⟩
 rintro⟨e,ds,s1⟩ ⟨k6,xc,G,rfl,hF,ho,hG⟩
 simp only[Fs] at hF ho
 have g6:=ho.at_ (k6,.cells [.p (.lst x.lb.length (x.lb.flatMap lbP)),.p (pI x.k),.p (pI w),xc] false) kS
 have g1:=ho.at_ (1,.cells [.nils,.p (pI 0),.p (pI 0),.nils] false) kS
 apply gS (by simp only[go_sem,hF,g6,g1];rfl);exact wr (Pf.retG [.cell 4 31,.tmp 5] rfl rfl kF ((ho.adv (n:=3)).keepG (k:=1) (o:=.cells [.nils,.p (pI 0),.p (pI 0),.nils] false) kS rfl) hG)
/-! ### the buckets of a series, in the program's way -/
theorem pieces_at {w:Int}{l:List I2}{i:Nat}{x:I2}(h:l[i]? = some x):∃ k,i<k∧k≤l.length∧pieces w (l.drop i)=(startOf w x.1,(l.drop i).take (k-i))::pieces w (l.drop k)∧(∀ j y,i<j→j<k→l[j]? = some y→y.1-startOf w x.1≤w)∧(∀ y,l[k]? = some y→¬ y.1-startOf w x.1≤w):=by
 have hi:=(List.getElem?_eq_some_iff.1 h).1
 have hx:=(List.getElem?_eq_some_iff.1 h).2
 have hd:l.drop i=x::l.drop (i+1):=by rw[List.drop_eq_getElem_cons hi,hx]
 obtain⟨G,hG⟩:∃ G,(l.drop (i+1)).takeWhile (fun y=>decide (y.1-startOf w x.1≤w))=G:=⟨_,rfl⟩
 obtain⟨R,hR⟩:∃ R,(l.drop (i+1)).dropWhile (fun y=>decide (y.1-startOf w x.1≤w))=R:=⟨_,rfl⟩
 have hGR:l.drop (i+1)=G++R:=by rw[← hG,← hR];exact takeWhile_append_drop _ _
 have hlen:l.length-(i+1)=G.length+R.length:=by rw[← List.length_drop,hGR,List.length_append]
 have hRd:R=l.drop (i+1+G.length):=by rw[← List.drop_drop,hGR,List.drop_left]
 refine⟨i+1+G.length,kO,kO,?_,fun j y h1 h2 h3=>?_,fun y hy=>?_⟩
 ·rw[hd,pieces,hG,hR,← hRd]
  congr 2
  have:i+1+G.length-i=G.length+1:=kO
  rw[this,List.take_succ_cons,hGR,List.take_left]
 ·have hm:y∈G:=by
   have h4:G[j-(i+1)]? = some y:=by
    have h5:(l.drop (i+1))[j-(i+1)]? = some y:=by rw[List.getElem?_drop,show i+1+(j-(i+1))=j by omega];exact h3
    rw[hGR,List.getElem?_append_left kO] at h5
    exact h5
   exact gw h4
  rw[← hG] at hm
  have hp:=List.all_eq_true.1 (List.all_takeWhile (p:=fun y:I2=>decide (y.1-startOf w x.1≤w)) (l:=l.drop (i+1))) y hm
  simpa using hp
 ·have hR0:R[0]? = some y:=by rw[hRd,List.getElem?_drop];exact hy
  cases R with
  |nil=>cases hR0
  |cons a q =>
   simp at hR0;subst hR0
   have:=List.head_dropWhile_not (p:=fun y:I2=>decide (y.1-startOf w x.1≤w)) (l:=l.drop (i+1)) (by rw[hR];simp)
   simp only[hR,List.head_cons] at this
   simpa using this
theorem start_bnd {w t:Int}(hw:1≤w∧w≤1099511627776)(ht:1≤t∧t≤1099511627776):IntKind.i64.wrap (t-1)=t-1∧IntKind.i64.wrap ((t-1).tdiv w)=(t-1).tdiv w∧IntKind.i64.wrap ((t-1).tdiv w*w)=startOf w t∧(0≤startOf w t∧startOf w t<t):=by
 have hs:=start_le hw.1 ht.1
 have e:startOf w t=(t-1).tdiv w*w:=rfl
 refine⟨by rw[wi64];omega,?_,by rw[wi64];omega,hs.2.2,hs.1⟩
 have h1:0≤(t-1).tdiv w:=Int.tdiv_nonneg kO kO
 have h2:(t-1).tdiv w≤t-1:=by rw[Int.tdiv_eq_ediv_of_nonneg kO];exact Int.ediv_le_self _ kO
 rw[wi64];omega
theorem take_flat {A:Type}{f:A→List Pd}{k:Nat}(hk:∀ x,(f x).length=k):∀(l:List A) (n:Nat),(l.flatMap f).take (n*k)=(l.take n).flatMap f
 |[],n=>by simp
 |x::r,0=>by simp
 |x::r,n+1=>by
  rw[List.flatMap_cons,List.take_succ_cons,List.flatMap_cons,List.take_append,List.take_of_length_le (by rw[hk,Nat.succ_mul];omega),hk,show(n+1)*k-k=n*k by rw[Nat.succ_mul];omega,take_flat hk r n]
theorem drop_flats {A:Type}{f:A→List Pd}{k:Nat}(hk:∀ x,(f x).length=k):∀(l:List A) (n:Nat),(l.flatMap f).drop (n*k)=(l.drop n).flatMap f
 |[],n=>by simp
 |x::r,0=>by simp
 |x::r,n+1=>by
  rw[List.flatMap_cons,List.drop_succ_cons,List.drop_append,List.drop_of_length_le (by rw[hk,Nat.succ_mul];omega),List.nil_append,hk,show(n+1)*k-k=n*k by rw[Nat.succ_mul];omega,drop_flats hk r n]
theorem iter147 {r q:Nat}{fr fq:Bool}{w:Int}{l:List I2}(hw:1≤w∧w≤1099511627776)(hl:l.length<2^40)(hb:∀ x∈l,1≤x.1∧x.1≤1099511627776) :
  IterC 147 [.ref r 0,.ref q 0] (fun s=>s.get r=some (.cells [.p (.lst l.length (l.flatMap p2))] fr)∧s.get q=some (.cells [.p (pI w)] fq))
  (fun i k a=>∃ st p,a=[.c (.p (pI st)),.c (.p (.lst p.length (p.flatMap p2)))]∧p≠[]∧(∀ x∈p,x∈l)∧p.length≤l.length∧pieces w (l.drop i)=(st,p)::pieces w (l.drop k)∧p.Sublist l) l.length:=by
 refine⟨Tryz.f147,_,by kernel_rfl,rfl,fun L J hJ hJ2 hcap hy s h0 Q hQ=>?_⟩
 have hw0:(w=0)=False:=by simp;omega
 simp only[gL,Tryz.ntmps147,Nat.reduceSub,Nat.reduceAdd]
 obtain⟨c1,c2⟩:=hcap _ _ h0
 apply gS (by simp only[go_sem,c1,c2];rfl);refine Wc.block (Wc.loop (fun k y=>∃(i:Nat),k=l.length-i∧i≤l.length∧y.ds=[]∧Fs y.e 47 [(0,.v (.c (.fn (.yield L) [] []))),(1,.v (.c (.ref r 0))),(2,.v (.c (.ref q 0))),(4,P' (.lst (l.length-i) ((l.drop i).flatMap p2)))]∧J i y.s) ?_ (k:=l.length) ?_)
 ·rintro k ⟨e,ds,s1⟩ ⟨i,rfl,hi,rfl,hF,hj⟩;simp only[Fs] at hF hj
  obtain⟨g1,g2⟩:=hcap _ _ hj
  refine gO ?_;apply gR kG;refine Wc.cond (t:=decide (0<((l.length-i:Nat):Int))) kF (fun hc=>?_) (fun hc=>?_)
  ·have hil:i<l.length:=gi hc
   obtain⟨x,hx⟩:=gE hil
   have hbx:=hb x (gw hx)
   obtain⟨e1,e2,e3,e4⟩:=start_bnd hw hbx
   obtain⟨k,hik,hkl,hpc,hin,hout⟩:=pieces_at (w:=w) hx
   have hdl:(l.drop i).length=l.length-i:=by simp
   have hfd:((l.drop i).flatMap p2).length=(l.length-i)*2:=by rw[flat_len (k:=2) (fun _=>rfl),hdl]
   have hd0:(l.drop i)[0]? = some x:=by rw[List.getElem?_drop];exact hx
   have hix:indexAddrD E0 23 (.v (.c (.p (.lst (l.length-i) ((l.drop i).flatMap p2))))) (.v (.c (.p (.int .i64 0))))=_:=ixA ti23 rfl ti39 (j:=0) (m:=l.length-i) (cs:=(l.drop i).flatMap p2) kO hfd kD
   have hca:=rpA (off:=0*2) (drop_flat (f:=p2) (k:=2) (fun _=>rfl) hd0) (by rw[hfd];omega)
   refine Wc.skip (Wc.block (Wc.seq ?_));simp only[Nat.zero_mul] at hix hca;refine Wc.regD fun K F=>?_;simp only[go_sem,hF,g2,hix,hca,hw0,e1,e2,e3];apply F;clear F K;apply gS kG;refine Wc.seqA (fun y=>y.ds=[]∧Fs y.e 47 [(0,.v (.c (.fn (.yield L) [] []))),(1,.v (.c (.ref r 0))),(2,.v (.c (.ref q 0))),(4,P' (.lst (l.length-i) ((l.drop i).flatMap p2))),(5,P' (pI (startOf w x.1))),(6,P' (pI ((k-i:Nat):Int)))]∧J i y.s) ?_ ?_
   ·refine Wc.block (Wc.loop (fun c y=>∃(j:Nat),c=k-j∧i<j∧j≤k∧y.ds=[]∧Fs y.e 47 [(0,.v (.c (.fn (.yield L) [] []))),(1,.v (.c (.ref r 0))),(2,.v (.c (.ref q 0))),(4,P' (.lst (l.length-i) ((l.drop i).flatMap p2))),(5,P' (pI (startOf w x.1))),(6,P' (pI ((j-i:Nat):Int)))]∧J i y.s) ?_ (k:=k-(i+1)) ?_)
    ·clear hF hj g1 g2 e s1;rintro c ⟨e,ds,s1⟩ ⟨j,rfl,hij,hjk,rfl,hF,hj⟩;simp only[Fs] at hF hj
     obtain⟨g1,g2⟩:=hcap _ _ hj
     refine gO ?_
     by_cases hjl:j<l.length
     ·obtain⟨y,hy⟩:=gE hjl
      have hby:=hb y (gw hy)
      have hyd:(l.drop i)[j-i]? = some y:=by rw[List.getElem?_drop,show i+(j-i)=j by omega];exact hy
      have hiy:=ixA ti23 rfl ti39 (j:=j-i) (m:=l.length-i) (cs:=(l.drop i).flatMap p2) kO hfd kD
      have hcb:=rpA (off:=(j-i)*2) (drop_flat (f:=p2) (k:=2) (fun _=>rfl) hyd) (by rw[hfd];omega)
      have hd:(((j-i:Nat):Int)<((l.length-i:Nat):Int))=True:=by simp;omega
      have e5:IntKind.i64.wrap (y.1-startOf w x.1)=y.1-startOf w x.1:=by rw[wi64];omega
      refine Wc.regD fun K F=>?_;simp only[go_sem,hF,g2,hiy,hcb,hd,e5];apply F;clear F K;refine Wc.cond (t:=decide (y.1-startOf w x.1≤w)) kF (fun hc=>?_) (fun hc=>?_)
      ·have hc2:y.1-startOf w x.1≤w:=of_decide_eq_true hc
       have hjk2:j<k:=by
        rcases Nat.lt_or_ge j k with h|h
        ·exact h
        ·have:j=k:=kO
         subst this;exact absurd hc2 (hout y hy)
       have e6:IntKind.i64.wrap (((j-i:Nat):Int)+1)=((j+1-i:Nat):Int):=by rw[wi64];omega
       refine Wc.skip (Wc.block ?_);apply gR (by simp only[go_sem,hF,e6];rfl)
       exact⟨k-(j+1),kO,j+1,rfl,kO,kO,rfl,by simp only[go_sem,hF],hJ _ _ _ (hJ _ _ _ hj)⟩
      ·have hc2:¬ y.1-startOf w x.1≤w:=of_decide_eq_false hc
       have hjk2:j=k:=by
        rcases Nat.lt_or_ge j k with h|h
        ·exact absurd (hin j y hij h hy) hc2
        ·omega
       subst hjk2;exact Wc.exit ⟨rfl,rfl,by simp only[go_sem,hF],hJ _ _ _ hj⟩
     ·have hjk2:j=k:=kO
      subst hjk2
      have hd:(((j-i:Nat):Int)<((l.length-i:Nat):Int))=False:=by simp;omega
      refine Wc.regD fun K F=>?_;simp only[go_sem,hF,g2,hd];apply F;clear F K;apply gX kF;exact Wc.exit ⟨rfl,rfl,by simp only[go_sem,hF],hJ _ _ _ hj⟩
    ·have e6:i+1-i=1:=kO
     refine⟨i+1,rfl,kO,kO,rfl,?_,hJ _ _ _ (hJ _ _ _ (hJ _ _ _ hj))⟩
     rw[e6]
     exact by simp only[go_sem,hF,Int.natCast_one]
   ·clear hF hj g1 g2 e s1
    rintro⟨e,ds,s1⟩ ⟨rfl,hF,hj⟩
    simp only[Fs] at hF hj
    obtain⟨g1,g2⟩:=hcap _ _ hj
    have hpl:((l.drop i).take (k-i)).length=k-i:=by simp;omega
    have hpf:((l.drop i).flatMap p2).take ((k-i)*2)=((l.drop i).take (k-i)).flatMap p2:=take_flat (k:=2) (fun _=>rfl) _ _
    have hdf:((l.drop i).flatMap p2).drop ((k-i)*2)=(l.drop k).flatMap p2:=by rw[drop_flats (k:=2) (fun _=>rfl),List.drop_drop,show i+(k-i)=k by omega]
    have hsl1:((((k-i:Nat):Int))≤((l.length-i:Nat):Int))=True:=by simp;omega
    refine gO ?_;refine gM fun K F=>?_;simp only[go_sem,hF,hfd,hsl1,hpf,Nat.sub_zero]
    obtain⟨n,d,s2,hc1,hd,hj2⟩:=hy i k _ (s1.adv 7) (hJ _ _ _ hj) ⟨startOf w x.1,(l.drop i).take (k-i),rfl,fun e=>by rw[e] at hpl;simp at hpl;omega,fun z hz=>List.mem_of_mem_drop (List.mem_of_mem_take hz),kO,hpc,(List.take_sublist _ _).trans (List.drop_sublist _ _)⟩
    subst hd
    rw[hpl] at hc1
    refine⟨n,_,s2,hc1,?_⟩
    simp only[go_sem,hF];apply F;clear F K;apply gF kF
    have e7:l.length-i-(k-i)=l.length-k:=kO
    have hsl2:(((l.length-i:Nat):Int)≤((l.length-i:Nat):Int))=True:=by simp
    have hfk:((l.drop k).flatMap p2).length=(l.length-k)*2:=by rw[flat_len (k:=2) (fun _=>rfl)];simp
    have htk:((l.drop k).flatMap p2).take ((l.length-k)*2)=(l.drop k).flatMap p2:=List.take_of_length_le kO
    apply gR (by simp only[go_sem,hF,hfd,hsl1,hsl2,hdf,e7,Nat.sub_zero,htk];rfl)
    exact⟨l.length-k,kO,k,rfl,hkl,rfl,by simp only[go_sem,hF],hJ _ _ _ hj2⟩
  ·have hil:i=l.length:=by have:=of_decide_eq_false hc;omega
   refine Wc.exit ?_;subst hil;exact bodyQ.normal (vs:=[]) rfl rfl (hQ _ _ (hJ _ _ _ hj))
 ·exact⟨0,rfl,kO,rfl,by simp only[go_sem,List.drop_zero,Nat.sub_zero],hJ _ _ _ h0⟩
theorem call90 {s:St}{L:List (Nat×D×Nat×List Pd)}{M:List (Nat×Ob)}{n:Nat}{cs:List Pd}{w:Int}{K:D→St→Prop}(h:OA s.nx s L M)
  (F:∀ s',OA s'.nx s' L ((s.nx+1,.cells [.p (pI w)] false)::(s.nx,.cells [.p (.lst n cs)] false)::M)→s.nx+1<s'.nx→K (.v (.c (.fn (.func 147) [] [.ref s.nx 0,.ref (s.nx+1) 0]))) s'):wpCall E0 (.v (.c (.p (.fnc 90)))) [.v (.c (.p (.lst n cs))),.v (.c (.p (pI w)))] s K:=by
 refine wpCall.opn (fn:=Tryz.f90) kR kR rfl kR rfl ?_;simp only[gL,Tryz.ntmps90,Nat.reduceSub,Nat.reduceAdd];refine gY ?_;refine gY ?_;refine Wc.ret (Op.ret [.tmp 4] [.c (.fn (.func 147) [] [.ref s.nx 0,.ref (s.nx+1) 0])] rfl rfl kA (F _ ?_ ?_))
 ·have:=((h.adv (n:=3)).new (k:=s.nx) (o:=.cells [.p (.lst n cs)] false) (Nat.le_refl _) rfl).new (k:=s.nx+1) (o:=.cells [.p (pI w)] false) (Nat.le_refl _) rfl
  exact(this.mono (b':=s.nx+3+2) kO).adv (n:=2)
 ·simp only[St.nx_adv,St.nx_put];omega
theorem iter252 {r:Nat}{fr:Bool}{l:List I2}(hl:l.length<2^40) :
  IterC 252 [.ref r 0] (fun s=>s.get r=some (.cells [.p (.lst l.length (l.flatMap p2))] fr))
  (fun i k a=>∃ x y,a=[.agg ((p2 x).map .p),.agg ((p2 y).map .p)]∧l[i]? = some x∧l[i+1]? = some y∧k=i+1) (l.length-1):=by
 refine⟨Tryz.f252,_,by kernel_rfl,rfl,fun L J hJ hJ2 hcap hy s h0 Q hQ=>?_⟩
 have hfl:(l.flatMap p2).length=l.length*2:=flat_len (k:=2) (fun _=>rfl) _
 simp only[gL,Tryz.ntmps252,Nat.reduceSub,Nat.reduceAdd];refine gY ?_;refine Wc.block (Wc.loop (fun k y=>∃(i:Nat),k=l.length-i∧(i+1≤l.length∨i=0)∧y.ds=[]∧Fs y.e 22 [(0,.v (.c (.fn (.yield L) [] []))),(1,.v (.c (.ref r 0))),(3,P' (pI ((i+1:Nat):Int)))]∧J i y.s) ?_ (k:=l.length) ?_)
 ·rintro k ⟨e,ds,s1⟩ ⟨i,rfl,hi,rfl,hF,hj⟩;simp only[Fs] at hF hj
  have g1:=hcap _ _ hj
  simp only at g1;refine gO ?_;apply gR (by simp only[go_sem,hF,g1];rfl);refine Wc.cond (t:=decide (((i+1:Nat):Int)<(l.length:Int))) kF (fun hc=>?_) (fun hc=>?_)
  ·have hil:i+1<l.length:=by have:=of_decide_eq_true hc;omega
   obtain⟨x,hx⟩:∃ x,l[i]? = some x:=⟨l[i],List.getElem?_eq_getElem kO⟩
   obtain⟨y,hyy⟩:∃ x,l[i+1]? = some x:=⟨l[i+1],List.getElem?_eq_getElem kO⟩
   have hix:=ixA ti23 rfl ti39 (j:=i) (m:=l.length) (cs:=l.flatMap p2) kO hfl kD
   have hca:=rpA (off:=i*2) (drop_flat (f:=p2) (k:=2) (fun _=>rfl) hx) (by rw[hfl];omega)
   have hiy:=ixA ti23 rfl ti39 (j:=i+1) (m:=l.length) (cs:=l.flatMap p2) kO hfl kD
   have hcb:=rpA (off:=(i+1)*2) (drop_flat (f:=p2) (k:=2) (fun _=>rfl) hyy) (by rw[hfl];omega)
   have e1:IntKind.i64.wrap (((i+1:Nat):Int)-1)=(i:Int):=by rw[wi64];omega
   refine Wc.skip (Wc.seq (Wc.block (Wc.seq ?_)));refine Wc.regT fun K F=>?_;simp only[go_sem,hF,g1,hix,hca,hiy,hcb,e1]
   obtain⟨n,d,s2,hc1,hd,hj2⟩:=hy i (i+1) _ (s1.adv 16) (hJ _ _ _ hj) ⟨x,y,rfl,hx,hyy,rfl⟩
   subst hd
   refine⟨n,_,s2,hc1,?_⟩
   simp only[go_sem,hF]
   refine⟨by rw[trOK_eq];rfl,F _ _ ?_⟩
   apply gF kF
   have e2:IntKind.i64.wrap (((i+1:Nat):Int)+1)=((i+1+1:Nat):Int):=by rw[wi64];omega
   apply gR (by simp only[go_sem,hF,e2];rfl)
   exact⟨l.length-(i+1),kO,i+1,rfl,.inl kO,rfl,by simp only[go_sem,hF],hJ _ _ _ hj2⟩
  ·have hil:i=l.length-1:=by have:=of_decide_eq_false hc;omega
   refine Wc.exit ?_;subst hil;exact bodyQ.normal (vs:=[]) rfl rfl (hQ _ _ (hJ _ _ _ hj))
 ·exact⟨0,rfl,.inr rfl,rfl,by simp only[go_sem,Int.natCast_one],hJ _ _ _ h0⟩
theorem call219 {s:St}{L:List (Nat×D×Nat×List Pd)}{M:List (Nat×Ob)}{n:Nat}{cs:List Pd}{K:D→St→Prop}(h:OA s.nx s L M)
  (F:∀ s',OA s'.nx s' L ((s.nx,.cells [.p (.lst n cs)] false)::M)→s.nx<s'.nx→K (.v (.c (.fn (.func 252) [] [.ref s.nx 0]))) s'):wpCall E0 (.v (.c (.p (.fnc 219)))) [.v (.c (.p (.lst n cs)))] s K:=by
 refine wpCall.opn (fn:=Tryz.f219) kR kR rfl kR rfl ?_;simp only[gL,Tryz.ntmps219,Nat.reduceSub,Nat.reduceAdd];refine gY ?_;refine gY ?_;refine Wc.ret (Op.ret [.tmp 2] [.c (.fn (.func 252) [] [.ref s.nx 0])] rfl rfl kA (F _ ?_ ?_))
 ·have:=(h.adv (n:=2)).new (k:=s.nx) (o:=.cells [.p (.lst n cs)] false) (Nat.le_refl _) rfl
  exact(this.mono (b':=s.nx+2+2) kO).adv (n:=2)
 ·simp only[St.nx_adv,St.nx_put];omega
theorem sck_mk (k:Int):∀(l:List I2) (p:Option Int),l.Pairwise (fun a b=>a.1<b.1)→(∀ x∈l,okS k x)→(∀ y,p=some y→∀ a∈l,y<a.1)→sck k p l=0
 |[],p,_,_,_=>sck_end k p
 |x::r,p,h,hb,hp=>by
  obtain⟨h1,h2⟩:=List.pairwise_cons.1 h
  obtain⟨b1,b2,b3⟩:=hb x kS
  have hn:¬ (smpOK x=false∨(k=2∧x.2<0)):=by
   rintro (h|⟨h3,h4⟩)
   ·have:smpOK x=true:=by simp[smpOK,isT,isVl];omega
    rw[this] at h;cases h
   ·have:=b3 h3;omega
  have ih:=sck_mk k r (some x.1) h2 (fun y hy=>hb y (by simp[hy])) (fun y hy a ha=>by cases hy;exact h1 a ha)
  cases p with
  |none=>simp only[sck];rw[if_neg hn];exact ih
  |some y =>
   have:=hp y rfl x kS
   simp only[sck]
   rw[if_neg hn,if_neg kO];exact ih
theorem sckA_mk {k:Int}{l:List I2}(hk:k=1∨k=2)(hl:l.length≤2000)(h:l.Pairwise (fun a b=>a.1<b.1))(hb:∀ x∈l,okS k x):sckA k l=0:=by
 unfold sckA
 rw[if_neg kO,if_neg kO]
 exact sck_mk k l none h hb (fun y e=>by cases e)
theorem incV_take:∀(l:List I2)(i:Nat)(x y:I2),l[i]? = some x→l[i+1]? = some y→incV (l.take (i+2))=incV (l.take (i+1))+stepV x.2 y.2
 |[],i,x,y,h,_=>by simp at h
 |[a],i,x,y,_,h=>by simp at h
 |a::b::r,0,x,y,h1,h2=>by
  simp at h1 h2;subst h1 h2
  simp[incV]
 |a::b::r,i+1,x,y,h1,h2=>by
  have ih:=incV_take (b::r) i x y (by simpa using h1) (by simpa using h2)
  simp only[List.take_succ_cons] at ih ⊢;simp only[incV]
  rw[ih];omega
theorem incV_bnd:∀(l:List I2),(∀ x∈l,okS 2 x)→0≤incV l∧incV l≤l.length*1099511627776
 |[],_=>by simp[incV]
 |[a],_=>by simp[incV]
 |a::b::r,h=>by
  obtain⟨h1,h2⟩:=incV_bnd (b::r) (fun x hx=>h x (by simp[hx]))
  obtain⟨_,a1,a2⟩:=h a kS
  obtain⟨_,b1,b2⟩:=h b kS
  have:=a2 rfl;have:=b2 rfl
  have hs:0≤stepV a.2 b.2∧stepV a.2 b.2≤1099511627776:=by unfold stepV;split<;>omega
  simp only[incV,List.length_cons] at h1 h2 ⊢;omega
theorem OA.rot {b:Nat}{s:St}{L:List (Nat×D×Nat×List Pd)}{A B M:List (Nat×Ob)}(h:OA b s L (A++B++M)):OA b s L (B++A++M):=h.permM (List.perm_append_comm.append_right M)
theorem pf148 (l:List I2)(hl:l.length≤2000)(hs:l.Pairwise (fun a b=>a.1<b.1))(hb:∀ x∈l,okS 2 x):Pf E0 148 [.c (.p (.lst l.length (l.flatMap p2)))] (P' (pI (incV l))):=by
 have hc0:=sckA_mk (.inr rfl) hl hs hb
 have p:=pf135 2 l kO
 rw[hc0] at p
 refine gQ (fn:=Tryz.f148) ?_;simp only[gL,Tryz.ntmps148,Nat.reduceSub,Nat.reduceAdd];refine gY ?_;refine gO ?_;refine gM fun K F=>?_;simp only[go_sem];refine gP p ?_;simp only[go_sem];apply F;clear F K;apply gF (by simp only[go_sem,bne_self_eq_false]);refine gY ?_;refine Wc.seqR (fun y=>∃ k9,y.ds=[k9]∧Fs y.e 27 [(3,.v (.c (.ref 4 0)))]∧OA y.s.nx y.s [] [(k9,.defr),(4,.cells [.p (pI (incV l))] false)]) ?_ ?_
 ·refine gN fun K F=>?_;simp only[go_sem];refine call219 (M:=[(4,.cells [.p (pI 0)] false)]) (L:=[]) (by(try simp only[gI]);repeat (first | exact oM s00_oa | refine oN ?_ | refine oP ?_ | refine oA ?_)) fun s2 ho hnx=>?_;simp only[go_sem];apply F;clear F K;refine Wc.block ?_
  have h0:incV (l.take 1)=0:=by
   cases l with
   |nil=>rfl
   |cons a r=>rfl
  refine Wc.iter (iter252 (l:=l) (r:=8) (fr:=false) kO) (fun i L M=>L=[]∧M=(8,.cells [.p (.lst l.length (l.flatMap p2))] false)::[(4,.cells [.p (pI (incV (l.take (i+1))))] false)]) kA ho ⟨rfl,by rw[h0];rfl⟩ ?_ ?_ ?_ ?_
  ·rintro i L M s ⟨rfl,rfl⟩ hM;exact hM (8,_) (List.mem_cons_self ..)
  ·rintro i k a ⟨x,y,rfl,_⟩;rfl
  ·rintro i k aa lp s L M ⟨x,y,rfl,hx,hy,rfl⟩ ⟨rfl,rfl⟩ hos
   have ht:=incV_take l i x y hx hy
   have hbx:=hb x (gw hx)
   have hby:=hb y (gw hy)
   obtain⟨b1,b2⟩:=incV_bnd (l.take (i+1)) (fun z hz=>hb z (List.mem_of_mem_take hz))
   have hl2:(l.take (i+1)).length≤2000:=by simp;omega
   rw[ht]
   generalize incV (l.take (i+1))=V at *;simp only[setAll,List.zip_cons_cons,List.zip_nil_right];refine gY ?_;refine gZ ?_
   refine⟨rfl,[],[(s.nx+2,.cells ((p2 y).map .p) false),(s.nx,.cells ((p2 x).map .p) false),(8,.cells [.p (.lst l.length (l.flatMap p2))] false),(4,.cells [.p (pI V)] false)],?_,fun lq s' hos'=>?_⟩
   ·refine OA.rot (A:=[(s.nx+2,.cells ((p2 y).map .p) false),(s.nx,.cells ((p2 x).map .p) false)]) (B:=[_,_]) (M:=[_,_]) ?_;exact by(try simp only[gI]);repeat (first | exact oM hos | refine oN ?_ | refine oP ?_ | refine oA ?_)
   have g4:=hos'.at_ (4,.cells [.p (pI V)] false) kS
   have gx:=hos'.at_ (s.nx,.cells ((p2 x).map .p) false) kS
   have gy:=hos'.at_ (s.nx+2,.cells ((p2 y).map .p) false) kS
   simp only[gm] at gx gy
   have n4:(4=s.nx)=False:=by have:=hos.lt (hos.at_ (4,.cells [.p (pI V)] false) kS);simp;omega
   have n4':(4=s.nx+2)=False:=by have:=hos.lt (hos.at_ (4,.cells [.p (pI V)] false) kS);simp;omega
   obtain⟨_,x1,x2⟩:=hbx
   obtain⟨_,y1,y2⟩:=hby
   have x3:=x2 rfl
   have y3:=y2 rfl
   have e1:IntKind.i64.wrap (V+y.2)=V+y.2:=by rw[wi64];omega
   have e2:IntKind.i64.wrap (V+y.2-x.2)=V+y.2-x.2:=by rw[wi64];omega
   have h1:=hos'.sub (List.Sublist.refl _) ((((List.Sublist.refl [((8:Nat),Ob.cells [.p (.lst l.length (l.flatMap p2))] false),(4,.cells [.p (pI V)] false)]).cons (s.nx,.cells ((p2 x).map .p) false)).cons (s.nx+2,.cells ((p2 y).map .p) false)).cons_cons (s2.nx+1,.defr) |>.cons_cons (s2.nx,.loop lq))
   refine Wc.block (Wc.seq ?_);apply gR (by simp only[go_sem,g4,gx,gy,n4,n4',e1];rfl);apply gS (by simp only[go_sem,g4,gx,gy,n4,n4'];rfl);refine Wc.cond (t:=decide (x.2≤y.2)) kA (fun hc=>?_) (fun hc=>?_)
   ·have hle:x.2≤y.2:=of_decide_eq_true hc
    have hst:V+y.2-x.2=V+stepV x.2 y.2:=by unfold stepV;rw[if_neg kO];omega
    apply gR (by simp only[go_sem,g4,gx,gy,n4,n4',e2,St.put_put];rfl)
    rw[hst]
    exact⟨rfl,[],_,by(try simp only[gI]);(repeat refine oA ?_);refine OA.ofS (M1:=[_,_,_]) ?_;repeat (first | exact⟨_,OA.mono h1 kO⟩ | refine OAs.adv ?_ | refine OAs.put ?_ | refine OAs.putB ?_ kO),rfl,rfl⟩
   ·have hle:¬ x.2≤y.2:=of_decide_eq_false hc
    have hst:V+y.2=V+stepV x.2 y.2:=by unfold stepV;rw[if_pos kO]
    refine Wc.skip ?_
    rw[hst]
    exact⟨rfl,[],_,by(try simp only[gI]);(repeat refine oA ?_);refine OA.ofS (M1:=[_,_,_]) ?_;repeat (first | exact⟨_,OA.mono h1 kO⟩ | refine OAs.adv ?_ | refine OAs.put ?_ | refine OAs.putB ?_ kO),rfl,rfl⟩
  ·rintro L M s3 hos ⟨rfl,rfl⟩
   have hl9:l.take (l.length-1+1)=l:=List.take_of_length_le kO
   rw[hl9] at hos
   refine⟨s2.nx+1,rfl,by simp only[go_sem],?_⟩
   exact hos.sub (List.Sublist.refl _) (((List.Sublist.refl _).cons _).cons_cons _)
 ·rintro⟨e,ds,s1⟩ ⟨k9,rfl,hF,ho⟩
  simp only[Fs] at hF ho
  have g4:=ho.at_ (4,.cells [.p (pI (incV l))] false) kS
  have g9:=ho.at_ (k9,.defr) kS
  apply gS (by simp only[go_sem,hF,g4];rfl);exact wr (Pf.ret1 [.tmp 2] [.c (.p (pI (incV l)))] rfl g9 rfl kF rfl)
end Go.Proofs.YtedcnhbblgmdnaaGreat.Ab
