/- A part of the proof. -/
import Derived.Test.YtedcnhbblgmdnaaGreatT30
import Derived.Test.YtedcnhbblgmdnaaGreatT25
import Derived.Test.YtedcnhbblgmdnaaGreatT29
set_option maxHeartbeats 8000000
set_option maxRecDepth 10000
set_option linter.unusedSimpArgs false
set_option linter.unusedVariables false
namespace Go.Proofs.YtedcnhbblgmdnaaGreat.Ab
def okE (x:Ent):Bool:=chkE x==0
def okP (x:Spn):Bool:=chkP x==0
def cmpSr (a b:Ser):Int:=cmpL a.lb b.lb
theorem pf73 (a b:Ser)(ha:a.lb.length<2^60)(hb:b.lb.length<2^60):Pf E0 73 [.agg (a.pd.map .p),.agg (b.pd.map .p)] (P' (pI (cmpSr a b))):=by
 have p:Pf E0 52 _ (P' (pI (cmpSr a b))):=pf52 a.lb b.lb ha hb
 generalize cmpSr a b=R at *;refine gQ (fn:=Tryz.f73) ?_;simp only[gL,Tryz.ntmps73,Nat.reduceSub,Nat.reduceAdd];refine gY ?_;refine gN fun K F=>?_;simp only[go_sem];refine gP p ?_;simp only[go_sem];apply F;clear F K;exact wr (gU [.tmp 4] [.c (.p (pI R))])
theorem pf82g (l:List Spn)(hl:l.length≤500):Pf E0 82 [.c (.p (.lst l.length (l.flatMap Spn.pd)))] (P' (.bool false)):=by
 have hfl:(l.flatMap Spn.pd).length=l.length*10:=flat_len (k:=10) (fun _=>rfl) l
 refine gQ (fn:=Tryz.f82) ?_;simp only[gL,Tryz.ntmps82,Nat.reduceSub,Nat.reduceAdd];refine gY ?_;refine gY ?_;refine Wc.seqR (fun y=>y.ds=[]∧Fs y.e 31 []) ?_ ?_
 ·refine gY ?_;refine Wc.block (Wc.loop (fun k y=>∃ i n:Nat,k=l.length-i∧(i≤l.length∧n≤i)∧y.ds=[]∧Fs y.e 31 [(0,P' (.lst l.length (l.flatMap Spn.pd))),(6,P' (.lst l.length (l.flatMap Spn.pd))),(7,P' (pI l.length)),(8,P' (pI i)),(3,P' (pI n))]∧OA y.s.nx y.s [] []) ?_ (k:=l.length) ⟨0,0,rfl,⟨kO,kO⟩,rfl,by simp only[go_sem],oW⟩);rintro k ⟨e,ds,s1⟩ ⟨i,n,rfl,⟨hi,hn⟩,rfl,hF,ho⟩;simp only[Fs] at hF ho;apply gS kG;refine Wc.seq ?_;refine Wc.cond (t:=decide ((i:Int)<l.length)) kF (fun hc=>?_) (fun hc=>?_)
  ·have hil:i<l.length:=gi hc
   obtain⟨c,hcc⟩:=gE hil
   have hix:=ixA ti54 rfl ti128 (j:=i) (m:=l.length) (cs:=l.flatMap Spn.pd) hil hfl kD
   have hca:=rpG (f:=Spn.pd) (k:=10) (fun _=>rfl) hcc
   refine Wc.skip (Wc.seq (Wc.block (Wc.seqA (fun y=>∃ k4,y.ds=[]∧Fs y.e 31 [(0,P' (.lst l.length (l.flatMap Spn.pd))),(6,P' (.lst l.length (l.flatMap Spn.pd))),(7,P' (pI l.length)),(8,P' (pI i)),(3,P' (pI n)),(4,P' (pI i)),(5,.v (.c (.ref k4 0)))]∧OA y.s.nx y.s [] [(k4,.cells ((Spn.pd c).map .p) false)]) ?_ ?_)))
   ·apply gR (by simp only[go_sem,hF,hix,hca];rfl)
    exact⟨rfl,s1.nx+4,rfl,by simp only[go_sem,hF],by(try simp only[St.put_adv,St.adv_adv,St.put_put,gI]);repeat (first | exact oM ho | refine oN ?_ | refine oP ?_ | refine oA ?_)⟩
   clear hF ho e s1
   rintro⟨e,ds,s1⟩ ⟨k4,rfl,hF,ho⟩
   simp only[Fs] at hF ho
   have g4:=ho.at_ (k4,.cells ((Spn.pd c).map .p) false) kS
   simp only[gm] at g4;refine Wc.seqR (fun y=>∃ n:Nat,n≤i∧y.ds=[]∧Fs y.e 31 [(0,P' (.lst l.length (l.flatMap Spn.pd))),(6,P' (.lst l.length (l.flatMap Spn.pd))),(7,P' (pI l.length)),(8,P' (pI i)),(3,P' (pI n))]∧OA y.s.nx y.s [] []) ?_ ?_
   ·by_cases h0:i=0
    ·have hh:((0:Int)<(i:Int))=False:=by simp;omega
     refine Wc.seq ?_;refine Wc.regT fun K F=>?_;simp only[go_sem,hF,hh];refine⟨by rw[trOK_eq3];rfl,F _ _ ?_⟩;clear F K;apply gF kF
     exact⟨n,hn,rfl,by simp only[go_sem,hF],by(try simp only[gI]);repeat (first | exact oM (ho.sub (List.Sublist.refl _) (List.nil_sublist _)) | refine oN ?_ | refine oA ?_)⟩
    ·have hh:((0:Int)<(i:Int))=True:=by simp;omega
     obtain⟨q,hq⟩:∃ q,l[i-1]? = some q:=⟨l[i-1],List.getElem?_eq_getElem kO⟩
     have w1:IntKind.i64.wrap ((i:Int)-1)=((i-1:Nat):Int):=by rw[wi64];omega
     have hiq:=ixA ti54 rfl ti128 (j:=i-1) (m:=l.length) (cs:=l.flatMap Spn.pd) kO hfl kD
     have hcq:=rpG (f:=Spn.pd) (k:=10) (fun _=>rfl) hq
     refine Wc.seq ?_;refine Wc.regT fun K F=>?_;simp only[go_sem,hF,hh,g4,w1,hiq,hcq];refine⟨by rw[trOK_eq3];rfl,F _ _ ?_⟩;clear F K;refine Wc.cond (t:=q.tr != c.tr) kF (fun hc=>?_) (fun hc=>?_)
     ·apply gR kG
      exact⟨0,kO,rfl,by simp only[go_sem,hF],by(try simp only[gI]);repeat (first | exact oM (ho.sub (List.Sublist.refl _) (List.nil_sublist _)) | refine oN ?_ | refine oA ?_)⟩
     exact Wc.skip ⟨n,hn,rfl,by simp only[go_sem,hF],by(try simp only[gI]);repeat (first | exact oM (ho.sub (List.Sublist.refl _) (List.nil_sublist _)) | refine oN ?_ | refine oA ?_)⟩
   clear hF ho g4 e s1 hn n
   rintro⟨e,ds,s1⟩ ⟨n,hn,rfl,hF,ho⟩
   simp only[Fs] at hF ho;apply gS (by simp only[go_sem,hF,i64n n kO];rfl);refine Wc.seq ?_
   have hh:decide ((500:Int)<((n+1:Nat):Int))=false:=by simp;omega
   apply gR (by simp only[go_sem,hF,hh];rfl);apply gF (by simp only[go_sem,hF,hh]);apply gR kX
   exact⟨l.length-(i+1),kO,i+1,n+1,rfl,⟨kO,kO⟩,rfl,by simp only[go_sem,hF],oZ⟩
  ·exact Wc.exit ⟨rfl,by simp only[go_sem,hF]⟩
 rintro⟨e,ds,s1⟩ ⟨rfl,hF⟩
 simp only[Fs] at hF;apply gS kG;exact wr (gV [.tmp 2] [.c (.p (.bool false))] kF)
theorem OA.appB {b key:Nat}{s:St}{L1 L2:List (Nat×D×Nat×List Pd)}{M:List (Nat×Ob)}{c:C}{W ys:List UInt8}{y:D}{K:D→St→Prop}(h:OA b s (L1++(1,.v (.c c),W.length,W.map pdOfByte)::L2) M)(hkey:b≤key)(hW:W.length+ys.length<2^40)(hy:srcD E0 214 s y=some (ys.length,ys.map pdOfByte))
  (hk:∀ c' s',OA (key+1) s' (L1++(1,.v (.c c'),(W++ys).length,(W++ys).map pdOfByte)::L2) M→s'.nx=s.nx→K (.v (.c c')) s'):stepK (appendD E0 key [214,214] (.v (.c c)) y s) K:=by
 refine OA.app (by_:=1) (n:=W.length) (m:=ys.length) (ys:=ys.map pdOfByte) (cs:=W.map pdOfByte) h hkey ⟨_,ti214,rfl⟩ ti5 rfl rfl rfl kD kD hy kS kO fun x' s' hs hnx=>?_
 obtain⟨c',rfl⟩:=(hs.own (1,x',W.length+ys.length,W.map pdOfByte++ys.map pdOfByte) kS).v
 refine hk c' s' ?_ hnx
 rw[List.length_append,List.map_append]
 exact hs
def qB (b:UInt8):List UInt8:=bif (b.toNat:Int)==10 then [92,110] else bif ((b.toNat:Int)==92) || ((b.toNat:Int)==34) then [92,b] else [b]
def qS (s:List UInt8):List UInt8:=s.flatMap qB
theorem qB_le (b:UInt8):(qB b).length≤2:=by
 unfold qB;cases (b.toNat:Int)==10<;>cases ((b.toNat:Int)==92) || ((b.toNat:Int)==34)<;>simp
theorem qS_le:∀(s:List UInt8),(qS s).length≤2*s.length
 |[]=>Nat.zero_le _
 |b::t=>by
  have h1:=qB_le b
  have h2:=qS_le t
  unfold qS at h2 ⊢
  rw[List.flatMap_cons,List.length_append,List.length_cons]
  omega
theorem qS_step {s:List UInt8}{i:Nat}{b:UInt8}(h:s[i]? = some b):qS (s.take (i+1))=qS (s.take i)++qB b:=by
 rw[take_snoc h];unfold qS;simp
theorem pf234 (t:List UInt8)(hl:t.length<2^30):Pf E0 234 [.c (.p (.str t))] (P' (.str (qS t))):=by
 refine gQ (fn:=Tryz.f234) ?_;simp only[gL,Tryz.ntmps234,Nat.reduceSub,Nat.reduceAdd];refine gY ?_;refine Wc.seqA (fun y=>∃ xc,y.ds=[]∧Fs y.e 40 [(0,P' (.str t)),(3,.v (.c xc))]∧OA y.s.nx y.s [(1,.v (.c xc),(qS (t.take 0)).length,(qS (t.take 0)).map pdOfByte)] []) ?_ ?_
 ·refine gZ ?_
  trace_state
  exact⟨rfl,_,rfl,by simp only[go_sem],(OA.front (es:=1) (n:=0) (cs:=[]) (s00_oa.adv.adv) kO rfl).mono kY⟩
 rintro⟨e,ds,s1⟩ ⟨xc,rfl,hF,ho⟩
 simp only[Fs] at hF ho;refine Wc.seqR (fun y=>∃ xc,y.ds=[]∧Fs y.e 40 [(3,.v (.c xc))]∧OA y.s.nx y.s [(1,.v (.c xc),(qS t).length,(qS t).map pdOfByte)] []) ?_ ?_
 ·apply gS kG;refine Wc.block (Wc.loop (fun k y=>∃(i:Nat) (xc:C),k=t.length-i∧i≤t.length∧y.ds=[]∧Fs y.e 40 [(0,P' (.str t)),(3,.v (.c xc)),(4,P' (pI i))]∧OA y.s.nx y.s [(1,.v (.c xc),(qS (t.take i)).length,(qS (t.take i)).map pdOfByte)] []) ?_ (k:=t.length) ⟨0,xc,rfl,kO,rfl,by simp only[go_sem,hF],oZ⟩);clear hF ho e s1 xc;rintro k ⟨e,ds,s1⟩ ⟨i,xc,rfl,hi,rfl,hF,ho⟩;simp only[Fs] at hF ho
  have hql:(qS (t.take i)).length≤2*i:=by have:=qS_le (t.take i);rw[List.length_take] at this;omega
  refine gO ?_;apply gR kG;refine Wc.cond (t:=decide ((i:Int)<t.length)) kF (fun hc=>?_) (fun hc=>?_)
  ·have hil:i<t.length:=gi hc
   obtain⟨b,hb⟩:=gE hil
   have hst:=qS_step hb
   refine Wc.skip (Wc.seq (Wc.block (Wc.seq (Wc.seq ?_))));cases k1:((b.toNat:Int)==10) with
   |true =>
    have hq:qB b=[92,110]:=by unfold qB;rw[k1];rfl
    rw[hq] at hst
    apply gR (by simp only[go_sem,hF,hb,pdOfByte,k1];rfl);apply gT (by simp only[go_sem,hF,k1]);refine gN fun K F=>?_;simp only[go_sem,hF];refine OA.appB (L1:=[]) (L2:=[]) (M:=[]) (W:=qS (t.take i)) (ys:=[92,110]) ?_ (Nat.le_refl _) (by simp;omega) (by simp only[go_sem];try rfl) fun xc' s3 hs hnx=>?_
    ·exact by(try simp only[gI]);repeat (first | exact oM ho | refine oN ?_ | refine oP ?_ | refine oA ?_)
    simp only[go_sem,hF];apply F;clear F K;simp only[St.nx_put,St.nx_adv] at hnx;refine Wc.exit ?_;apply gR kX
    rw[← hst] at hs
    exact⟨t.length-(i+1),kO,i+1,xc',rfl,kO,rfl,by simp only[go_sem,hF],OA.mono hs.adv (by simp only[St.nx_adv];omega)⟩
   |false =>
   apply gR (by simp only[go_sem,hF,hb,pdOfByte,k1];rfl);apply gF (by simp only[go_sem,hF,k1]);refine Wc.seqR (fun y=>∃(xc:C) (W:List UInt8),(W++[b]=qS (t.take (i+1))∧W.length≤2*i+1)∧y.ds=[]∧Fs y.e 40 [(0,P' (.str t)),(3,.v (.c xc)),(4,P' (pI i))]∧OA y.s.nx y.s [(1,.v (.c xc),W.length,W.map pdOfByte)] []) ?_ ?_
   ·cases k2:((b.toNat:Int)==92) with
    |true =>
     have hq:qB b=[92]++[b]:=by unfold qB;rw[k1,k2];rfl
     rw[hq,← List.append_assoc] at hst
     apply gS (by simp only[go_sem,hF,hb,pdOfByte,k2];rfl);refine Wc.cond (t:=true) (by simp only[go_sem,hF,k2]) (fun hc=>?_) (fun hc=>?_)
     ·refine gM fun K F=>?_;simp only[go_sem,hF];refine OA.appB (L1:=[]) (L2:=[]) (M:=[]) (W:=qS (t.take i)) (ys:=[92]) ?_ (Nat.le_refl _) (by simp;omega) (by simp only[go_sem];try rfl) fun xc' s3 hs hnx=>?_
      ·exact by(try simp only[gI]);repeat (first | exact oM ho | refine oN ?_ | refine oP ?_ | refine oA ?_)
      simp only[go_sem,hF];apply F;clear F K;simp only[St.nx_put,St.nx_adv] at hnx
      exact⟨xc',_,⟨hst.symm,by simp;omega⟩,rfl,by simp only[go_sem,hF],OA.mono hs (by dsimp only;omega)⟩
     ·cases hc
    |false =>
    cases k3:((b.toNat:Int)==34) with
    |true =>
     have hq:qB b=[92]++[b]:=by unfold qB;rw[k1,k2,k3];rfl
     rw[hq,← List.append_assoc] at hst
     apply gS (by simp only[go_sem,hF,hb,pdOfByte,k2,k3];rfl);refine Wc.cond (t:=true) (by simp only[go_sem,hF,k2,k3]) (fun hc=>?_) (fun hc=>?_)
     ·refine gM fun K F=>?_;simp only[go_sem,hF];refine OA.appB (L1:=[]) (L2:=[]) (M:=[]) (W:=qS (t.take i)) (ys:=[92]) ?_ (Nat.le_refl _) (by simp;omega) (by simp only[go_sem];try rfl) fun xc' s3 hs hnx=>?_
      ·exact by(try simp only[gI]);repeat (first | exact oM ho | refine oN ?_ | refine oP ?_ | refine oA ?_)
      simp only[go_sem,hF];apply F;clear F K;simp only[St.nx_put,St.nx_adv] at hnx
      exact⟨xc',_,⟨hst.symm,by simp;omega⟩,rfl,by simp only[go_sem,hF],OA.mono hs (by dsimp only;omega)⟩
     ·cases hc
    |false =>
     have hq:qB b=[b]:=by unfold qB;rw[k1,k2,k3];rfl
     rw[hq] at hst
     apply gS (by simp only[go_sem,hF,hb,pdOfByte,k2,k3];rfl);apply gF (by simp only[go_sem,hF,k2,k3])
     exact⟨xc,_,⟨hst.symm,kO⟩,rfl,by simp only[go_sem,hF],oZ⟩
   clear hF ho e s1 xc hst hql
   rintro⟨e,ds,s1⟩ ⟨xc,W,⟨hst,hW⟩,rfl,hF,ho⟩
   simp only[Fs] at hF ho;refine gM fun K F=>?_;simp only[go_sem,hF,hb,pdOfByte];refine OA.appB (L1:=[]) (L2:=[]) (M:=[]) (W:=W) (ys:=[b]) ?_ (Nat.le_refl _) (by simp;omega) (by simp only[go_sem];try rfl) fun xc' s3 hs hnx=>?_
   ·exact by(try simp only[gI]);repeat (first | exact oM ho | refine oN ?_ | refine oP ?_ | refine oA ?_)
   simp only[go_sem,hF];apply F;clear F K;simp only[St.nx_put,St.nx_adv] at hnx;apply gR kX
   rw[hst] at hs
   exact⟨t.length-(i+1),kO,i+1,xc',rfl,kO,rfl,by simp only[go_sem,hF],OA.mono hs.adv (by simp only[St.nx_adv];omega)⟩
  ·have hil:i=t.length:=by have:=of_decide_eq_false hc;omega
   rw[hil,List.take_length] at ho
   exact Wc.exit ⟨xc,rfl,by simp only[go_sem,hF],oZ⟩
 clear hF ho e s1 xc
 rintro⟨e,ds,s1⟩ ⟨xc,rfl,hF,ho⟩
 simp only[Fs] at hF ho
 have hpu:=(ho.own _ (List.mem_cons_self ..)).purS
 have hlo:=(ho.own _ (List.mem_cons_self ..)).lo
 apply gS (by simp only[go_sem,hF,hlo,allM_bytes];rfl);exact wr (gV [.tmp 2] [.c (.p (.str (qS t)))] kF)
theorem call218 {bb:Nat}{s:St}{L1 L2:List (Nat×D×Nat×List Pd)}{M:List (Nat×Ob)}{x:D}{W0 t:List UInt8}{K:D→St→Prop}(h:OA bb s (L1++(1,x,W0.length,W0.map pdOfByte)::L2) M)(hbb:bb≤s.nx)(ht:t.length<2^30)(hW:W0.length<2^38)
  (F:∀ c' s',OA s'.nx s' (L1++(1,.v (.c c'),(W0++qS t).length,(W0++qS t).map pdOfByte)::L2) M→s.nx≤s'.nx→K (.v (.c c')) s'):wpCall E0 (.v (.c (.p (.fnc 218)))) [x,.v (.c (.p (.str t)))] s K:=by
 obtain⟨c,rfl⟩:=(h.own (1,x,W0.length,W0.map pdOfByte) kS).v
 refine wpCall.opn (fn:=Tryz.f218) kR kR rfl kR rfl ?_;simp only[gL,Tryz.ntmps218,Nat.reduceSub,Nat.reduceAdd];refine gY ?_;refine Wc.seqR (fun y=>∃ xc,y.ds=[]∧Fs y.e 36 [(0,.v (.c xc))]∧OA y.s.nx y.s (L1++(1,.v (.c xc),(W0++qS t).length,(W0++qS t).map pdOfByte)::L2) M∧s.nx≤y.s.nx) ?_ ?_
 ·refine gY ?_;refine Wc.block (Wc.loop (fun k y=>∃(i:Nat) (xc:C),k=t.length-i∧i≤t.length∧y.ds=[]∧Fs y.e 36 [(0,.v (.c xc)),(1,P' (.str t)),(5,P' (pI i))]∧OA y.s.nx y.s (L1++(1,.v (.c xc),(W0++qS (t.take i)).length,(W0++qS (t.take i)).map pdOfByte)::L2) M∧s.nx≤y.s.nx) ?_ (k:=t.length) ⟨0,c,rfl,kO,rfl,by simp only[go_sem],?_,by simp only[St.nx_adv];omega⟩)
  case refine_2 =>
   have e:W0++qS (t.take 0)=W0:=by simp[qS]
   rw[e]
   exact by(try simp only[gI]);repeat (first | exact oM h | refine oN ?_ | refine oA ?_)
  rintro k ⟨e,ds,s1⟩ ⟨i,xc,rfl,hi,rfl,hF,ho,hnx0⟩;simp only[Fs] at hF ho hnx0
  have hql:(qS (t.take i)).length≤2*i:=by have:=qS_le (t.take i);rw[List.length_take] at this;omega
  refine gO ?_;apply gR kG;refine Wc.cond (t:=decide ((i:Int)<t.length)) kF (fun hc=>?_) (fun hc=>?_)
  ·have hil:i<t.length:=gi hc
   obtain⟨b,hb⟩:=gE hil
   have hst:=qS_step hb
   refine Wc.skip (Wc.seq (Wc.block (Wc.seq ?_)));apply gR (by simp only[go_sem,hF,hb,pdOfByte];rfl);refine Wc.block (Wc.seq (Wc.seq ?_));cases k2:((b.toNat:Int)==92) with
   |true =>
    have k1:((b.toNat:Int)==10)=false:=by simp at k2 ⊢;omega
    have hq:qB b=[92,b]:=by unfold qB;rw[k1,k2];rfl
    rw[hq] at hst
    apply gR (by simp only[go_sem,hF,k2];rfl);apply gT (by simp only[go_sem,hF,k2]);refine Wc.skip ?_;apply gT (by simp only[go_sem,hF,k2]);refine gM fun K F=>?_;simp only[go_sem,hF,hb,pdOfByte];refine OA.appB (L1:=L1) (L2:=L2) (M:=M) (W:=W0++qS (t.take i)) (ys:=[92,b]) ?_ (Nat.le_refl _) (by simp;omega) (by simp only[go_sem];try rfl) fun xc' s3 hs hnx=>?_
    ·exact by(try simp only[gI]);repeat (first | exact oM ho | refine oN ?_ | refine oP ?_ | refine oA ?_)
    simp only[go_sem,hF];apply F;clear F K;simp only[St.nx_put,St.nx_adv] at hnx;apply gR kX
    rw[List.append_assoc,← hst] at hs
    exact⟨t.length-(i+1),kO,i+1,xc',rfl,kO,rfl,by simp only[go_sem,hF],OA.mono hs.adv (by simp only[St.nx_adv];omega),by simp only[St.nx_adv];omega⟩
   |false =>
   cases k3:((b.toNat:Int)==34) with
   |true =>
    have k1:((b.toNat:Int)==10)=false:=by simp at k3 ⊢;omega
    have hq:qB b=[92,b]:=by unfold qB;rw[k1,k2,k3];rfl
    rw[hq] at hst
    apply gR (by simp only[go_sem,hF,k2];rfl);apply gX (by simp only[go_sem,hF,k2]);apply gR (by simp only[go_sem,hF,k3];rfl);apply gT (by simp only[go_sem,hF,k3]);refine gM fun K F=>?_;simp only[go_sem,hF,hb,pdOfByte];refine OA.appB (L1:=L1) (L2:=L2) (M:=M) (W:=W0++qS (t.take i)) (ys:=[92,b]) ?_ (Nat.le_refl _) (by simp;omega) (by simp only[go_sem];try rfl) fun xc' s3 hs hnx=>?_
    ·exact by(try simp only[gI]);repeat (first | exact oM ho | refine oN ?_ | refine oP ?_ | refine oA ?_)
    simp only[go_sem,hF];apply F;clear F K;simp only[St.nx_put,St.nx_adv] at hnx;apply gR kX
    rw[List.append_assoc,← hst] at hs
    exact⟨t.length-(i+1),kO,i+1,xc',rfl,kO,rfl,by simp only[go_sem,hF],OA.mono hs.adv (by simp only[St.nx_adv];omega),by simp only[St.nx_adv];omega⟩
   |false =>
   apply gR (by simp only[go_sem,hF,k2];rfl);apply gX (by simp only[go_sem,hF,k2]);apply gR (by simp only[go_sem,hF,k3];rfl);apply gX (by simp only[go_sem,hF,k3]);refine Wc.seq ?_;cases k1:((b.toNat:Int)==10) with
   |true =>
    have hq:qB b=[92,110]:=by unfold qB;rw[k1];rfl
    rw[hq] at hst
    apply gR (by simp only[go_sem,hF,k1];rfl);apply gT (by simp only[go_sem,hF,k1]);refine gM fun K F=>?_;simp only[go_sem,hF];refine OA.appB (L1:=L1) (L2:=L2) (M:=M) (W:=W0++qS (t.take i)) (ys:=[92,110]) ?_ (Nat.le_refl _) (by simp;omega) (by simp only[go_sem];try rfl) fun xc' s3 hs hnx=>?_
    ·exact by(try simp only[gI]);repeat (first | exact oM ho | refine oN ?_ | refine oP ?_ | refine oA ?_)
    simp only[go_sem,hF];apply F;clear F K;simp only[St.nx_put,St.nx_adv] at hnx;apply gR kX
    rw[List.append_assoc,← hst] at hs
    exact⟨t.length-(i+1),kO,i+1,xc',rfl,kO,rfl,by simp only[go_sem,hF],OA.mono hs.adv (by simp only[St.nx_adv];omega),by simp only[St.nx_adv];omega⟩
   |false =>
    have hq:qB b=[b]:=by unfold qB;rw[k1,k2,k3];rfl
    rw[hq] at hst
    apply gR (by simp only[go_sem,hF,k1];rfl);apply gX (by simp only[go_sem,hF,k1]);refine gM fun K F=>?_;simp only[go_sem,hF,hb,pdOfByte];refine OA.appB (L1:=L1) (L2:=L2) (M:=M) (W:=W0++qS (t.take i)) (ys:=[b]) ?_ (Nat.le_refl _) (by simp;omega) (by simp only[go_sem];try rfl) fun xc' s3 hs hnx=>?_
    ·exact by(try simp only[gI]);repeat (first | exact oM ho | refine oN ?_ | refine oP ?_ | refine oA ?_)
    simp only[go_sem,hF];apply F;clear F K;simp only[St.nx_put,St.nx_adv] at hnx;apply gR kX
    rw[List.append_assoc,← hst] at hs
    exact⟨t.length-(i+1),kO,i+1,xc',rfl,kO,rfl,by simp only[go_sem,hF],OA.mono hs.adv (by simp only[St.nx_adv];omega),by simp only[St.nx_adv];omega⟩
  ·have hil:i=t.length:=by have:=of_decide_eq_false hc;omega
   rw[hil,List.take_length] at ho
   exact Wc.exit ⟨xc,rfl,by simp only[go_sem,hF],oZ,by simp only[St.nx_adv];omega⟩
 rintro⟨e,ds,s1⟩ ⟨xc,rfl,hF,ho,hnx0⟩
 simp only[Fs] at hF ho hnx0;apply gS kG;exact wr (Op.ret [.tmp 4] [.c xc] rfl rfl kF (F _ _ oZ (by simp only[St.nx_adv];omega)))
def fmtX (x:Lb):List UInt8:=x.1++[61,34]++qS x.2++[34]
def fmtG (l:List Lb):Nat→List UInt8
 |0=>[123]
 |i+1=>fmtG l i++(bif decide (0<i) then [44] else [])++(match l[i]? with | some x=>fmtX x | none=>[])
def fmtL (l:List Lb):List UInt8:=fmtG l l.length++[125]
def Lbs (l:List Lb):Prop:=l.length≤17∧∀ x∈l,x.1.length≤61∧x.2.length≤201
theorem fmtG_le {l:List Lb}(hz:Lbs l):∀ i,(fmtG l i).length≤1+600*i
 |0=>by simp[fmtG]
 |i+1=>by
  have:=fmtG_le hz i
  rw[fmtG]
  have h2:(bif decide (0<i) then [(44:UInt8)] else []).length≤1:=by cases decide (0<i)<;>simp
  have h3:(match l[i]? with | some x=>fmtX x | none=>[]).length≤500:=by
   cases h:l[i]? with
   |none=>simp
   |some x =>
    have hx:=hz.2 x (gw h)
    have:=qS_le x.2
    simp[fmtX];omega
  simp only[List.length_append];omega
theorem fmtG_step {l:List Lb}{i:Nat}{x:Lb}(h:l[i]? = some x):fmtG l (i+1)=fmtG l i++(bif decide (0<i) then [44] else [])++fmtX x:=by
 rw[fmtG,h]
theorem addS (a b:List UInt8)(h:a.length+b.length<2^40):¬ (9223372036854775807<a.length+b.length):=kO
theorem o234:E0.opn 234=false:=by kernel_rfl
theorem x234:E0.xt 234=none:=by kernel_rfl
theorem pf188 (l:List Lb)(hz:Lbs l):Pf E0 188 [.c (.p (.lst l.length (l.flatMap lbP)))] (P' (.str (fmtL l))):=by
 have hfl:(l.flatMap lbP).length=l.length*2:=flat_len (k:=2) (fun _=>rfl) l
 have hln:=hz.1
 have hG:=fmtG_le hz
 unfold fmtL;refine gQ (fn:=Tryz.f188) ?_;simp only[gL,Tryz.ntmps188,Nat.reduceSub,Nat.reduceAdd];refine gY ?_;refine gY ?_;refine Wc.seqR (fun y=>y.ds=[]∧Fs y.e 33 [(3,P' (.str (fmtG l l.length)))]) ?_ ?_
 ·refine gY ?_;refine Wc.block (Wc.loop (fun k y=>∃ i:Nat,k=l.length-i∧i≤l.length∧y.ds=[]∧Fs y.e 33 [(0,P' (.lst l.length (l.flatMap lbP))),(3,P' (.str (fmtG l i))),(4,P' (pI i))]) ?_ (k:=l.length) ⟨0,rfl,kO,rfl,by simp only[go_sem,fmtG]⟩);rintro k ⟨e,ds,s1⟩ ⟨i,rfl,hi,rfl,hF⟩;simp only[Fs] at hF
  have hGi:=hG i
  refine gO ?_;apply gR kG;refine Wc.cond (t:=decide ((i:Int)<l.length)) kF (fun hc=>?_) (fun hc=>?_)
  ·have hil:i<l.length:=gi hc
   obtain⟨x,hx⟩:=gE hil
   have hxs:=hz.2 x (gw hx)
   have hq:=qS_le x.2
   have hst:=fmtG_step hx
   have hix:=ixA ti22 rfl ti117 (j:=i) (m:=l.length) (cs:=l.flatMap lbP) hil hfl kD
   have hc1:=rpG (f:=lbP) (k:=2) (fun _=>rfl) hx
   have hc2:=rpGo (f:=lbP) (k:=2) (o:=1) (fun _=>rfl) hx kD
   simp only[List.drop_succ_cons,List.drop_zero] at hc2
   have p:=pf234 x.2 kO
   refine Wc.skip (Wc.seq (Wc.block (Wc.seqR (fun y=>y.ds=[]∧Fs y.e 33 [(0,P' (.lst l.length (l.flatMap lbP))),(3,P' (.str (fmtG l i++(bif decide (0<i) then [44] else [])))),(4,P' (pI i))]) ?_ ?_)))
   ·by_cases h0:i=0
    ·have hh:decide ((0:Int)<(i:Int))=false:=by simp;omega
     have hd:decide (0<i)=false:=by simp;omega
     apply gS (by simp only[go_sem,hF,hh];rfl);apply gF (by simp only[go_sem,hF,hh])
     exact⟨rfl,by simp only[go_sem,hF,hd,cond_false,List.append_nil]⟩
    ·have hh:decide ((0:Int)<(i:Int))=true:=by simp;omega
     have hd:decide (0<i)=true:=by simp;omega
     have ha:¬ (9223372036854775807<(fmtG l i).length+1):=kO
     apply gS (by simp only[go_sem,hF,hh];rfl);refine Wc.cond (t:=true) (by simp only[go_sem,hF,hh]) (fun hc=>?_) (fun hc=>?_)
     ·apply gR (by simp only[go_sem,hF,ha];rfl)
      exact⟨rfl,by simp only[go_sem,hF,hd,cond_true]⟩
     ·cases hc
   clear hF e s1
   rintro⟨e,ds,s1⟩ ⟨rfl,hF⟩
   simp only[Fs] at hF
   rw[fmtX,← List.append_assoc,← List.append_assoc,← List.append_assoc] at hst
   have hGl:(fmtG l i++(bif decide (0<i) then [44] else [])).length≤2+600*i:=by cases decide (0<i)<;>simp<;>omega
   generalize fmtG l i++(bif decide (0<i) then [44] else [])=W at *
   have a1:¬ (9223372036854775807<W.length+x.1.length):=addS _ _ kO
   have a2:¬ (9223372036854775807<(W++x.1).length+2):=by simp;omega
   have a3:¬ (9223372036854775807<(W++x.1++[61,34]).length+(qS x.2).length):=addS _ _ (by simp;omega)
   have a4:¬ (9223372036854775807<(W++x.1++[61,34]++qS x.2).length+1):=by simp;omega
   refine Wc.regT fun K F=>?_;simp only[go_sem,hF,hix,hc1,hc2,a1,a2];refine gP p ?_;simp only[go_sem,hF,o234,x234,a3,a4];refine⟨by rw[trOK_eq3];rfl,F _ _ ?_⟩;clear F K;apply gR kX
   exact⟨l.length-(i+1),kO,i+1,rfl,kO,rfl,by simp only[go_sem,hF,hst]⟩
  ·have hil:i=l.length:=by have:=of_decide_eq_false hc;omega
   subst hil;exact Wc.exit ⟨rfl,by simp only[go_sem,hF]⟩
 rintro⟨e,ds,s1⟩ ⟨rfl,hF⟩
 simp only[Fs] at hF
 have hGl:=hG l.length
 have ha:¬ (9223372036854775807<(fmtG l l.length).length+1):=kO
 apply gS (by simp only[go_sem,hF,ha];rfl);exact wr (gV [.tmp 2] [.c (.p (.str (fmtG l l.length++[125])))] kF)
theorem OA.appS {b key:Nat}{s:St}{L1 L2:List (Nat×D×Nat×List Pd)}{M:List (Nat×Ob)}{c:C}{W ys:List UInt8}{K:D→St→Prop}(h:OA b s (L1++(1,.v (.c c),W.length,W.map pdOfByte)::L2) M)(hkey:b≤key)(hW:W.length+ys.length<2^40)
  (hk:∀ c' s',OA (key+1) s' (L1++(1,.v (.c c'),(W++ys).length,(W++ys).map pdOfByte)::L2) M→s'.nx=s.nx→K (.v (.c c')) s'):stepK (appendD E0 key [214,9] (.v (.c c)) (.v (.c (.p (.str ys)))) s) K:=by
 refine OA.app (u:=9) (by_:=1) (n:=W.length) (m:=ys.length) (ys:=ys.map pdOfByte) (cs:=W.map pdOfByte) h hkey ⟨_,ti214,rfl⟩ ti5 rfl rfl rfl kD kD (by simp only[srcD,ti9]) kS kO fun x' s' hs hnx=>?_
 obtain⟨c',rfl⟩:=(hs.own (1,x',W.length+ys.length,W.map pdOfByte++ys.map pdOfByte) kS).v
 refine hk c' s' ?_ hnx
 rw[List.length_append,List.map_append]
 exact hs
theorem pf146 (l:List Lb)(hz:Lbs l):Pf E0 146 [.c (.p (.lst l.length (l.flatMap lbP)))] (P' (.str (fmtL l))):=by
 have hfl:(l.flatMap lbP).length=l.length*2:=flat_len (k:=2) (fun _=>rfl) l
 have hln:=hz.1
 have hG:=fmtG_le hz
 unfold fmtL;refine gQ (fn:=Tryz.f146) ?_;simp only[gL,Tryz.ntmps146,Nat.reduceSub,Nat.reduceAdd];refine gY ?_;refine Wc.seqA (fun y=>∃ xc,y.ds=[]∧Fs y.e 40 [(0,P' (.lst l.length (l.flatMap lbP))),(3,.v (.c xc))]∧OA y.s.nx y.s [(1,.v (.c xc),(fmtG l 0).length,(fmtG l 0).map pdOfByte)] []) ?_ ?_
 ·refine gZ ?_
  have pd123:pdOfByte 123=Pd.int IntKind.u8 123:=rfl
  exact⟨rfl,_,rfl,by simp only[go_sem,pd123],(OA.front (es:=1) (n:=1) (cs:=[123].map pdOfByte) (s00_oa.adv.adv) kO rfl).mono kY⟩
 rintro⟨e,ds,s1⟩ ⟨xc,rfl,hF,ho⟩
 simp only[Fs] at hF ho;refine Wc.seqR (fun y=>∃ xc,y.ds=[]∧Fs y.e 40 [(3,.v (.c xc))]∧OA y.s.nx y.s [(1,.v (.c xc),(fmtG l l.length).length,(fmtG l l.length).map pdOfByte)] []) ?_ ?_
 ·apply gS kG;refine Wc.block (Wc.loop (fun k y=>∃(i:Nat) (xc:C),k=l.length-i∧i≤l.length∧y.ds=[]∧Fs y.e 40 [(0,P' (.lst l.length (l.flatMap lbP))),(3,.v (.c xc)),(8,P' (.lst l.length (l.flatMap lbP))),(9,P' (pI l.length)),(10,P' (pI i))]∧OA y.s.nx y.s [(1,.v (.c xc),(fmtG l i).length,(fmtG l i).map pdOfByte)] []) ?_ (k:=l.length) ⟨0,xc,rfl,kO,rfl,by simp only[go_sem,hF],oZ⟩);clear hF ho e s1 xc;rintro k ⟨e,ds,s1⟩ ⟨i,xc,rfl,hi,rfl,hF,ho⟩;simp only[Fs] at hF ho
  have hGi:=hG i
  apply gS kG;refine Wc.seq ?_;refine Wc.cond (t:=decide ((i:Int)<l.length)) kF (fun hc=>?_) (fun hc=>?_)
  ·have hil:i<l.length:=gi hc
   obtain⟨x,hx⟩:=gE hil
   have hxs:=hz.2 x (gw hx)
   have hq:=qS_le x.2
   have hst:=fmtG_step hx
   have hix:=ixA ti22 rfl ti117 (j:=i) (m:=l.length) (cs:=l.flatMap lbP) hil hfl kD
   have hca:=rpG (f:=lbP) (k:=2) (fun _=>rfl) hx
   refine Wc.skip (Wc.seq (Wc.block (Wc.seqA (fun y=>∃ k4,y.ds=[]∧Fs y.e 40 [(0,P' (.lst l.length (l.flatMap lbP))),(3,.v (.c xc)),(8,P' (.lst l.length (l.flatMap lbP))),(9,P' (pI l.length)),(10,P' (pI i)),(4,P' (pI i)),(5,.v (.c (.ref k4 0)))]∧OA y.s.nx y.s [(1,.v (.c xc),(fmtG l i).length,(fmtG l i).map pdOfByte)] [(k4,.cells ((lbP x).map .p) false)]) ?_ ?_)))
   ·apply gR (by simp only[go_sem,hF,hix,hca];rfl)
    exact⟨rfl,s1.nx+4,rfl,by simp only[go_sem,hF],by(try simp only[St.put_adv,St.adv_adv,St.put_put,gI]);repeat (first | exact oM ho | refine oN ?_ | refine oP ?_ | refine oA ?_)⟩
   clear hF ho e s1
   rintro⟨e,ds,s1⟩ ⟨k4,rfl,hF,ho⟩
   simp only[Fs] at hF ho;refine Wc.seqR (fun y=>∃ xc,y.ds=[]∧Fs y.e 40 [(0,P' (.lst l.length (l.flatMap lbP))),(3,.v (.c xc)),(8,P' (.lst l.length (l.flatMap lbP))),(9,P' (pI l.length)),(10,P' (pI i)),(4,P' (pI i)),(5,.v (.c (.ref k4 0)))]∧OA y.s.nx y.s [(1,.v (.c xc),(fmtG l i++(bif decide (0<i) then [44] else [])).length,(fmtG l i++(bif decide (0<i) then [44] else [])).map pdOfByte)] [(k4,.cells ((lbP x).map .p) false)]) ?_ ?_
   ·by_cases h0:i=0
    ·have hh:decide ((0:Int)<(i:Int))=false:=by simp;omega
     have hd:decide (0<i)=false:=by simp;omega
     apply gS (by simp only[go_sem,hF,hh];rfl);apply gF (by simp only[go_sem,hF,hh])
     exact⟨xc,rfl,by simp only[go_sem,hF],by rw[hd,cond_false,List.append_nil];exact by(try simp only[gI]);repeat (first | exact oM ho | refine oN ?_ | refine oA ?_)⟩
    ·have hh:decide ((0:Int)<(i:Int))=true:=by simp;omega
     have hd:decide (0<i)=true:=by simp;omega
     apply gS (by simp only[go_sem,hF,hh];rfl);refine Wc.cond (t:=true) (by simp only[go_sem,hF,hh]) (fun hc=>?_) (fun hc=>?_)
     ·refine gM fun K F=>?_;simp only[go_sem,hF];refine OA.appB (L1:=[]) (L2:=[]) (M:=[(k4,.cells ((lbP x).map .p) false)]) (W:=fmtG l i) (ys:=[44]) ?_ (Nat.le_refl _) (by simp;omega) (by simp only[go_sem];try rfl) fun xc' s3 hs hnx=>?_
      ·exact by(try simp only[gI]);repeat (first | exact oM ho | refine oN ?_ | refine oP ?_ | refine oA ?_)
      simp only[go_sem,hF];apply F;clear F K;simp only[St.nx_put,St.nx_adv] at hnx
      rw[hd,cond_true]
      exact⟨xc',rfl,by simp only[go_sem,hF],OA.mono hs (by dsimp only;omega)⟩
     ·cases hc
   clear hF ho e s1 xc
   rintro⟨e,ds,s1⟩ ⟨xc,rfl,hF,ho⟩
   simp only[Fs] at hF ho
   rw[fmtX,← List.append_assoc,← List.append_assoc,← List.append_assoc] at hst
   have hGl:(fmtG l i++(bif decide (0<i) then [44] else [])).length≤2+600*i:=by cases decide (0<i)<;>simp<;>omega
   generalize fmtG l i++(bif decide (0<i) then [44] else [])=W at *
   have g4:=ho.at_ (k4,.cells ((lbP x).map .p) false) kS
   simp only[gm] at g4;refine Wc.seqA (fun y=>∃ xc,y.ds=[]∧Fs y.e 40 [(0,P' (.lst l.length (l.flatMap lbP))),(3,.v (.c xc)),(8,P' (.lst l.length (l.flatMap lbP))),(9,P' (pI l.length)),(10,P' (pI i)),(4,P' (pI i)),(5,.v (.c (.ref k4 0)))]∧OA y.s.nx y.s [(1,.v (.c xc),(W++x.1).length,(W++x.1).map pdOfByte)] [(k4,.cells ((lbP x).map .p) false)]) ?_ ?_
   ·refine gM fun K F=>?_;simp only[go_sem,hF,g4];refine OA.appS (L1:=[]) (L2:=[]) (M:=[(k4,.cells ((lbP x).map .p) false)]) (W:=W) (ys:=x.1) ?_ (Nat.le_refl _) kO fun xc' s3 hs hnx=>?_
    ·exact by(try simp only[gI]);repeat (first | exact oM ho | refine oN ?_ | refine oP ?_ | refine oA ?_)
    simp only[go_sem,hF];apply F;clear F K;simp only[St.nx_put,St.nx_adv] at hnx
    exact⟨rfl,xc',rfl,by simp only[go_sem,hF],OA.mono hs (by dsimp only;omega)⟩
   clear hF ho e s1 xc g4
   rintro⟨e,ds,s1⟩ ⟨xc,rfl,hF,ho⟩
   simp only[Fs] at hF ho;refine Wc.seqA (fun y=>∃ xc,y.ds=[]∧Fs y.e 40 [(0,P' (.lst l.length (l.flatMap lbP))),(3,.v (.c xc)),(8,P' (.lst l.length (l.flatMap lbP))),(9,P' (pI l.length)),(10,P' (pI i)),(4,P' (pI i)),(5,.v (.c (.ref k4 0)))]∧OA y.s.nx y.s [(1,.v (.c xc),(W++x.1++[61,34]).length,(W++x.1++[61,34]).map pdOfByte)] [(k4,.cells ((lbP x).map .p) false)]) ?_ ?_
   ·refine gM fun K F=>?_;simp only[go_sem,hF];refine OA.appB (L1:=[]) (L2:=[]) (M:=[(k4,.cells ((lbP x).map .p) false)]) (W:=W++x.1) (ys:=[61,34]) ?_ (Nat.le_refl _) (by simp;omega) (by simp only[go_sem];try rfl) fun xc' s3 hs hnx=>?_
    ·exact by(try simp only[gI]);repeat (first | exact oM ho | refine oN ?_ | refine oP ?_ | refine oA ?_)
    simp only[go_sem,hF];apply F;clear F K;simp only[St.nx_put,St.nx_adv] at hnx
    exact⟨rfl,xc',rfl,by simp only[go_sem,hF],OA.mono hs (by dsimp only;omega)⟩
   clear hF ho e s1 xc
   rintro⟨e,ds,s1⟩ ⟨xc,rfl,hF,ho⟩
   simp only[Fs] at hF ho
   have g4:=ho.at_ (k4,.cells ((lbP x).map .p) false) kS
   simp only[gm] at g4;refine Wc.seqA (fun y=>∃ xc,y.ds=[]∧Fs y.e 40 [(0,P' (.lst l.length (l.flatMap lbP))),(3,.v (.c xc)),(8,P' (.lst l.length (l.flatMap lbP))),(9,P' (pI l.length)),(10,P' (pI i)),(4,P' (pI i)),(5,.v (.c (.ref k4 0)))]∧OA y.s.nx y.s [(1,.v (.c xc),(W++x.1++[61,34]++qS x.2).length,(W++x.1++[61,34]++qS x.2).map pdOfByte)] [(k4,.cells ((lbP x).map .p) false)]) ?_ ?_
   ·refine gM fun K F=>?_;simp only[go_sem,hF,g4];refine call218 (bb:=s1.nx) (L1:=[]) (L2:=[]) (M:=[(k4,.cells ((lbP x).map .p) false)]) (W0:=W++x.1++[61,34]) (t:=x.2) oV (by simp only[St.nx_adv];omega) kO (by simp;omega) fun xc' s3 hs hnx=>?_;simp only[go_sem,hF];apply F;clear F K
    exact⟨rfl,xc',rfl,by simp only[go_sem,hF],hs⟩
   clear hF ho e s1 xc g4
   rintro⟨e,ds,s1⟩ ⟨xc,rfl,hF,ho⟩
   simp only[Fs] at hF ho;refine gM fun K F=>?_;simp only[go_sem,hF];refine OA.appB (L1:=[]) (L2:=[]) (M:=[(k4,.cells ((lbP x).map .p) false)]) (W:=W++x.1++[61,34]++qS x.2) (ys:=[34]) ?_ (Nat.le_refl _) (by simp;omega) (by simp only[go_sem];try rfl) fun xc' s3 hs hnx=>?_
   ·exact by(try simp only[gI]);repeat (first | exact oM ho | refine oN ?_ | refine oP ?_ | refine oA ?_)
   simp only[go_sem,hF];apply F;clear F K;simp only[St.nx_put,St.nx_adv] at hnx;apply gR kX
   rw[← hst] at hs
   exact⟨l.length-(i+1),kO,i+1,xc',rfl,kO,rfl,by simp only[go_sem,hF],OA.mono (hs.sub (List.Sublist.refl _) (List.nil_sublist _)).adv (by simp only[St.nx_adv];omega)⟩
  ·have hil:i=l.length:=by have:=of_decide_eq_false hc;omega
   subst hil;exact Wc.exit ⟨xc,rfl,by simp only[go_sem,hF],oZ⟩
 clear hF ho e s1 xc
 rintro⟨e,ds,s1⟩ ⟨xc,rfl,hF,ho⟩
 simp only[Fs] at hF ho
 have hGl:=hG l.length
 refine Wc.seqA (fun y=>∃ xc,y.ds=[]∧Fs y.e 40 [(3,.v (.c xc))]∧OA y.s.nx y.s [(1,.v (.c xc),(fmtG l l.length++[125]).length,(fmtG l l.length++[125]).map pdOfByte)] []) ?_ ?_
 ·refine gM fun K F=>?_;simp only[go_sem,hF];refine OA.appB (L1:=[]) (L2:=[]) (M:=[]) (W:=fmtG l l.length) (ys:=[125]) ?_ (Nat.le_refl _) (by simp;omega) (by simp only[go_sem];try rfl) fun xc' s3 hs hnx=>?_
  ·exact by(try simp only[gI]);repeat (first | exact oM ho | refine oN ?_ | refine oP ?_ | refine oA ?_)
  simp only[go_sem,hF];apply F;clear F K;simp only[St.nx_put,St.nx_adv] at hnx
  exact⟨rfl,xc',rfl,by simp only[go_sem,hF],OA.mono hs (by dsimp only;omega)⟩
 clear hF ho e s1 xc
 rintro⟨e,ds,s1⟩ ⟨xc,rfl,hF,ho⟩
 simp only[Fs] at hF ho
 have hpu:=(ho.own _ (List.mem_cons_self ..)).purS
 have hlo:=(ho.own _ (List.mem_cons_self ..)).lo
 apply gS (by simp only[go_sem,hF,hlo,allM_bytes];rfl);exact wr (gV [.tmp 2] [.c (.p (.str (fmtG l l.length++[125])))] kF)
def okX (x:Exm):Bool:=bif (lckA x.lb != 0) || decide (1000<((fmtL x.lb).length:Int)) then false else bif !btw x.t 1 1099511627776 || (decide (x.v < -1099511627776) || decide (1099511627776<x.v)) then false else decide (1024≤x.tr)&&(decide (x.tr / 1024≤1099511627776)&&(decide (1≤x.sp)&&decide (x.sp≤1152921504606846976)))
structure Exm.Sz (x:Exm):Prop where
 lb:x.lb.length<2^40
 ls:∀ y∈x.lb,y.1.length<2^50∧y.2.length<2^50
 bl:Lbs x.lb
 tr : -2^63≤x.tr∧x.tr<2^63
theorem pf88 (x:Exm)(z:x.Sz):Pf E0 88 [.agg (x.pd.map .p)] (P' (.bool (okX x))):=by
 generalize hR:okX x=R;unfold okX at hR
 have p1:=pf134 x.lb z.lb z.ls
 have p2:=pf146 x.lb z.bl
 have p3:=pf144 x.t
 have hz:=z.tr
 refine gQ (fn:=Tryz.f88) ?_;simp only[gL,Tryz.ntmps88,Nat.reduceSub,Nat.reduceAdd];refine gY ?_;refine gO ?_;generalize lckA x.lb=L at *;generalize fmtL x.lb=T at *;cases k1:(L != 0) with
 |true =>
  simp only[k1,gC] at hR;subst hR;refine gM fun K F=>?_;simp only[go_sem];refine gP p1 ?_;simp only[go_sem,k1];apply F;clear F K;apply gT (by simp only[go_sem,k1]);refine gY ?_;exact wr (gU [.tmp 2] [.c (.p (.bool false))])
 |false =>
 simp only[k1,gC] at hR;refine gM fun K F=>?_;simp only[go_sem];refine gP p1 ?_;simp only[go_sem,k1];refine gP p2 ?_;simp only[go_sem,k1];apply F;clear F K;cases k2:decide (1000<(T.length:Int)) with
 |true =>
  simp only[k2,gC] at hR;subst hR;apply gT (by simp only[go_sem,k2]);refine gY ?_;exact wr (gU [.tmp 2] [.c (.p (.bool false))])
 |false =>
 simp only[k2,gC] at hR;apply gF (by simp only[go_sem,k2]);refine gO ?_;cases k3:btw x.t 1 1099511627776 with
 |false =>
  simp only[k3,gC] at hR;subst hR
  rw[k3] at p3
  refine gM fun K F=>?_;simp only[go_sem];refine gP p3 ?_;simp only[go_sem,Bool.not_false];apply F;clear F K;refine gG ?_;refine gY ?_;exact wr (gU [.tmp 2] [.c (.p (.bool false))])
 |true =>
 simp only[k3,gC] at hR
 rw[k3] at p3
 cases k4:decide (x.v < -1099511627776) with
 |true =>
  simp only[k4,gC] at hR;subst hR;refine gM fun K F=>?_;simp only[go_sem];refine gP p3 ?_;simp only[go_sem,Bool.not_true,k4];apply F;clear F K;apply gT (by simp only[go_sem,k4]);refine gY ?_;exact wr (gU [.tmp 2] [.c (.p (.bool false))])
 |false =>
 simp only[k4,gC] at hR;refine gM fun K F=>?_;simp only[go_sem];refine gP p3 ?_;simp only[go_sem,Bool.not_true,k4];apply F;clear F K;cases k5:decide (1099511627776<x.v) with
 |true =>
  simp only[k5,gC] at hR;subst hR;apply gT (by simp only[go_sem,k5]);refine gY ?_;exact wr (gU [.tmp 2] [.c (.p (.bool false))])
 |false =>
 simp only[k5,gC] at hR;apply gF (by simp only[go_sem,k5]);refine Wc.seq ?_;cases k6:decide ((1024:Int)≤x.tr) with
 |false =>
  simp only[k6,gC] at hR;subst hR;apply gR (by simp only[go_sem,k6,ge_iff_le];rfl);exact wr (gU [.tmp 2] [.c (.p (.bool false))])
 |true =>
 simp only[k6,gC] at hR
 have h6:1024≤x.tr:=of_decide_eq_true k6
 have hw:IntKind.i64.wrap (x.tr.tdiv 1024)=x.tr / 1024:=by rw[Int.tdiv_eq_ediv_of_nonneg kO,wi64];omega
 cases k7:decide (x.tr / 1024≤1099511627776) with
 |false =>
  simp only[k7,gC] at hR;subst hR;apply gR (by simp only[go_sem,k6,k7,hw,ge_iff_le];rfl);exact wr (gU [.tmp 2] [.c (.p (.bool false))])
 |true =>
 simp only[k7,gC] at hR;cases k8:decide ((1:Int)≤x.sp) with
 |false =>
  simp only[k8,gC] at hR;subst hR;apply gR (by simp only[go_sem,k6,k7,k8,hw,ge_iff_le];rfl);exact wr (gU [.tmp 2] [.c (.p (.bool false))])
 |true =>
 simp only[k8,gC] at hR;subst hR;apply gR (by simp only[go_sem,k6,k7,k8,hw,ge_iff_le];rfl);exact wr (gU [.tmp 2] [.c (.p (.bool (decide (x.sp≤1152921504606846976))))])
theorem btw_tr (t:Int):btw (t.tdiv 1024) 1 1099511627776=(decide (1024≤t)&&decide (t / 1024≤1099511627776)):=by
 unfold btw;rcases Int.le_total 0 t with h|h
 ·rw[Int.tdiv_eq_ediv_of_nonneg h]
  congr 1
  rw[decide_eq_decide];omega
 ·have h1:t.tdiv 1024≤0:=by
   have:t.tdiv 1024 = -((-t).tdiv 1024):=by rw[Int.neg_tdiv,Int.neg_neg]
   rw[this,Int.tdiv_eq_ediv_of_nonneg kO];omega
  rw[decide_eq_false (by omega:¬ (1≤t.tdiv 1024)),decide_eq_false (by omega:¬ (1024≤t)),Bool.false_and,Bool.false_and]
theorem pf116 (x:Exm)(z:x.Sz):Pf E0 116 [.agg (x.pd.map .p)] (P' (.bool (okX x))):=by
 have hO:okX x=((lckA x.lb==0)&&(decide (((fmtL x.lb).length:Int)≤1000)&&(btw x.t 1 1099511627776&&(btw x.v (-1099511627776) 1099511627776&&(btw (x.tr.tdiv 1024) 1 1099511627776&&btw x.sp 1 1152921504606846976))))):=by
  rw[btw_tr]
  have e1:decide (((fmtL x.lb).length:Int)≤1000) = !decide (1000<((fmtL x.lb).length:Int)):=by rw[← decide_not,decide_eq_decide];omega
  have e2:btw x.v (-1099511627776) 1099511627776 = !(decide (x.v < -1099511627776) || decide (1099511627776<x.v)):=by
   unfold btw
   rw[Bool.not_or,← decide_not,← decide_not]
   congr 1<;>rw[decide_eq_decide]<;>omega
  have e3:(lckA x.lb==0) = !(lckA x.lb != 0):=by simp[bne]
  rw[e1,e2,e3]
  unfold okX
  have e4:btw x.sp 1 1152921504606846976=(decide (1≤x.sp)&&decide (x.sp≤1152921504606846976)):=rfl
  rw[e4]
  cases lckA x.lb != 0<;>cases decide (1000<((fmtL x.lb).length:Int))<;>cases btw x.t 1 1099511627776<;>cases decide (x.v < -1099511627776)<;>cases decide (1099511627776<x.v)<;>simp[Bool.and_assoc]
 rw[hO]
 have p1:=pf92 x.lb z.lb z.ls
 have p2:=pf188 x.lb z.bl
 have p3:=pf180 x.t 1 1099511627776
 have p4:=pf180 x.v (-1099511627776) 1099511627776
 have p5:=pf187 x.tr z.tr
 have p6:=pf180 (x.tr.tdiv 1024) 1 1099511627776
 have p7:=pf180 x.sp 1 1152921504606846976
 clear hO;generalize lckA x.lb=L at *;generalize fmtL x.lb=T at *;generalize btw x.t 1 1099511627776=B3 at *;generalize btw x.v (-1099511627776) 1099511627776=B4 at *;generalize btw (x.tr.tdiv 1024) 1 1099511627776=B6 at *;generalize btw x.sp 1 1152921504606846976=B7 at *;refine gQ (fn:=Tryz.f116) ?_;simp only[gL,Tryz.ntmps116,Nat.reduceSub,Nat.reduceAdd];refine gY ?_;refine gN fun K F=>?_;simp only[go_sem];refine gP p5 ?_;simp only[go_sem];apply F;clear F K;refine Wc.seq ?_;cases k1:(L==0) with
 |false =>
  simp only[gC];refine gM fun K F=>?_;simp only[go_sem];refine gP p1 ?_;simp only[go_sem,k1];apply F;clear F K;exact wr (gU [.tmp 2] [.c (.p (.bool false))])
 |true =>
 simp only[gC];cases k2:decide ((T.length:Int)≤1000) with
 |false =>
  simp only[gC];refine gM fun K F=>?_;simp only[go_sem];refine gP p1 ?_;simp only[go_sem,k1];refine gP p2 ?_;simp only[go_sem,k1,k2];apply F;clear F K;exact wr (gU [.tmp 2] [.c (.p (.bool false))])
 |true =>
 simp only[gC];cases B3 with
 |false =>
  simp only[gC];refine gM fun K F=>?_;simp only[go_sem];refine gP p1 ?_;simp only[go_sem,k1];refine gP p2 ?_;simp only[go_sem,k1,k2];refine gP p3 ?_;simp only[go_sem,k1,k2];apply F;clear F K;exact wr (gU [.tmp 2] [.c (.p (.bool false))])
 |true =>
 simp only[gC];cases B4 with
 |false =>
  simp only[gC];refine gM fun K F=>?_;simp only[go_sem];refine gP p1 ?_;simp only[go_sem,k1];refine gP p2 ?_;simp only[go_sem,k1,k2];refine gP p3 ?_;simp only[go_sem,k1,k2];refine gP p4 ?_;simp only[go_sem,k1,k2];apply F;clear F K;exact wr (gU [.tmp 2] [.c (.p (.bool false))])
 |true =>
 simp only[gC];cases B6 with
 |false =>
  simp only[gC];refine gM fun K F=>?_;simp only[go_sem];refine gP p1 ?_;simp only[go_sem,k1];refine gP p2 ?_;simp only[go_sem,k1,k2];refine gP p3 ?_;simp only[go_sem,k1,k2];refine gP p4 ?_;simp only[go_sem,k1,k2];refine gP p6 ?_;simp only[go_sem,k1,k2];apply F;clear F K;exact wr (gU [.tmp 2] [.c (.p (.bool false))])
 |true =>
 simp only[gC];refine gM fun K F=>?_;simp only[go_sem];refine gP p1 ?_;simp only[go_sem,k1];refine gP p2 ?_;simp only[go_sem,k1,k2];refine gP p3 ?_;simp only[go_sem,k1,k2];refine gP p4 ?_;simp only[go_sem,k1,k2];refine gP p6 ?_;simp only[go_sem,k1,k2];refine gP p7 ?_;simp only[go_sem,k1,k2];apply F;clear F K;exact wr (gU [.tmp 2] [.c (.p (.bool B7))])
def chkPr (x:Prf):Int:=bif !btw x.t 1 1099511627776 then 2 else bif lckA x.lb != 0 then lckA x.lb else chkF x.fl
structure Prf.Sz (x:Prf):Prop where
 lb:x.lb.length<2^40
 ls:∀ y∈x.lb,y.1.length<2^50∧y.2.length<2^50
 fl:x.fl.length<2^60
def okPr (x:Prf):Bool:=chkPr x==0
theorem pf84 (x:Prf)(z:x.Sz):Pf E0 84 [.agg (x.pd.map .p)] (P' (pI (chkPr x))):=by
 generalize hR:chkPr x=R;unfold chkPr at hR
 have p1:=pf144 x.t
 have p2:=pf134 x.lb z.lb z.ls
 have p3:Xf E0 145 [.c (.p (.lst x.fl.length (x.fl.flatMap Frm.pd)))] (P' (pI (chkF x.fl))):=⟨flC,by kernel_rfl,flC_of x.fl z.fl⟩
 refine gQ (fn:=Tryz.f84) ?_;simp only[gL,Tryz.ntmps84,Nat.reduceSub,Nat.reduceAdd];refine gY ?_;refine Wc.seq ?_;refine gN fun K F=>?_;simp only[go_sem];refine gP p1 ?_;simp only[go_sem];apply F;clear F K;rcases gK (btw x.t (1:Int) (1099511627776:Int)) with w0_1|w0_1
 ·simp only[w0_1,gC] at hR;apply gX (by simp only[go_sem,w0_1]);refine Wc.skip ?_;refine Wc.seq ?_;refine gN fun K F=>?_;simp only[go_sem,w0_1];refine gP p2 ?_;simp only[go_sem,w0_1];apply F;clear F K;apply gS (by simp only[go_sem,w0_1];rfl);rcases gK (lckA x.lb !=(0:Int)) with w0_2|w0_2
  ·simp only[w0_2,gC] at hR;apply gT (by simp only[go_sem,w0_1,w0_2]);apply gS (by simp only[go_sem,w0_1,w0_2];rfl);subst hR;exact wr (gy [.tmp 2] (by simp only[go_sem,w0_1,w0_2];exact⟨_,rfl,_,rfl⟩))
  simp only[w0_2,gC] at hR;apply gX (by simp only[go_sem,w0_1,w0_2]);refine Wc.skip ?_;refine gN fun K F=>?_;simp only[go_sem,w0_1,w0_2];refine wpCall.xf (p3) rfl ?_;simp only[go_sem,w0_1,w0_2];apply F;clear F K;subst hR;exact wr (gy [.tmp 2] (by simp only[go_sem,w0_1,w0_2];exact⟨_,rfl,_,rfl⟩))
 simp only[w0_1,gC] at hR;apply gT (by simp only[go_sem,w0_1]);apply gS (by simp only[go_sem,w0_1];rfl);subst hR;exact wr (gy [.tmp 2] (by simp only[go_sem,w0_1];exact⟨_,rfl,_,rfl⟩))
theorem pf114 (x:Prf)(z:x.Sz):Pf E0 114 [.agg (x.pd.map .p)] (P' (pI (chkPr x))):=by
 generalize hR:chkPr x=R;unfold chkPr at hR
 have p1:=pf185 x.t
 have p2:=pf92 x.lb z.lb z.ls
 have p3:=pf186 x.fl z.fl
 refine gQ (fn:=Tryz.f114) ?_;simp only[gL,Tryz.ntmps114,Nat.reduceSub,Nat.reduceAdd];refine gY ?_;refine Wc.seq ?_;refine gN fun K F=>?_;simp only[go_sem];refine gP p1 ?_;simp only[go_sem];apply F;clear F K;rcases gK (btw x.t (1:Int) (1099511627776:Int)) with w1_1|w1_1
 ·simp only[w1_1,gC] at hR;apply gX (by simp only[go_sem,w1_1]);refine Wc.skip ?_;refine Wc.seq ?_;refine gN fun K F=>?_;simp only[go_sem,w1_1];refine gP p2 ?_;simp only[go_sem,w1_1];apply F;clear F K;apply gS (by simp only[go_sem,w1_1];rfl);rcases gK (lckA x.lb !=(0:Int)) with w1_2|w1_2
  ·simp only[w1_2,gC] at hR;apply gT (by simp only[go_sem,w1_1,w1_2]);apply gS (by simp only[go_sem,w1_1,w1_2];rfl);subst hR;exact wr (gy [.tmp 2] (by simp only[go_sem,w1_1,w1_2];exact⟨_,rfl,_,rfl⟩))
  simp only[w1_2,gC] at hR;apply gX (by simp only[go_sem,w1_1,w1_2]);refine Wc.skip ?_;refine gN fun K F=>?_;simp only[go_sem,w1_1,w1_2];refine gP p3 ?_;simp only[go_sem,w1_1,w1_2];apply F;clear F K;subst hR;exact wr (gy [.tmp 2] (by simp only[go_sem,w1_1,w1_2];exact⟨_,rfl,_,rfl⟩))
 simp only[w1_1,gC] at hR;apply gT (by simp only[go_sem,w1_1]);apply gS (by simp only[go_sem,w1_1];rfl);subst hR;exact wr (gy [.tmp 2] (by simp only[go_sem,w1_1];exact⟨_,rfl,_,rfl⟩))
theorem pf83 (x:Prf)(z:x.Sz):Pf E0 83 [.agg (x.pd.map .p)] (P' (.bool (okPr x))):=by
 have p:=pf84 x z
 unfold okPr;refine gQ (fn:=Tryz.f83) ?_;simp only[gL,Tryz.ntmps83,Nat.reduceSub,Nat.reduceAdd];refine gY ?_;refine gN fun K F=>?_;simp only[go_sem];refine gP p ?_;simp only[go_sem];apply F;clear F K;exact wr (gy [.tmp 2] (by simp only[go_sem];exact⟨_,rfl,_,rfl⟩))
end Go.Proofs.YtedcnhbblgmdnaaGreat.Ab
