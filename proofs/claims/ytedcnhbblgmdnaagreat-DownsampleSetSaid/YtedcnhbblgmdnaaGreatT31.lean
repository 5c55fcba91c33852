/- A part of the proof. -/
import Derived.Test.YtedcnhbblgmdnaaGreatT30
import Derived.Test.YtedcnhbblgmdnaaGreatT11
import Derived.Test.YtedcnhbblgmdnaaGreatT13
set_option maxHeartbeats 8000000
set_option maxRecDepth 10000
set_option linter.unusedSimpArgs false
set_option linter.unusedVariables false
namespace Go.Proofs.YtedcnhbblgmdnaaGreat.Ab
theorem pf145 (l:List Frm)(hl:l.length<2^60):Pf E1 145 [.c (.p (.lst l.length (l.flatMap Frm.pd)))] (P' (pI (chkF l))):=by
 have hfl:(l.flatMap Frm.pd).length=l.length*3:=flat_len (k:=3) (fun _=>rfl) l
 generalize hR:chkF l=R;unfold chkF at hR;refine gQ (fn:=Tryz.f145) ?_;simp only[gL,Tryz.ntmps145,Nat.reduceSub,Nat.reduceAdd];refine gY ?_;refine gO ?_;refine gZ ?_;cases k0:decide (2000<(l.length:Int)) with
 |true =>
  simp only[k0,gC] at hR;apply gT (by simp only[go_sem,k0]);apply gS (by simp only[go_sem,k0];rfl);subst hR;exact wr (gy [.tmp 2] (by simp only[go_sem,k0];exact⟨_,rfl,_,rfl⟩))
 |false =>
 have hl2:l.length≤2000:=by have:=of_decide_eq_false k0;omega
 simp only[k0,gC] at hR;apply gF (by simp only[go_sem,k0]);refine gY ?_
 have hS0:Stk (parF l) 0 []:=⟨trivial,rfl,fun a ha=>(by cases ha),fun k hk=>kO⟩
 refine Wc.seqR (fun y=>R=0∧y.ds=[]∧Fs y.e 98 []) ?_ ?_
 ·refine gY ?_;refine Wc.block (Wc.loop (fun k y=>∃(i:Nat) (S:List Nat) (x:C) (G:List (Nat×Ob)),k=l.length-i∧(i≤l.length∧Stk (parF l) i S∧flW l (l.length-i) i S=R)∧y.ds=[]∧Fs y.e 98 [(0,P' (.lst l.length (l.flatMap Frm.pd))),(10,P' (.lst l.length (l.flatMap Frm.pd))),(11,P' (pI l.length)),(12,P' (pI i)),(3,.v (.c x))]∧GP x S G∧OA y.s.nx y.s [] (G++[])) ?_ (k:=l.length) ⟨0,[],.nils,[],rfl,⟨kO,hS0,hR⟩,rfl,by simp only[go_sem],.inl ⟨rfl,rfl,rfl⟩,oW⟩);clear hR hS0 k0;rintro k ⟨e,ds,s1⟩ ⟨i,S,x,G,rfl,⟨hi,hS,hR⟩,rfl,hF,hx,ho⟩;simp only[Fs] at hF ho;apply gS kG;refine Wc.seq ?_;refine Wc.cond (t:=decide ((i:Int)<l.length)) kF (fun hc=>?_) (fun hc=>?_)
  ·have hil:i<l.length:=gi hc
   obtain⟨c,hcc⟩:=gE hil
   have hg:getF l i=c:=by unfold getF;rw[hcc];rfl
   have hpd:parF l i=c.d:=by unfold parF;rw[hg]
   have hSl:=hS.lt hi
   have hSn:S.length≤i:=by
    have h1:∀ T:List Nat,Chn (parF l) T→T.length≤(topP T+1).toNat:=by
     intro T
     induction T with
     |nil=>intro _;simp[topP]
     |cons a r ih =>
      intro h1
      have h3:=ih h1.2.2
      have h4:=h1.2.1
      have h5:=topP_ge r
      simp only[topP,List.length_cons];omega
    have:=h1 S hS.ch
    rw[hS.top] at this
    omega
   obtain⟨k,hk⟩:∃ k,l.length-i=k+1:=⟨l.length-i-1,kO⟩
   rw[hk,flW,hg] at hR
   have hk2:l.length-(i+1)=k:=kO
   have hN:=fun h0:nodeE l S i c=0=>nodeE_ok h0
   have hix:indexAddrD E0 104 _ _=_:=ixA ti104 rfl ti170 (j:=i) (m:=l.length) (cs:=l.flatMap Frm.pd) hil hfl kD
   have hca:=rpG (f:=Frm.pd) (k:=3) (fun _=>rfl) hcc
   have p216:=pf216' c.nm
   have p217:=pf217' c.w
   refine Wc.skip (Wc.seq (Wc.block (Wc.seqA (fun y=>∃ k5,y.ds=[]∧Fs y.e 98 [(0,P' (.lst l.length (l.flatMap Frm.pd))),(10,P' (.lst l.length (l.flatMap Frm.pd))),(11,P' (pI l.length)),(12,P' (pI i)),(4,P' (pI i)),(5,.v (.c (.ref k5 0))),(3,.v (.c x))]∧OA y.s.nx y.s [] (G++[(k5,.cells (c.pd.map .p) false)])) ?_ ?_)))
   ·apply gR (by simp only[go_sem,hF,hix,hca];rfl)
    rw[List.append_nil] at ho
    have ho2:OA s1.nx s1 [] G:=ho
    refine⟨rfl,s1.nx+4,rfl,by simp only[go_sem,hF],?_⟩
    refine OA.permM (M:=(s1.nx+4,.cells (c.pd.map .p) false)::G) ?_ (List.perm_append_comm (l₁:=[_]));exact by(try simp only[St.put_adv,St.adv_adv,St.put_put,gI]);repeat (first | exact oM ho2 | refine oN ?_ | refine oP ?_ | refine oA ?_)
   clear hF ho e s1
   rintro⟨e,ds,s1⟩ ⟨k5,rfl,hF,ho⟩
   simp only[Fs] at hF ho
   have g5:=ho.at_ (k5,.cells (c.pd.map .p) false) kS
   simp only[gm] at g5;unfold nodeE leN at hR;refine Wc.seq ?_;refine gN fun K F=>?_;simp only[go_sem,hF,g5];refine gP p216 ?_;simp only[go_sem,hF,g5];apply F;clear F K;rcases (gK (nmL c.nm)).symm with w1_1|w1_1
   ·simp only[w1_1,gC] at hR;apply gT (by simp only[go_sem,hF,g5,w1_1]);apply gS (by simp only[go_sem,hF,g5,w1_1];rfl);subst hR;exact wr (gy [.tmp 2] (by simp only[go_sem,hF,g5,w1_1];exact⟨_,rfl,_,rfl⟩))
   simp only[w1_1,gC] at hR;apply gX (by simp only[go_sem,hF,g5,w1_1]);refine Wc.skip ?_;refine Wc.seq ?_;refine gN fun K F=>?_;simp only[go_sem,hF,g5,w1_1];refine gP p217 ?_;simp only[go_sem,hF,g5,w1_1];apply F;clear F K;rcases (gK (btw c.w (-1099511627776:Int) (1099511627776:Int))).symm with w1_2|w1_2
   ·simp only[w1_2,gC] at hR;apply gT (by simp only[go_sem,hF,g5,w1_1,w1_2]);apply gS (by simp only[go_sem,hF,g5,w1_1,w1_2];rfl);subst hR;exact wr (gy [.tmp 2] (by simp only[go_sem,hF,g5,w1_1,w1_2];exact⟨_,rfl,_,rfl⟩))
   simp only[w1_2,gC] at hR;apply gX (by simp only[go_sem,hF,g5,w1_1,w1_2]);refine Wc.skip ?_;apply gS (by simp only[go_sem,hF,g5];rfl);refine Wc.seqR (fun y=>∃(S':List Nat) (z:Int) (x:C),popTo c.d S (-1)=(z,S')∧y.ds=[]∧Fs y.e 98 [(0,P' (.lst l.length (l.flatMap Frm.pd))),(10,P' (.lst l.length (l.flatMap Frm.pd))),(11,P' (pI l.length)),(12,P' (pI i)),(4,P' (pI i)),(5,.v (.c (.ref k5 0))),(3,.v (.c x)),(6,P' (pI z))]∧GP x S' G∧OA y.s.nx y.s [] (G++[(k5,.cells (c.pd.map .p) false)])) ?_ ?_
   ·refine Wc.block (Wc.loop (fun k y=>∃(S':List Nat) (z:Int) (x:C),k=S'.length∧S'.length≤2000∧popTo c.d S' z=popTo c.d S (-1)∧y.ds=[]∧Fs y.e 98 [(0,P' (.lst l.length (l.flatMap Frm.pd))),(10,P' (.lst l.length (l.flatMap Frm.pd))),(11,P' (pI l.length)),(12,P' (pI i)),(4,P' (pI i)),(5,.v (.c (.ref k5 0))),(3,.v (.c x)),(6,P' (pI z))]∧GP x S' G∧OA y.s.nx y.s [] (G++[(k5,.cells (c.pd.map .p) false)])) ?_ (k:=S.length) ⟨S,-1,x,rfl,kO,rfl,rfl,by simp only[go_sem,hF],hx,oZ⟩);clear hF ho g5 e s1 hx x;rintro k ⟨e,ds,s1⟩ ⟨S',z,x,rfl,hS'l,hpop,rfl,hF,hx,ho⟩;simp only[Fs] at hF ho
    have g5:=ho.at_ (k5,.cells (c.pd.map .p) false) kS
    simp only[gm] at g5
    have hlen:=hx.len
    refine gO ?_;cases S' with
    |nil =>
     simp only[List.length_nil] at hlen;refine Wc.regT fun K F=>?_;simp only[go_sem,hF,hlen];refine⟨by rw[trOK_eq3];rfl,F _ _ ?_⟩;clear F K;apply gX kF;exact Wc.exit ⟨[],z,x,hpop.symm,rfl,by simp only[go_sem,hF],hx,oZ⟩
    |cons a r =>
     have hl1:(((a::r).length:Nat):Int)=(r.length:Int)+1:=by simp
     rw[hl1] at hlen
     have hpos:(0<(r.length:Int)+1)=True:=by rw[eq_iff_iff];exact⟨fun _=>trivial,fun _=>kO⟩
     have w1:IntKind.i64.wrap ((r.length:Int)+1-1)=(r.length:Int):=by rw[Int.add_sub_cancel,wi64];simp only[List.length_cons] at hS'l;omega
     obtain⟨q,id,ad,rest,rfl,hia,hce,hx'⟩:=hx.top ho
     refine Wc.regT fun K F=>?_;simp only[go_sem,hF,g5,hlen,hpos,w1,hia,hce];refine⟨by rw[trOK_eq3];rfl,F _ _ ?_⟩;clear F K;refine Wc.cond (t:=(a:Int) != c.d) kF (fun hc=>?_) (fun hc=>?_)
     ·have hne:(a:Int)≠c.d:=by simpa using hc
      refine Wc.skip (Wc.block ?_);apply gS (by simp only[go_sem,hF,hlen,w1,hia,hce,St.adv_adv];rfl)
      have hle:((r.length:Int)≤((r.length+1:Nat):Int))=True:=by rw[eq_iff_iff];exact⟨fun _=>trivial,fun _=>kO⟩
      have hsel:(if 0<r.length then some (D.v (V.c (C.gs q id 0 r.length 1))) else if 0<r.length+1 then some (D.v (V.c (C.gs q id 0 0 1))) else some (D.v (V.c (C.p (Pd.lst 0 [])))))=some (D.v (V.c (C.gs q id 0 r.length 1))):=by
       by_cases h5:0<r.length
       ·rw[if_pos h5]
       ·have h6:r.length=0:=kO
        simp[h6]
      apply gR (by simp only[go_sem,hF,hlen,w1,hle,Option.isSome_none,Nat.sub_zero,hsel];rfl)
      refine⟨r.length,by simp,r,a,.gs q id 0 r.length 1,rfl,by simp only[List.length_cons] at hS'l;omega,?_,rfl,by simp only[go_sem,hF],hx',oZ⟩
      rw[← hpop,popTo,if_neg hne]
     ·have he:(a:Int)=c.d:=by simpa using hc
      refine Wc.exit ⟨a::r,z,_,?_,rfl,by simp only[go_sem,hF],hx,oZ⟩
      rw[← hpop,popTo,if_pos he]
   clear hF ho g5 e s1 hx x
   rintro⟨e,ds,s1⟩ ⟨S',z,x,hpop,rfl,hF,hx,ho⟩
   simp only[Fs] at hF ho
   have g5:=ho.at_ (k5,.cells (c.pd.map .p) false) kS
   simp only[gm] at g5
   have hlen:=hx.len
   have hS'l:S'.length≤S.length:=by
    have h1:∀(T:List Nat) (z:Int),(popTo c.d T z).2.length≤T.length:=by
     intro T
     induction T with
     |nil=>intro z;simp[popTo]
     | cons a r ih => intro z; rw [popTo]; split; · simp
                      ·have := ih a; simp only [List.length_cons]; omega
    have:=h1 S (-1)
    rw[hpop] at this
    exact this
   have hE:((S'.length:Int)==0)=S'.isEmpty:=by cases S'<;>simp<;>omega
   have hsib:((popTo c.d S (-1)).2≠[]∨c.d = -1)→z = -1∨∃ b:Nat,z=b∧b<l.length:=fun hok=>by
    have hps:=pop_sib (t:=c.d) (-1) _ hS.ch hS.sub rfl hok (ok_ge hok)
    rw[hpop] at hps
    rcases hps with ⟨h1,_⟩|⟨b,h1,h2,_⟩
    ·cases h1;exact .inl rfl
    ·exact .inr ⟨b,h1,hSl b h2⟩
   have hnx:(popTo c.d S (-1)).2≠[]∨c.d = -1→Stk (parF l) (i+1) (i::S'):=fun hok=>by
    have h1:=hS.next (z:=-1) (by rw[hpd];exact ok_ge hok) (by rw[hpd];exact hok)
    rw[hpd,hpop] at h1
    exact h1
   rw[hpop] at hR hsib hnx
   dsimp only at hR hsib hnx;refine gO ?_;cases hok:S'.isEmpty&&(c.d != -1) with
   |true =>
    simp only[hok,gC] at hR
    rw[Bool.and_eq_true] at hok
    apply gR (by simp only[go_sem,hF,g5,hlen,hE,hok.1,hok.2];rfl);apply gT (by simp only[go_sem,hF,g5,hlen,hE,hok.1,hok.2]);apply gS (by simp only[go_sem,hF,g5,hlen,hE,hok.1,hok.2];rfl);subst hR;exact wr (gy [.tmp 2] (by simp only[go_sem,hF,g5,hlen,hE,hok.1,hok.2];exact⟨_,rfl,_,rfl⟩))
   |false =>
   simp only[hok,gC] at hR
   have hok2:S'≠[]∨c.d = -1:=by
    rw[Bool.and_eq_false_iff] at hok
    rcases hok with h|h
    ·exact .inl fun e=>by rw[e] at h;cases h
    ·exact .inr (by simpa using h)
   have hnx2:=hnx hok2
   clear hnx;refine Wc.cutR (fun y=>y.ds=[]∧Fs y.e 98 [(0,P' (.lst l.length (l.flatMap Frm.pd))),(10,P' (.lst l.length (l.flatMap Frm.pd))),(11,P' (pI l.length)),(12,P' (pI i)),(4,P' (pI i)),(5,.v (.c (.ref k5 0))),(3,.v (.c x)),(6,P' (pI z)),(57,P' (.bool false))]∧OA y.s.nx y.s [] (G++[(k5,.cells (c.pd.map .p) false)])) ?_ ?_
   ·cases h1:S'.isEmpty with
    |false =>
     apply gR (by simp only[go_sem,hF,g5,hlen,hE,h1];rfl)
     exact⟨rfl,by simp only[go_sem,hF],oZ⟩
    |true =>
     have h2:(c.d != -1)=false:=by rw[h1,Bool.true_and] at hok;exact hok
     apply gR (by simp only[go_sem,hF,g5,hlen,hE,h1,h2];rfl)
     exact⟨rfl,by simp only[go_sem,hF],oZ⟩
   clear hF ho g5 e s1
   rintro⟨e,ds,s1⟩ ⟨rfl,hF,ho⟩
   simp only[Fs] at hF ho
   have g5:=ho.at_ (k5,.cells (c.pd.map .p) false) kS
   simp only[gm] at g5;apply gX kF;refine Wc.skip ?_;refine Wc.seqR (fun y=>(bif (bif decide (63<(S'.length:Int)) then (30:Int) else bif (c.w==0)&&(((i:Int)+1==(l.length:Int)) || ((getF l (i+1)).d !=(i:Int))) then (1:Int) else 0) != 0 then (bif decide (63<(S'.length:Int)) then (30:Int) else bif (c.w==0)&&(((i:Int)+1==(l.length:Int)) || ((getF l (i+1)).d !=(i:Int))) then (1:Int) else 0) else flW l k (i+1) (i::S'))=R∧y.ds=[]∧Fs y.e 98 [(0,P' (.lst l.length (l.flatMap Frm.pd))),(10,P' (.lst l.length (l.flatMap Frm.pd))),(11,P' (pI l.length)),(12,P' (pI i)),(4,P' (pI i)),(5,.v (.c (.ref k5 0))),(3,.v (.c x))]∧OA y.s.nx y.s [] (G++[(k5,.cells (c.pd.map .p) false)])) ?_ ?_
   ·rcases hsib hok2 with rfl|⟨b,rfl,hb⟩
    ·simp only[(by decide:decide ((0:Int)≤-1)=false),gC] at hR;refine Wc.seq ?_;refine Wc.regD fun K F=>?_;simp only[go_sem,hF,g5];apply F;clear F K;apply gX (by simp only[go_sem,hF,g5]);refine Wc.skip ?_
     exact⟨hR,rfl,by simp only[go_sem,hF],oZ⟩
    ·obtain⟨cb,hcb⟩:∃ c',l[b]? = some c':=⟨l[b],List.getElem?_eq_getElem hb⟩
     have hgb:getF l b=cb:=by unfold getF;rw[hcb];rfl
     have hixb:=ixA ti104 rfl ti170 (j:=b) (m:=l.length) (cs:=l.flatMap Frm.pd) hb hfl kD
     have hcab:=rpGo (f:=Frm.pd) (k:=3) (o:=1) (fun _=>rfl) hcb kD
     simp only[Frm.pd,List.drop_succ_cons,List.drop_zero] at hcab;simp only[Int.natCast_nonneg,decide_true,Int.toNat_natCast,hgb,gC] at hR;generalize hLE:(Op.bytesLess c.nm cb.nm || c.nm==cb.nm)=LE at hR;refine Wc.seq ?_;refine Wc.regD fun K F=>?_;simp only[go_sem,hF,g5,hixb,hcab,hLE];apply F;clear F K;rcases gK (LE) with w6_1|w6_1
     ·simp only[w6_1,gC] at hR;apply gT (by simp only[go_sem,hF,g5,hixb,hcab,hLE,w6_1]);apply gS (by simp only[go_sem,hF,g5,hixb,hcab,hLE,w6_1];rfl);subst hR;exact wr (gy [.tmp 2] (by simp only[go_sem,hF,g5,hixb,hcab,hLE,w6_1];exact⟨_,rfl,_,rfl⟩))
     simp only[w6_1,gC] at hR;apply gX (by simp only[go_sem,hF,g5,hixb,hcab,hLE,w6_1]);refine Wc.skip ?_
     exact⟨hR,rfl,by simp only[go_sem,hF],oZ⟩
   clear hF ho g5 e s1 hR
   rintro⟨e,ds,s1⟩ ⟨hR,rfl,hF,ho⟩
   simp only[Fs] at hF ho
   have g5:=ho.at_ (k5,.cells (c.pd.map .p) false) kS
   simp only[gm] at g5;refine Wc.seq ?_;apply gS (by simp only[go_sem,hF,hlen];rfl);rcases gK (decide ((63:Int)<(↑S'.length:Int))) with w7_1|w7_1
   ·simp only[w7_1,gC] at hR;apply gT (by simp only[go_sem,hF,hlen,w7_1]);apply gS (by simp only[go_sem,hF,hlen,w7_1];rfl);subst hR;exact wr (gy [.tmp 2] (by simp only[go_sem,hF,hlen,w7_1];exact⟨_,rfl,_,rfl⟩))
   simp only[w7_1,gC] at hR;apply gX (by simp only[go_sem,hF,hlen,w7_1]);refine Wc.skip ?_;refine Wc.seqR (fun y=>flW l k (i+1) (i::S')=R∧y.ds=[]∧Fs y.e 98 [(0,P' (.lst l.length (l.flatMap Frm.pd))),(10,P' (.lst l.length (l.flatMap Frm.pd))),(11,P' (pI l.length)),(12,P' (pI i)),(4,P' (pI i)),(5,.v (.c (.ref k5 0))),(3,.v (.c x))]∧OA y.s.nx y.s [] (G++[(k5,.cells (c.pd.map .p) false)])) ?_ ?_
   ·have w2:IntKind.i64.wrap ((i:Int)+1)=(i:Int)+1:=by rw[wi64];omega
    by_cases hk:i+1=l.length
    ·have e1:((i:Int)+1==(l.length:Int))=true:=by rw[beq_iff_eq];omega
     simp only[e1,gC] at hR;refine Wc.seq ?_;rcases gK (c.w==(0:Int)) with w8_1|w8_1
     ·simp only[w8_1,gC] at hR;apply gR (by simp only[go_sem,hF,g5,w2,e1,w8_1];rfl);apply gT (by simp only[go_sem,hF,g5,w2,e1,w8_1]);apply gS (by simp only[go_sem,hF,g5,w2,e1,w8_1];rfl);subst hR;exact wr (gy [.tmp 2] (by simp only[go_sem,hF,g5,w2,e1,w8_1];exact⟨_,rfl,_,rfl⟩))
     simp only[w8_1,gC] at hR;apply gR (by simp only[go_sem,hF,g5,w2,e1,w8_1];rfl);apply gX (by simp only[go_sem,hF,g5,w2,e1,w8_1]);refine Wc.skip ?_
     exact⟨hR,rfl,by simp only[go_sem,hF],oZ⟩
    ·have e1:((i:Int)+1==(l.length:Int))=false:=by rw[beq_eq_false_iff_ne];omega
     obtain⟨c',hc'⟩:∃ c',l[i+1]? = some c':=⟨l[i+1],List.getElem?_eq_getElem kO⟩
     have hg':getF l (i+1)=c':=by unfold getF;rw[hc'];rfl
     have hix2:=ixA ti104 rfl ti170 (j:=i+1) (m:=l.length) (cs:=l.flatMap Frm.pd) kO hfl kD
     have e2:((i+1:Nat):Int)=(i:Int)+1:=kO
     rw[e2] at hix2
     have hca2:=rpG (f:=Frm.pd) (k:=3) (fun _=>rfl) hc'
     simp only[e1,hg',gC] at hR;generalize hDI:(c'.d !=(i:Int))=DI at hR;refine Wc.seq ?_;rcases gK (c.w==(0:Int)) with w9_1|w9_1
     ·simp only[w9_1,gC] at hR;apply gR (by simp only[go_sem,hF,g5,w2,e1,hix2,hca2,hDI,w9_1];rfl);rcases gK (DI) with w9_2|w9_2
      ·simp only[w9_2,gC] at hR;apply gT (by simp only[go_sem,hF,g5,w2,e1,hix2,hca2,hDI,w9_1,w9_2]);apply gS (by simp only[go_sem,hF,g5,w2,e1,hix2,hca2,hDI,w9_1,w9_2];rfl);subst hR;exact wr (gy [.tmp 2] (by simp only[go_sem,hF,g5,w2,e1,hix2,hca2,hDI,w9_1,w9_2];exact⟨_,rfl,_,rfl⟩))
      simp only[w9_2,gC] at hR;apply gX (by simp only[go_sem,hF,g5,w2,e1,hix2,hca2,hDI,w9_1,w9_2]);refine Wc.skip ?_
      exact⟨hR,rfl,by simp only[go_sem,hF],oZ⟩
     simp only[w9_1,gC] at hR;apply gR (by simp only[go_sem,hF,g5,w2,e1,hix2,hca2,hDI,w9_1];rfl);apply gX (by simp only[go_sem,hF,g5,w2,e1,hix2,hca2,hDI,w9_1]);refine Wc.skip ?_
     exact⟨hR,rfl,by simp only[go_sem,hF],oZ⟩
   clear hF ho g5 e s1 hR
   rintro⟨e,ds,s1⟩ ⟨hR,rfl,hF,ho⟩
   simp only[Fs] at hF ho;refine gM fun K F=>?_;simp only[go_sem,hF];refine GP.push (L:=[]) (M:=[(k5,.cells (c.pd.map .p) false)]) hx ?_ (Nat.le_refl _) kO fun x' G' s' hs hp hnx=>?_
   ·exact by(try simp only[St.put_adv,St.adv_adv,St.put_put,gI]);repeat (first | exact oM ho | refine oN ?_ | refine oP ?_ | refine oA ?_)
   clear hx;simp only[St.nx_put,St.nx_adv] at hnx
   have hs2:OA (s1.nx+3+1) s' [] (G' ++ []):=hs.sub (List.Sublist.refl _) (List.Sublist.append (List.Sublist.refl _) (List.nil_sublist _))
   simp only[go_sem,hF];apply F;clear F K;apply gR kX
   exact⟨l.length-(i+1),kO,i+1,i::S',x',G',rfl,⟨kO,hnx2,by rw[hk2];exact hR⟩,rfl,by simp only[go_sem,hF],hp,by first | exact hs2.adv.mono (by simp only[St.nx_adv];omega) | exact hs2.mono kO⟩
  ·have hil:i=l.length:=by have:=of_decide_eq_false hc;omega
   rw[hil,Nat.sub_self,flW] at hR
   exact Wc.exit ⟨hR.symm,rfl,by simp only[go_sem,hF]⟩
 rintro⟨e,ds,s1⟩ ⟨rfl,rfl,hF⟩
 simp only[Fs] at hF;apply gS kG;exact wr (gy [.tmp 2] (by simp only[go_sem,hF];exact⟨_,rfl,_,rfl⟩))
end Go.Proofs.YtedcnhbblgmdnaaGreat.Ab
/- The environment of the seat is sound. -/
namespace Go.Proofs.YtedcnhbblgmdnaaGreat.Ab
theorem eqs_ok (t:Nat)(ht:t∈[94,39,117,205,41]):EqOK Tryz.prog t:=by
 simp only[List.mem_cons,List.mem_nil_iff,or_false] at ht;rcases ht with rfl|rfl|rfl|rfl|rfl
 ·exact eq94
 ·exact eq39
 ·exact eq117
 ·exact eq205
 ·exact eq41
theorem bld1_ok (g:Nat)(h:List V→St→Option (D×St))(hx:bld1 g=some h):XtOK Tryz.prog g h:=by
 unfold bld1 at hx
 split at hx
 ·rename_i e;subst e;cases hx;exact bldK_ok
 ·split at hx
  ·rename_i e;subst e;cases hx;exact bldS_ok
  ·split at hx
   ·rename_i e;subst e;cases hx;exact conL_ok
   ·cases hx
theorem E1_ok:EnvOK Tryz.prog E1:=mkEnv_ok kR eqs_ok bld1_ok
theorem XtOK.ofPf {P:Program}{E:Env}{g:Nat}{h:List V→St→Option (D×St)}(hE:EnvOK P E)(hx:E.xt g=none)(ho:E.opn g=false)
  (hh:∀ args s d s',h args s=some (d,s')→s'=s∧∃ a0,purVs s args=some (a0,s)∧Pf E g a0 d):XtOK P g h where
 free args s d s' h1:=by
  obtain⟨rfl,_⟩:=hh _ _ _ _ h1
  exact⟨Nat.le_refl _,fun k _ hn=>hn⟩
 calls args s d s' X G W vargs hI ha h1:=by
  obtain⟨rfl,a0,hp,hpf⟩:=hh _ _ _ _ h1
  obtain⟨n,hn⟩:=Ev.f hx ho hp hpf
  exact(runF_ok hE n).calls g args _ d _ X G W vargs hI ha (.inl hn)
theorem flC_ok:XtOK Tryz.prog 145 flC:=by
 refine XtOK.ofPf E1_ok kR kR fun args s d s' h=>?_;unfold flC at h
 split at h
 ·rename_i n cs
  split at h
  ·rename_i l hl
   split at h
   ·rename_i hc
    obtain⟨rfl,h2⟩:=hc
    cases h
    rw[pdFrm_eq hl]
    exact⟨rfl,_,rfl,pf145 l h2⟩
   ·cases h
  ·cases h
 ·cases h
theorem E0_ok:EnvOK Tryz.prog E0:=by
 refine mkEnv_ok kR eqs_ok (fun g h hx=>?_);unfold bld at hx
 split at hx
 ·rename_i e;subst e;cases hx;exact flC_ok
 ·exact bld1_ok g h hx
end Go.Proofs.YtedcnhbblgmdnaaGreat.Ab
