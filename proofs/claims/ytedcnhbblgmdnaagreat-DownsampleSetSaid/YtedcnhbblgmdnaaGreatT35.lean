/- A part of the proof. -/
import Derived.Test.YtedcnhbblgmdnaaGreatT34
import Derived.Test.YtedcnhbblgmdnaaGreatT30
set_option maxHeartbeats 8000000
set_option maxRecDepth 10000
set_option linter.unusedSimpArgs false
set_option linter.unusedVariables false
namespace Go.Proofs.YtedcnhbblgmdnaaGreat.Ab
def okC {A:Type}(ok:A→Bool)(x:A):Int:=bif ok x then 0 else 1
def chkL {A:Type}(ok:A→Bool)(cmp:A→A→Int)(l:List A):Int:=bif decide (1000<(l.length:Int)) then 4 else lstR (okC ok) cmp none l
theorem o73:E0.opn 73=false:=by kernel_rfl
theorem x73:E0.xt 73=none:=by kernel_rfl
theorem pf71g (l:List Ser)(hl:l.length<2^60)(hz:∀ c∈l,Ser.Sz c):Pf E0 71 [.c (.p (.lst l.length (l.flatMap Ser.pd))),.c (.p (pI 1000)),.c (.p (.fnc 72)),.c (.p (.fnc 73))] (P' (pI (chkL serOK cmpSr l))):=by
 have hfl:(l.flatMap Ser.pd).length=l.length*4:=flat_len (k:=4) (fun _=>rfl) l
 generalize hR:chkL serOK cmpSr l=R;unfold chkL at hR;refine gQ (fn:=Tryz.f71) ?_;simp only[gL,Tryz.ntmps71,Nat.reduceSub,Nat.reduceAdd];refine gY ?_;refine gO ?_;refine gZ ?_;cases k0:decide (1000<(l.length:Int)) with
 |true =>
  simp only[k0,gC] at hR;subst hR;apply gT (by simp only[go_sem,k0]);refine gY ?_;exact wr (gU [.tmp 8] [.c (.p (pI 4))])
 |false =>
 simp only[k0,gC] at hR;apply gF (by simp only[go_sem,k0])
 have hR0:lstR (okC serOK) cmpSr (prevG l 0) (l.drop 0)=R:=hR
 clear hR k0;refine Wc.seqR (fun y=>R=0∧y.ds=[]∧Fs y.e 40 []) ?_ ?_
 ·refine gY ?_;refine Wc.block (Wc.loop (fun k y=>∃ i:Nat,k=l.length-i∧(i≤l.length∧lstR (okC serOK) cmpSr (prevG l i) (l.drop i)=R)∧y.ds=[]∧Fs y.e 40 [(0,P' (.lst l.length (l.flatMap Ser.pd))),(2,P' (.fnc 72)),(3,P' (.fnc 73)),(15,P' (.lst l.length (l.flatMap Ser.pd))),(16,P' (pI l.length)),(17,P' (pI i))]∧OA y.s.nx y.s [] []) ?_ (k:=l.length) ⟨0,rfl,⟨kO,hR0⟩,rfl,by simp only[go_sem],oW⟩);clear hR0;rintro k ⟨e,ds,s1⟩ ⟨i,rfl,⟨hi,hR⟩,rfl,hF,ho⟩;simp only[Fs] at hF ho;apply gS kG;refine Wc.seq ?_;refine Wc.cond (t:=decide ((i:Int)<l.length)) kF (fun hc=>?_) (fun hc=>?_)
  ·have hil:i<l.length:=gi hc
   obtain⟨c,hcc⟩:=gE hil
   have zc:=hz c (gw hcc)
   rw[lstR_step hcc] at hR
   have hix:=ixA ti52 rfl ti26 (j:=i) (m:=l.length) (cs:=l.flatMap Ser.pd) hil hfl kD
   have hca:=rpG (f:=Ser.pd) (k:=4) (fun _=>rfl) hcc
   have pv:=(show Pf E0 72 [.agg ((Ser.pd c).map .p)] (P' (.bool (serOK c))) from pf72 c zc)
   refine Wc.skip (Wc.seq (Wc.block (Wc.seqA (fun y=>∃ k4,y.ds=[]∧Fs y.e 40 [(0,P' (.lst l.length (l.flatMap Ser.pd))),(2,P' (.fnc 72)),(3,P' (.fnc 73)),(15,P' (.lst l.length (l.flatMap Ser.pd))),(16,P' (pI l.length)),(17,P' (pI i)),(9,P' (pI i)),(10,.v (.c (.ref k4 0)))]∧OA y.s.nx y.s [] [(k4,.cells ((Ser.pd c).map .p) false)]) ?_ ?_)))
   ·apply gR (by simp only[go_sem,hF,hix,hca];rfl)
    exact⟨rfl,s1.nx+4,rfl,by simp only[go_sem,hF],by(try simp only[St.put_adv,St.adv_adv,St.put_put,gI]);repeat (first | exact oM ho | refine oN ?_ | refine oP ?_ | refine oA ?_)⟩
   clear hF ho e s1
   rintro⟨e,ds,s1⟩ ⟨k4,rfl,hF,ho⟩
   simp only[Fs] at hF ho
   have g4:=ho.at_ (k4,.cells ((Ser.pd c).map .p) false) kS
   simp only[gm] at g4;refine gO ?_;refine gM fun K F=>?_;simp only[go_sem,hF,g4];refine gP pv ?_;cases hok:(serOK) c with
   |false =>
    have hk:okC serOK c=1:=by unfold okC;rw[hok];rfl
    simp only[hk,b10,gC] at hR;subst hR;simp only[go_sem,hF,Bool.not_false];apply F;clear F K;apply gT kF;apply gS kG;exact wr (gV [.tmp 8] [.c (.p (pI 1))] kF)
   |true =>
   have hk:okC serOK c=0:=by unfold okC;rw[hok];rfl
   simp only[hk,b00,gC] at hR;simp only[go_sem,hF,Bool.not_true];apply F;clear F K;apply gF kF;refine Wc.cutR (fun y=>lstR (okC serOK) cmpSr (prevG l (i+1)) (l.drop (i+1))=R∧y.ds=[]∧Fs y.e 40 [(0,P' (.lst l.length (l.flatMap Ser.pd))),(2,P' (.fnc 72)),(3,P' (.fnc 73)),(15,P' (.lst l.length (l.flatMap Ser.pd))),(16,P' (pI l.length)),(17,P' (pI i))]∧OA y.s.nx y.s [] []) ?_ ?_
   ·by_cases h0:i=0
    ·have hh:((0:Int)<(i:Int))=False:=by simp;omega
     have hd:decide (0<i)=false:=by simp;omega
     simp only[hd,gC] at hR;refine Wc.seq ?_;refine Wc.regT fun K F=>?_;simp only[go_sem,hF,hh];refine⟨by rw[trOK_eq3];rfl,F _ _ ?_⟩;clear F K;apply gF kF
     exact⟨hR,rfl,by simp only[go_sem,hF],by(try simp only[gI]);repeat (first | exact oM (ho.sub (List.Sublist.refl _) (List.nil_sublist _)) | refine oN ?_ | refine oA ?_)⟩
    ·have hh:((0:Int)<(i:Int))=True:=by simp;omega
     have hd:decide (0<i)=true:=by simp;omega
     obtain⟨q,hq⟩:∃ q,l[i-1]? = some q:=⟨l[i-1],List.getElem?_eq_getElem kO⟩
     have zq:=hz q (gw hq)
     have w1:IntKind.i64.wrap ((i:Int)-1)=((i-1:Nat):Int):=by rw[wi64];omega
     have hiq:=ixA ti52 rfl ti26 (j:=i-1) (m:=l.length) (cs:=l.flatMap Ser.pd) kO hfl kD
     have hcq:=rpG (f:=Ser.pd) (k:=4) (fun _=>rfl) hq
     have pc:=pf73 q c (by have:=zq.lb;omega) (by have:=zc.lb;omega)
     have hcp:cmpG cmpSr (l[i-1]?) c=(cmpSr) q c:=by rw[hq];rfl
     rw[hcp] at hR
     generalize (cmpSr) q c=V2 at hR pc;simp only[hd,gC] at hR;refine Wc.seq ?_;refine Wc.regT fun K F=>?_;simp only[go_sem,hF,hh,g4,w1,hiq,hcq];refine gP pc ?_;simp only[go_sem,hF,o73,x73];refine⟨by rw[trOK_eq3];rfl,F _ _ ?_⟩;clear F K;refine Wc.cond (t:=decide (0≤V2)) kF (fun hc=>?_) (fun hc=>?_)
     ·simp only[hc,gC] at hR;subst hR;apply gS kG;exact wr (gV [.tmp 8] [.c (.p (pI 9))] kF)
     simp only[hc,gC] at hR;exact Wc.skip ⟨hR,rfl,by simp only[go_sem,hF],by(try simp only[gI]);repeat (first | exact oM (ho.sub (List.Sublist.refl _) (List.nil_sublist _)) | refine oN ?_ | refine oA ?_)⟩
   clear hF ho g4 e s1 hR
   rintro⟨e,ds,s1⟩ ⟨hR,rfl,hF,ho⟩
   simp only[Fs] at hF ho;apply gR kX
   exact⟨l.length-(i+1),kO,i+1,rfl,⟨kO,hR⟩,rfl,by simp only[go_sem,hF],oZ⟩
  ·have hil:i=l.length:=by have:=of_decide_eq_false hc;omega
   rw[hil,List.drop_length,lstR_nil] at hR
   exact Wc.exit ⟨hR.symm,rfl,by simp only[go_sem,hF]⟩
 rintro⟨e,ds,s1⟩ ⟨rfl,rfl,hF⟩
 simp only[Fs] at hF;apply gS kG;exact wr (gV [.tmp 8] [.c (.p (pI 0))] kF)
theorem o77:E0.opn 77=false:=by kernel_rfl
theorem x77:E0.xt 77=none:=by kernel_rfl
theorem pf76g (l:List Ent)(hl:l.length<2^60)(hz:∀ c∈l,Ent.Sz c):Pf E0 76 [.c (.p (.lst l.length (l.flatMap Ent.pd))),.c (.p (pI 1000)),.c (.p (.fnc 74)),.c (.p (.fnc 77))] (P' (pI (chkL okE cmpE l))):=by
 have hfl:(l.flatMap Ent.pd).length=l.length*5:=flat_len (k:=5) (fun _=>rfl) l
 generalize hR:chkL okE cmpE l=R;unfold chkL at hR;refine gQ (fn:=Tryz.f76) ?_;simp only[gL,Tryz.ntmps76,Nat.reduceSub,Nat.reduceAdd];refine gY ?_;refine gO ?_;refine gZ ?_;cases k0:decide (1000<(l.length:Int)) with
 |true =>
  simp only[k0,gC] at hR;subst hR;apply gT (by simp only[go_sem,k0]);refine gY ?_;exact wr (gU [.tmp 8] [.c (.p (pI 4))])
 |false =>
 simp only[k0,gC] at hR;apply gF (by simp only[go_sem,k0])
 have hR0:lstR (okC okE) cmpE (prevG l 0) (l.drop 0)=R:=hR
 clear hR k0;refine Wc.seqR (fun y=>R=0∧y.ds=[]∧Fs y.e 40 []) ?_ ?_
 ·refine gY ?_;refine Wc.block (Wc.loop (fun k y=>∃ i:Nat,k=l.length-i∧(i≤l.length∧lstR (okC okE) cmpE (prevG l i) (l.drop i)=R)∧y.ds=[]∧Fs y.e 40 [(0,P' (.lst l.length (l.flatMap Ent.pd))),(2,P' (.fnc 74)),(3,P' (.fnc 77)),(15,P' (.lst l.length (l.flatMap Ent.pd))),(16,P' (pI l.length)),(17,P' (pI i))]∧OA y.s.nx y.s [] []) ?_ (k:=l.length) ⟨0,rfl,⟨kO,hR0⟩,rfl,by simp only[go_sem],oW⟩);clear hR0;rintro k ⟨e,ds,s1⟩ ⟨i,rfl,⟨hi,hR⟩,rfl,hF,ho⟩;simp only[Fs] at hF ho;apply gS kG;refine Wc.seq ?_;refine Wc.cond (t:=decide ((i:Int)<l.length)) kF (fun hc=>?_) (fun hc=>?_)
  ·have hil:i<l.length:=gi hc
   obtain⟨c,hcc⟩:=gE hil
   have zc:=hz c (gw hcc)
   rw[lstR_step hcc] at hR
   have hix:=ixA ti53 rfl ti121 (j:=i) (m:=l.length) (cs:=l.flatMap Ent.pd) hil hfl kD
   have hca:=rpG (f:=Ent.pd) (k:=5) (fun _=>rfl) hcc
   have pv:=(show Pf E0 74 [.agg ((Ent.pd c).map .p)] (P' (.bool (okE c))) from pf74 c zc)
   refine Wc.skip (Wc.seq (Wc.block (Wc.seqA (fun y=>∃ k4,y.ds=[]∧Fs y.e 40 [(0,P' (.lst l.length (l.flatMap Ent.pd))),(2,P' (.fnc 74)),(3,P' (.fnc 77)),(15,P' (.lst l.length (l.flatMap Ent.pd))),(16,P' (pI l.length)),(17,P' (pI i)),(9,P' (pI i)),(10,.v (.c (.ref k4 0)))]∧OA y.s.nx y.s [] [(k4,.cells ((Ent.pd c).map .p) false)]) ?_ ?_)))
   ·apply gR (by simp only[go_sem,hF,hix,hca];rfl)
    exact⟨rfl,s1.nx+4,rfl,by simp only[go_sem,hF],by(try simp only[St.put_adv,St.adv_adv,St.put_put,gI]);repeat (first | exact oM ho | refine oN ?_ | refine oP ?_ | refine oA ?_)⟩
   clear hF ho e s1
   rintro⟨e,ds,s1⟩ ⟨k4,rfl,hF,ho⟩
   simp only[Fs] at hF ho
   have g4:=ho.at_ (k4,.cells ((Ent.pd c).map .p) false) kS
   simp only[gm] at g4;refine gO ?_;refine gM fun K F=>?_;simp only[go_sem,hF,g4];refine gP pv ?_;cases hok:(okE) c with
   |false =>
    have hk:okC okE c=1:=by unfold okC;rw[hok];rfl
    simp only[hk,b10,gC] at hR;subst hR;simp only[go_sem,hF,Bool.not_false];apply F;clear F K;apply gT kF;apply gS kG;exact wr (gV [.tmp 8] [.c (.p (pI 1))] kF)
   |true =>
   have hk:okC okE c=0:=by unfold okC;rw[hok];rfl
   simp only[hk,b00,gC] at hR;simp only[go_sem,hF,Bool.not_true];apply F;clear F K;apply gF kF;refine Wc.cutR (fun y=>lstR (okC okE) cmpE (prevG l (i+1)) (l.drop (i+1))=R∧y.ds=[]∧Fs y.e 40 [(0,P' (.lst l.length (l.flatMap Ent.pd))),(2,P' (.fnc 74)),(3,P' (.fnc 77)),(15,P' (.lst l.length (l.flatMap Ent.pd))),(16,P' (pI l.length)),(17,P' (pI i))]∧OA y.s.nx y.s [] []) ?_ ?_
   ·by_cases h0:i=0
    ·have hh:((0:Int)<(i:Int))=False:=by simp;omega
     have hd:decide (0<i)=false:=by simp;omega
     simp only[hd,gC] at hR;refine Wc.seq ?_;refine Wc.regT fun K F=>?_;simp only[go_sem,hF,hh];refine⟨by rw[trOK_eq3];rfl,F _ _ ?_⟩;clear F K;apply gF kF
     exact⟨hR,rfl,by simp only[go_sem,hF],by(try simp only[gI]);repeat (first | exact oM (ho.sub (List.Sublist.refl _) (List.nil_sublist _)) | refine oN ?_ | refine oA ?_)⟩
    ·have hh:((0:Int)<(i:Int))=True:=by simp;omega
     have hd:decide (0<i)=true:=by simp;omega
     obtain⟨q,hq⟩:∃ q,l[i-1]? = some q:=⟨l[i-1],List.getElem?_eq_getElem kO⟩
     have zq:=hz q (gw hq)
     have w1:IntKind.i64.wrap ((i:Int)-1)=((i-1:Nat):Int):=by rw[wi64];omega
     have hiq:=ixA ti53 rfl ti121 (j:=i-1) (m:=l.length) (cs:=l.flatMap Ent.pd) kO hfl kD
     have hcq:=rpG (f:=Ent.pd) (k:=5) (fun _=>rfl) hq
     have pc:=pf77 q c ⟨by have:=zq.lb;omega,by have:=zq.fs;omega⟩ ⟨by have:=zc.lb;omega,by have:=zc.fs;omega⟩
     have hcp:cmpG cmpE (l[i-1]?) c=(cmpE) q c:=by rw[hq];rfl
     rw[hcp] at hR
     generalize (cmpE) q c=V2 at hR pc;simp only[hd,gC] at hR;refine Wc.seq ?_;refine Wc.regT fun K F=>?_;simp only[go_sem,hF,hh,g4,w1,hiq,hcq];refine gP pc ?_;simp only[go_sem,hF,o77,x77];refine⟨by rw[trOK_eq3];rfl,F _ _ ?_⟩;clear F K;refine Wc.cond (t:=decide (0≤V2)) kF (fun hc=>?_) (fun hc=>?_)
     ·simp only[hc,gC] at hR;subst hR;apply gS kG;exact wr (gV [.tmp 8] [.c (.p (pI 9))] kF)
     simp only[hc,gC] at hR;exact Wc.skip ⟨hR,rfl,by simp only[go_sem,hF],by(try simp only[gI]);repeat (first | exact oM (ho.sub (List.Sublist.refl _) (List.nil_sublist _)) | refine oN ?_ | refine oA ?_)⟩
   clear hF ho g4 e s1 hR
   rintro⟨e,ds,s1⟩ ⟨hR,rfl,hF,ho⟩
   simp only[Fs] at hF ho;apply gR kX
   exact⟨l.length-(i+1),kO,i+1,rfl,⟨kO,hR⟩,rfl,by simp only[go_sem,hF],oZ⟩
  ·have hil:i=l.length:=by have:=of_decide_eq_false hc;omega
   rw[hil,List.drop_length,lstR_nil] at hR
   exact Wc.exit ⟨hR.symm,rfl,by simp only[go_sem,hF]⟩
 rintro⟨e,ds,s1⟩ ⟨rfl,rfl,hF⟩
 simp only[Fs] at hF;apply gS kG;exact wr (gV [.tmp 8] [.c (.p (pI 0))] kF)
theorem o81:E0.opn 81=false:=by kernel_rfl
theorem x81:E0.xt 81=none:=by kernel_rfl
theorem pf80g (l:List Spn)(hl:l.length<2^60)(hz:∀ c∈l,Spn.Sz c):Pf E0 80 [.c (.p (.lst l.length (l.flatMap Spn.pd))),.c (.p (pI 1000)),.c (.p (.fnc 78)),.c (.p (.fnc 81))] (P' (pI (chkL okP cmpSp l))):=by
 have hfl:(l.flatMap Spn.pd).length=l.length*10:=flat_len (k:=10) (fun _=>rfl) l
 generalize hR:chkL okP cmpSp l=R;unfold chkL at hR;refine gQ (fn:=Tryz.f80) ?_;simp only[gL,Tryz.ntmps80,Nat.reduceSub,Nat.reduceAdd];refine gY ?_;refine gO ?_;refine gZ ?_;cases k0:decide (1000<(l.length:Int)) with
 |true =>
  simp only[k0,gC] at hR;subst hR;apply gT (by simp only[go_sem,k0]);refine gY ?_;exact wr (gU [.tmp 8] [.c (.p (pI 4))])
 |false =>
 simp only[k0,gC] at hR;apply gF (by simp only[go_sem,k0])
 have hR0:lstR (okC okP) cmpSp (prevG l 0) (l.drop 0)=R:=hR
 clear hR k0;refine Wc.seqR (fun y=>R=0∧y.ds=[]∧Fs y.e 40 []) ?_ ?_
 ·refine gY ?_;refine Wc.block (Wc.loop (fun k y=>∃ i:Nat,k=l.length-i∧(i≤l.length∧lstR (okC okP) cmpSp (prevG l i) (l.drop i)=R)∧y.ds=[]∧Fs y.e 40 [(0,P' (.lst l.length (l.flatMap Spn.pd))),(2,P' (.fnc 78)),(3,P' (.fnc 81)),(15,P' (.lst l.length (l.flatMap Spn.pd))),(16,P' (pI l.length)),(17,P' (pI i))]∧OA y.s.nx y.s [] []) ?_ (k:=l.length) ⟨0,rfl,⟨kO,hR0⟩,rfl,by simp only[go_sem],oW⟩);clear hR0;rintro k ⟨e,ds,s1⟩ ⟨i,rfl,⟨hi,hR⟩,rfl,hF,ho⟩;simp only[Fs] at hF ho;apply gS kG;refine Wc.seq ?_;refine Wc.cond (t:=decide ((i:Int)<l.length)) kF (fun hc=>?_) (fun hc=>?_)
  ·have hil:i<l.length:=gi hc
   obtain⟨c,hcc⟩:=gE hil
   have zc:=hz c (gw hcc)
   rw[lstR_step hcc] at hR
   have hix:=ixA ti54 rfl ti128 (j:=i) (m:=l.length) (cs:=l.flatMap Spn.pd) hil hfl kD
   have hca:=rpG (f:=Spn.pd) (k:=10) (fun _=>rfl) hcc
   have pv:=(show Pf E0 78 [.agg ((Spn.pd c).map .p)] (P' (.bool (okP c))) from pf78 c zc)
   refine Wc.skip (Wc.seq (Wc.block (Wc.seqA (fun y=>∃ k4,y.ds=[]∧Fs y.e 40 [(0,P' (.lst l.length (l.flatMap Spn.pd))),(2,P' (.fnc 78)),(3,P' (.fnc 81)),(15,P' (.lst l.length (l.flatMap Spn.pd))),(16,P' (pI l.length)),(17,P' (pI i)),(9,P' (pI i)),(10,.v (.c (.ref k4 0)))]∧OA y.s.nx y.s [] [(k4,.cells ((Spn.pd c).map .p) false)]) ?_ ?_)))
   ·apply gR (by simp only[go_sem,hF,hix,hca];rfl)
    exact⟨rfl,s1.nx+4,rfl,by simp only[go_sem,hF],by(try simp only[St.put_adv,St.adv_adv,St.put_put,gI]);repeat (first | exact oM ho | refine oN ?_ | refine oP ?_ | refine oA ?_)⟩
   clear hF ho e s1
   rintro⟨e,ds,s1⟩ ⟨k4,rfl,hF,ho⟩
   simp only[Fs] at hF ho
   have g4:=ho.at_ (k4,.cells ((Spn.pd c).map .p) false) kS
   simp only[gm] at g4;refine gO ?_;refine gM fun K F=>?_;simp only[go_sem,hF,g4];refine gP pv ?_;cases hok:(okP) c with
   |false =>
    have hk:okC okP c=1:=by unfold okC;rw[hok];rfl
    simp only[hk,b10,gC] at hR;subst hR;simp only[go_sem,hF,Bool.not_false];apply F;clear F K;apply gT kF;apply gS kG;exact wr (gV [.tmp 8] [.c (.p (pI 1))] kF)
   |true =>
   have hk:okC okP c=0:=by unfold okC;rw[hok];rfl
   simp only[hk,b00,gC] at hR;simp only[go_sem,hF,Bool.not_true];apply F;clear F K;apply gF kF;refine Wc.cutR (fun y=>lstR (okC okP) cmpSp (prevG l (i+1)) (l.drop (i+1))=R∧y.ds=[]∧Fs y.e 40 [(0,P' (.lst l.length (l.flatMap Spn.pd))),(2,P' (.fnc 78)),(3,P' (.fnc 81)),(15,P' (.lst l.length (l.flatMap Spn.pd))),(16,P' (pI l.length)),(17,P' (pI i))]∧OA y.s.nx y.s [] []) ?_ ?_
   ·by_cases h0:i=0
    ·have hh:((0:Int)<(i:Int))=False:=by simp;omega
     have hd:decide (0<i)=false:=by simp;omega
     simp only[hd,gC] at hR;refine Wc.seq ?_;refine Wc.regT fun K F=>?_;simp only[go_sem,hF,hh];refine⟨by rw[trOK_eq3];rfl,F _ _ ?_⟩;clear F K;apply gF kF
     exact⟨hR,rfl,by simp only[go_sem,hF],by(try simp only[gI]);repeat (first | exact oM (ho.sub (List.Sublist.refl _) (List.nil_sublist _)) | refine oN ?_ | refine oA ?_)⟩
    ·have hh:((0:Int)<(i:Int))=True:=by simp;omega
     have hd:decide (0<i)=true:=by simp;omega
     obtain⟨q,hq⟩:∃ q,l[i-1]? = some q:=⟨l[i-1],List.getElem?_eq_getElem kO⟩
     have zq:=hz q (gw hq)
     have w1:IntKind.i64.wrap ((i:Int)-1)=((i-1:Nat):Int):=by rw[wi64];omega
     have hiq:=ixA ti54 rfl ti128 (j:=i-1) (m:=l.length) (cs:=l.flatMap Spn.pd) kO hfl kD
     have hcq:=rpG (f:=Spn.pd) (k:=10) (fun _=>rfl) hq
     have pc:=pf81 q c
     have hcp:cmpG cmpSp (l[i-1]?) c=(cmpSp) q c:=by rw[hq];rfl
     rw[hcp] at hR
     generalize (cmpSp) q c=V2 at hR pc;simp only[hd,gC] at hR;refine Wc.seq ?_;refine Wc.regT fun K F=>?_;simp only[go_sem,hF,hh,g4,w1,hiq,hcq];refine gP pc ?_;simp only[go_sem,hF,o81,x81];refine⟨by rw[trOK_eq3];rfl,F _ _ ?_⟩;clear F K;refine Wc.cond (t:=decide (0≤V2)) kF (fun hc=>?_) (fun hc=>?_)
     ·simp only[hc,gC] at hR;subst hR;apply gS kG;exact wr (gV [.tmp 8] [.c (.p (pI 9))] kF)
     simp only[hc,gC] at hR;exact Wc.skip ⟨hR,rfl,by simp only[go_sem,hF],by(try simp only[gI]);repeat (first | exact oM (ho.sub (List.Sublist.refl _) (List.nil_sublist _)) | refine oN ?_ | refine oA ?_)⟩
   clear hF ho g4 e s1 hR
   rintro⟨e,ds,s1⟩ ⟨hR,rfl,hF,ho⟩
   simp only[Fs] at hF ho;apply gR kX
   exact⟨l.length-(i+1),kO,i+1,rfl,⟨kO,hR⟩,rfl,by simp only[go_sem,hF],oZ⟩
  ·have hil:i=l.length:=by have:=of_decide_eq_false hc;omega
   rw[hil,List.drop_length,lstR_nil] at hR
   exact Wc.exit ⟨hR.symm,rfl,by simp only[go_sem,hF]⟩
 rintro⟨e,ds,s1⟩ ⟨rfl,rfl,hF⟩
 simp only[Fs] at hF;apply gS kG;exact wr (gV [.tmp 8] [.c (.p (pI 0))] kF)
theorem o86:E0.opn 86=false:=by kernel_rfl
theorem x86:E0.xt 86=none:=by kernel_rfl
theorem pf85g (l:List Prf)(hl:l.length<2^60)(hz:∀ c∈l,Prf.Sz c):Pf E0 85 [.c (.p (.lst l.length (l.flatMap Prf.pd))),.c (.p (pI 1000)),.c (.p (.fnc 83)),.c (.p (.fnc 86))] (P' (pI (chkL okPr cmpPr l))):=by
 have hfl:(l.flatMap Prf.pd).length=l.length*3:=flat_len (k:=3) (fun _=>rfl) l
 generalize hR:chkL okPr cmpPr l=R;unfold chkL at hR;refine gQ (fn:=Tryz.f85) ?_;simp only[gL,Tryz.ntmps85,Nat.reduceSub,Nat.reduceAdd];refine gY ?_;refine gO ?_;refine gZ ?_;cases k0:decide (1000<(l.length:Int)) with
 |true =>
  simp only[k0,gC] at hR;subst hR;apply gT (by simp only[go_sem,k0]);refine gY ?_;exact wr (gU [.tmp 8] [.c (.p (pI 4))])
 |false =>
 simp only[k0,gC] at hR;apply gF (by simp only[go_sem,k0])
 have hR0:lstR (okC okPr) cmpPr (prevG l 0) (l.drop 0)=R:=hR
 clear hR k0;refine Wc.seqR (fun y=>R=0∧y.ds=[]∧Fs y.e 40 []) ?_ ?_
 ·refine gY ?_;refine Wc.block (Wc.loop (fun k y=>∃ i:Nat,k=l.length-i∧(i≤l.length∧lstR (okC okPr) cmpPr (prevG l i) (l.drop i)=R)∧y.ds=[]∧Fs y.e 40 [(0,P' (.lst l.length (l.flatMap Prf.pd))),(2,P' (.fnc 83)),(3,P' (.fnc 86)),(15,P' (.lst l.length (l.flatMap Prf.pd))),(16,P' (pI l.length)),(17,P' (pI i))]∧OA y.s.nx y.s [] []) ?_ (k:=l.length) ⟨0,rfl,⟨kO,hR0⟩,rfl,by simp only[go_sem],oW⟩);clear hR0;rintro k ⟨e,ds,s1⟩ ⟨i,rfl,⟨hi,hR⟩,rfl,hF,ho⟩;simp only[Fs] at hF ho;apply gS kG;refine Wc.seq ?_;refine Wc.cond (t:=decide ((i:Int)<l.length)) kF (fun hc=>?_) (fun hc=>?_)
  ·have hil:i<l.length:=gi hc
   obtain⟨c,hcc⟩:=gE hil
   have zc:=hz c (gw hcc)
   rw[lstR_step hcc] at hR
   have hix:=ixA ti55 rfl ti106 (j:=i) (m:=l.length) (cs:=l.flatMap Prf.pd) hil hfl kD
   have hca:=rpG (f:=Prf.pd) (k:=3) (fun _=>rfl) hcc
   have pv:=(show Pf E0 83 [.agg ((Prf.pd c).map .p)] (P' (.bool (okPr c))) from pf83 c zc)
   refine Wc.skip (Wc.seq (Wc.block (Wc.seqA (fun y=>∃ k4,y.ds=[]∧Fs y.e 40 [(0,P' (.lst l.length (l.flatMap Prf.pd))),(2,P' (.fnc 83)),(3,P' (.fnc 86)),(15,P' (.lst l.length (l.flatMap Prf.pd))),(16,P' (pI l.length)),(17,P' (pI i)),(9,P' (pI i)),(10,.v (.c (.ref k4 0)))]∧OA y.s.nx y.s [] [(k4,.cells ((Prf.pd c).map .p) false)]) ?_ ?_)))
   ·apply gR (by simp only[go_sem,hF,hix,hca];rfl)
    exact⟨rfl,s1.nx+4,rfl,by simp only[go_sem,hF],by(try simp only[St.put_adv,St.adv_adv,St.put_put,gI]);repeat (first | exact oM ho | refine oN ?_ | refine oP ?_ | refine oA ?_)⟩
   clear hF ho e s1
   rintro⟨e,ds,s1⟩ ⟨k4,rfl,hF,ho⟩
   simp only[Fs] at hF ho
   have g4:=ho.at_ (k4,.cells ((Prf.pd c).map .p) false) kS
   simp only[gm] at g4;refine gO ?_;refine gM fun K F=>?_;simp only[go_sem,hF,g4];refine gP pv ?_;cases hok:(okPr) c with
   |false =>
    have hk:okC okPr c=1:=by unfold okC;rw[hok];rfl
    simp only[hk,b10,gC] at hR;subst hR;simp only[go_sem,hF,Bool.not_false];apply F;clear F K;apply gT kF;apply gS kG;exact wr (gV [.tmp 8] [.c (.p (pI 1))] kF)
   |true =>
   have hk:okC okPr c=0:=by unfold okC;rw[hok];rfl
   simp only[hk,b00,gC] at hR;simp only[go_sem,hF,Bool.not_true];apply F;clear F K;apply gF kF;refine Wc.cutR (fun y=>lstR (okC okPr) cmpPr (prevG l (i+1)) (l.drop (i+1))=R∧y.ds=[]∧Fs y.e 40 [(0,P' (.lst l.length (l.flatMap Prf.pd))),(2,P' (.fnc 83)),(3,P' (.fnc 86)),(15,P' (.lst l.length (l.flatMap Prf.pd))),(16,P' (pI l.length)),(17,P' (pI i))]∧OA y.s.nx y.s [] []) ?_ ?_
   ·by_cases h0:i=0
    ·have hh:((0:Int)<(i:Int))=False:=by simp;omega
     have hd:decide (0<i)=false:=by simp;omega
     simp only[hd,gC] at hR;refine Wc.seq ?_;refine Wc.regT fun K F=>?_;simp only[go_sem,hF,hh];refine⟨by rw[trOK_eq3];rfl,F _ _ ?_⟩;clear F K;apply gF kF
     exact⟨hR,rfl,by simp only[go_sem,hF],by(try simp only[gI]);repeat (first | exact oM (ho.sub (List.Sublist.refl _) (List.nil_sublist _)) | refine oN ?_ | refine oA ?_)⟩
    ·have hh:((0:Int)<(i:Int))=True:=by simp;omega
     have hd:decide (0<i)=true:=by simp;omega
     obtain⟨q,hq⟩:∃ q,l[i-1]? = some q:=⟨l[i-1],List.getElem?_eq_getElem kO⟩
     have zq:=hz q (gw hq)
     have w1:IntKind.i64.wrap ((i:Int)-1)=((i-1:Nat):Int):=by rw[wi64];omega
     have hiq:=ixA ti55 rfl ti106 (j:=i-1) (m:=l.length) (cs:=l.flatMap Prf.pd) kO hfl kD
     have hcq:=rpG (f:=Prf.pd) (k:=3) (fun _=>rfl) hq
     have pc:=pf86 q c (by have:=zq.lb;omega) (by have:=zc.lb;omega)
     have hcp:cmpG cmpPr (l[i-1]?) c=(cmpPr) q c:=by rw[hq];rfl
     rw[hcp] at hR
     generalize (cmpPr) q c=V2 at hR pc;simp only[hd,gC] at hR;refine Wc.seq ?_;refine Wc.regT fun K F=>?_;simp only[go_sem,hF,hh,g4,w1,hiq,hcq];refine gP pc ?_;simp only[go_sem,hF,o86,x86];refine⟨by rw[trOK_eq3];rfl,F _ _ ?_⟩;clear F K;refine Wc.cond (t:=decide (0≤V2)) kF (fun hc=>?_) (fun hc=>?_)
     ·simp only[hc,gC] at hR;subst hR;apply gS kG;exact wr (gV [.tmp 8] [.c (.p (pI 9))] kF)
     simp only[hc,gC] at hR;exact Wc.skip ⟨hR,rfl,by simp only[go_sem,hF],by(try simp only[gI]);repeat (first | exact oM (ho.sub (List.Sublist.refl _) (List.nil_sublist _)) | refine oN ?_ | refine oA ?_)⟩
   clear hF ho g4 e s1 hR
   rintro⟨e,ds,s1⟩ ⟨hR,rfl,hF,ho⟩
   simp only[Fs] at hF ho;apply gR kX
   exact⟨l.length-(i+1),kO,i+1,rfl,⟨kO,hR⟩,rfl,by simp only[go_sem,hF],oZ⟩
  ·have hil:i=l.length:=by have:=of_decide_eq_false hc;omega
   rw[hil,List.drop_length,lstR_nil] at hR
   exact Wc.exit ⟨hR.symm,rfl,by simp only[go_sem,hF]⟩
 rintro⟨e,ds,s1⟩ ⟨rfl,rfl,hF⟩
 simp only[Fs] at hF;apply gS kG;exact wr (gV [.tmp 8] [.c (.p (pI 0))] kF)
theorem o89:E0.opn 89=false:=by kernel_rfl
theorem x89:E0.xt 89=none:=by kernel_rfl
theorem pf87g (l:List Exm)(hl:l.length<2^60)(hz:∀ c∈l,Exm.Sz c):Pf E0 87 [.c (.p (.lst l.length (l.flatMap Exm.pd))),.c (.p (pI 1000)),.c (.p (.fnc 88)),.c (.p (.fnc 89))] (P' (pI (chkL okX cmpX l))):=by
 have hfl:(l.flatMap Exm.pd).length=l.length*5:=flat_len (k:=5) (fun _=>rfl) l
 generalize hR:chkL okX cmpX l=R;unfold chkL at hR;refine gQ (fn:=Tryz.f87) ?_;simp only[gL,Tryz.ntmps87,Nat.reduceSub,Nat.reduceAdd];refine gY ?_;refine gO ?_;refine gZ ?_;cases k0:decide (1000<(l.length:Int)) with
 |true =>
  simp only[k0,gC] at hR;subst hR;apply gT (by simp only[go_sem,k0]);refine gY ?_;exact wr (gU [.tmp 8] [.c (.p (pI 4))])
 |false =>
 simp only[k0,gC] at hR;apply gF (by simp only[go_sem,k0])
 have hR0:lstR (okC okX) cmpX (prevG l 0) (l.drop 0)=R:=hR
 clear hR k0;refine Wc.seqR (fun y=>R=0∧y.ds=[]∧Fs y.e 40 []) ?_ ?_
 ·refine gY ?_;refine Wc.block (Wc.loop (fun k y=>∃ i:Nat,k=l.length-i∧(i≤l.length∧lstR (okC okX) cmpX (prevG l i) (l.drop i)=R)∧y.ds=[]∧Fs y.e 40 [(0,P' (.lst l.length (l.flatMap Exm.pd))),(2,P' (.fnc 88)),(3,P' (.fnc 89)),(15,P' (.lst l.length (l.flatMap Exm.pd))),(16,P' (pI l.length)),(17,P' (pI i))]∧OA y.s.nx y.s [] []) ?_ (k:=l.length) ⟨0,rfl,⟨kO,hR0⟩,rfl,by simp only[go_sem],oW⟩);clear hR0;rintro k ⟨e,ds,s1⟩ ⟨i,rfl,⟨hi,hR⟩,rfl,hF,ho⟩;simp only[Fs] at hF ho;apply gS kG;refine Wc.seq ?_;refine Wc.cond (t:=decide ((i:Int)<l.length)) kF (fun hc=>?_) (fun hc=>?_)
  ·have hil:i<l.length:=gi hc
   obtain⟨c,hcc⟩:=gE hil
   have zc:=hz c (gw hcc)
   rw[lstR_step hcc] at hR
   have hix:=ixA ti56 rfl ti139 (j:=i) (m:=l.length) (cs:=l.flatMap Exm.pd) hil hfl kD
   have hca:=rpG (f:=Exm.pd) (k:=5) (fun _=>rfl) hcc
   have pv:=(show Pf E0 88 [.agg ((Exm.pd c).map .p)] (P' (.bool (okX c))) from pf88 c zc)
   refine Wc.skip (Wc.seq (Wc.block (Wc.seqA (fun y=>∃ k4,y.ds=[]∧Fs y.e 40 [(0,P' (.lst l.length (l.flatMap Exm.pd))),(2,P' (.fnc 88)),(3,P' (.fnc 89)),(15,P' (.lst l.length (l.flatMap Exm.pd))),(16,P' (pI l.length)),(17,P' (pI i)),(9,P' (pI i)),(10,.v (.c (.ref k4 0)))]∧OA y.s.nx y.s [] [(k4,.cells ((Exm.pd c).map .p) false)]) ?_ ?_)))
   ·apply gR (by simp only[go_sem,hF,hix,hca];rfl)
    exact⟨rfl,s1.nx+4,rfl,by simp only[go_sem,hF],by(try simp only[St.put_adv,St.adv_adv,St.put_put,gI]);repeat (first | exact oM ho | refine oN ?_ | refine oP ?_ | refine oA ?_)⟩
   clear hF ho e s1
   rintro⟨e,ds,s1⟩ ⟨k4,rfl,hF,ho⟩
   simp only[Fs] at hF ho
   have g4:=ho.at_ (k4,.cells ((Exm.pd c).map .p) false) kS
   simp only[gm] at g4;refine gO ?_;refine gM fun K F=>?_;simp only[go_sem,hF,g4];refine gP pv ?_;cases hok:(okX) c with
   |false =>
    have hk:okC okX c=1:=by unfold okC;rw[hok];rfl
    simp only[hk,b10,gC] at hR;subst hR;simp only[go_sem,hF,Bool.not_false];apply F;clear F K;apply gT kF;apply gS kG;exact wr (gV [.tmp 8] [.c (.p (pI 1))] kF)
   |true =>
   have hk:okC okX c=0:=by unfold okC;rw[hok];rfl
   simp only[hk,b00,gC] at hR;simp only[go_sem,hF,Bool.not_true];apply F;clear F K;apply gF kF;refine Wc.cutR (fun y=>lstR (okC okX) cmpX (prevG l (i+1)) (l.drop (i+1))=R∧y.ds=[]∧Fs y.e 40 [(0,P' (.lst l.length (l.flatMap Exm.pd))),(2,P' (.fnc 88)),(3,P' (.fnc 89)),(15,P' (.lst l.length (l.flatMap Exm.pd))),(16,P' (pI l.length)),(17,P' (pI i))]∧OA y.s.nx y.s [] []) ?_ ?_
   ·by_cases h0:i=0
    ·have hh:((0:Int)<(i:Int))=False:=by simp;omega
     have hd:decide (0<i)=false:=by simp;omega
     simp only[hd,gC] at hR;refine Wc.seq ?_;refine Wc.regT fun K F=>?_;simp only[go_sem,hF,hh];refine⟨by rw[trOK_eq3];rfl,F _ _ ?_⟩;clear F K;apply gF kF
     exact⟨hR,rfl,by simp only[go_sem,hF],by(try simp only[gI]);repeat (first | exact oM (ho.sub (List.Sublist.refl _) (List.nil_sublist _)) | refine oN ?_ | refine oA ?_)⟩
    ·have hh:((0:Int)<(i:Int))=True:=by simp;omega
     have hd:decide (0<i)=true:=by simp;omega
     obtain⟨q,hq⟩:∃ q,l[i-1]? = some q:=⟨l[i-1],List.getElem?_eq_getElem kO⟩
     have zq:=hz q (gw hq)
     have w1:IntKind.i64.wrap ((i:Int)-1)=((i-1:Nat):Int):=by rw[wi64];omega
     have hiq:=ixA ti56 rfl ti139 (j:=i-1) (m:=l.length) (cs:=l.flatMap Exm.pd) kO hfl kD
     have hcq:=rpG (f:=Exm.pd) (k:=5) (fun _=>rfl) hq
     have pc:=pf89 q c (by have:=zq.lb;omega) (by have:=zc.lb;omega)
     have hcp:cmpG cmpX (l[i-1]?) c=(cmpX) q c:=by rw[hq];rfl
     rw[hcp] at hR
     generalize (cmpX) q c=V2 at hR pc;simp only[hd,gC] at hR;refine Wc.seq ?_;refine Wc.regT fun K F=>?_;simp only[go_sem,hF,hh,g4,w1,hiq,hcq];refine gP pc ?_;simp only[go_sem,hF,o89,x89];refine⟨by rw[trOK_eq3];rfl,F _ _ ?_⟩;clear F K;refine Wc.cond (t:=decide (0≤V2)) kF (fun hc=>?_) (fun hc=>?_)
     ·simp only[hc,gC] at hR;subst hR;apply gS kG;exact wr (gV [.tmp 8] [.c (.p (pI 9))] kF)
     simp only[hc,gC] at hR;exact Wc.skip ⟨hR,rfl,by simp only[go_sem,hF],by(try simp only[gI]);repeat (first | exact oM (ho.sub (List.Sublist.refl _) (List.nil_sublist _)) | refine oN ?_ | refine oA ?_)⟩
   clear hF ho g4 e s1 hR
   rintro⟨e,ds,s1⟩ ⟨hR,rfl,hF,ho⟩
   simp only[Fs] at hF ho;apply gR kX
   exact⟨l.length-(i+1),kO,i+1,rfl,⟨kO,hR⟩,rfl,by simp only[go_sem,hF],oZ⟩
  ·have hil:i=l.length:=by have:=of_decide_eq_false hc;omega
   rw[hil,List.drop_length,lstR_nil] at hR
   exact Wc.exit ⟨hR.symm,rfl,by simp only[go_sem,hF]⟩
 rintro⟨e,ds,s1⟩ ⟨rfl,rfl,hF⟩
 simp only[Fs] at hF;apply gS kG;exact wr (gV [.tmp 8] [.c (.p (pI 0))] kF)
theorem cmpLk_ge (q y:I2):decide (0≤cmpLk q y)=(decide (y.1<q.1) || ((q.1==y.1)&&decide (y.2≤q.2))):=by
 unfold cmpLk
 rw[orL_cons,orL_one]
 unfold cmpI;rcases Int.lt_trichotomy q.1 y.1 with h|h|h
 ·have e1:¬ y.1<q.1:=kO
  have e2:(q.1==y.1)=false:=beq_eq_false_iff_ne.2 kO
  simp[h,e1,e2]
 ·rcases Int.lt_trichotomy q.2 y.2 with h2|h2|h2
  ·have e1:¬ y.2≤q.2:=kO
   simp[h,h2,e1]
  ·simp[h,h2]
  ·have e1:¬ q.2<y.2:=kO
   have e2:y.2≤q.2:=kO
   simp[h,h2,e1,e2]
 ·have e1:¬ q.1<y.1:=kO
  have e2:(q.1==y.1)=false:=beq_eq_false_iff_ne.2 kO
  simp[h,e1,e2]
theorem btw_id (t:Int):btw t 1 1152921504606846976 = !(decide (t<1) || decide (1152921504606846976<t)):=by
 unfold btw
 rw[Bool.not_or,← decide_not,← decide_not]
 congr 1<;>rw[decide_eq_decide]<;>omega
theorem pf183 (x:Spn)(z:x.Sz):Pf E0 183 [.agg (x.pd.map .p)] (P' (pI (chkP x))):=by
 generalize hR:chkP x=R;unfold chkP lkC at hR
 rw[btw_id] at hR
 have p1:=pf231 x.tr z.tr
 have p3:=pf232 x.sv
 have p4:=pf232 x.nm
 have p5:=pf187 x.tr z.tr
 have p6:=pf92 x.ab z.lb z.ls
 cases hT:isTr x.tr with
 |false =>
  simp only[hT,gC,b00,b20] at hR
  rw[hT] at p1
  refine gQ (fn:=Tryz.f183) ?_;simp only[gL,Tryz.ntmps183,Nat.reduceSub,Nat.reduceAdd];refine gY ?_;refine Wc.seq ?_;refine gN fun K F=>?_;simp only[go_sem];refine gP p1 ?_;simp only[go_sem];apply F;clear F K;refine gG ?_;refine gY ?_;subst hR;exact wr (gy [.tmp 2] (by simp only[go_sem];exact⟨_,rfl,_,rfl⟩))
 |true =>
 have htr:0≤x.tr:=by unfold isTr at hT;rw[Bool.and_eq_true] at hT;have:=of_decide_eq_true hT.1;omega
 rw[Int.tdiv_eq_ediv_of_nonneg htr] at p5
 simp only[hT,gC,b00,b20] at hR
 rw[hT] at p1
 refine gQ (fn:=Tryz.f183) ?_;simp only[gL,Tryz.ntmps183,Nat.reduceSub,Nat.reduceAdd];refine gY ?_;refine gO ?_;rcases gK (decide (x.id<(1:Int))) with w1_1|w1_1
 ·simp only[w1_1,gC,b00,b20] at hR;refine gM fun K F=>?_;simp only[go_sem,w1_1];refine gP p1 ?_;simp only[go_sem,w1_1];apply F;clear F K;apply gT (by simp only[go_sem,w1_1]);apply gS (by simp only[go_sem,w1_1];rfl);subst hR;exact wr (gy [.tmp 2] (by simp only[go_sem,w1_1];exact⟨_,rfl,_,rfl⟩))
 simp only[w1_1,gC,b00,b20] at hR;rcases gK (decide ((1152921504606846976:Int)<x.id)) with w1_2|w1_2
 ·simp only[w1_2,gC,b00,b20] at hR;refine gM fun K F=>?_;simp only[go_sem,w1_1,w1_2];refine gP p1 ?_;simp only[go_sem,w1_1,w1_2];apply F;clear F K;apply gT (by simp only[go_sem,w1_1,w1_2]);apply gS (by simp only[go_sem,w1_1,w1_2];rfl);subst hR;exact wr (gy [.tmp 2] (by simp only[go_sem,w1_1,w1_2];exact⟨_,rfl,_,rfl⟩))
 simp only[w1_2,gC,b00,b20] at hR;rcases gK (decide (x.pa<(0:Int))) with w1_3|w1_3
 ·simp only[w1_3,gC,b00,b20] at hR;refine gM fun K F=>?_;simp only[go_sem,w1_1,w1_2,w1_3];refine gP p1 ?_;simp only[go_sem,w1_1,w1_2,w1_3];apply F;clear F K;apply gT (by simp only[go_sem,w1_1,w1_2,w1_3]);apply gS (by simp only[go_sem,w1_1,w1_2,w1_3];rfl);subst hR;exact wr (gy [.tmp 2] (by simp only[go_sem,w1_1,w1_2,w1_3];exact⟨_,rfl,_,rfl⟩))
 simp only[w1_3,gC,b00,b20] at hR;refine gM fun K F=>?_;simp only[go_sem,w1_1,w1_2,w1_3];refine gP p1 ?_;simp only[go_sem,w1_1,w1_2,w1_3];apply F;clear F K;rcases gK (decide ((1152921504606846976:Int)<x.pa)) with w1_4|w1_4
 ·simp only[w1_4,gC,b00,b20] at hR;apply gT (by simp only[go_sem,w1_1,w1_2,w1_3,w1_4]);apply gS (by simp only[go_sem,w1_1,w1_2,w1_3,w1_4];rfl);subst hR;exact wr (gy [.tmp 2] (by simp only[go_sem,w1_1,w1_2,w1_3,w1_4];exact⟨_,rfl,_,rfl⟩))
 simp only[w1_4,gC,b00,b20] at hR;apply gX (by simp only[go_sem,w1_1,w1_2,w1_3,w1_4]);refine Wc.skip ?_;refine Wc.seq ?_;apply gS (by simp only[go_sem,w1_1,w1_2,w1_3,w1_4];rfl);rcases gK (x.pa==x.id) with w1_5|w1_5
 ·simp only[w1_5,gC,b00,b20] at hR;apply gT (by simp only[go_sem,w1_1,w1_2,w1_3,w1_4,w1_5]);apply gS (by simp only[go_sem,w1_1,w1_2,w1_3,w1_4,w1_5];rfl);subst hR;exact wr (gy [.tmp 2] (by simp only[go_sem,w1_1,w1_2,w1_3,w1_4,w1_5];exact⟨_,rfl,_,rfl⟩))
 simp only[w1_5,gC,b00,b20] at hR;apply gX (by simp only[go_sem,w1_1,w1_2,w1_3,w1_4,w1_5]);refine Wc.skip ?_;refine gO ?_;rcases (gK (nmL x.sv)).symm with w1_6|w1_6
 ·simp only[w1_6,gC,b00,b20] at hR;refine gM fun K F=>?_;simp only[go_sem,w1_1,w1_2,w1_3,w1_4,w1_5,w1_6];refine gP p3 ?_;simp only[go_sem,w1_1,w1_2,w1_3,w1_4,w1_5,w1_6];apply F;clear F K;apply gT (by simp only[go_sem,w1_1,w1_2,w1_3,w1_4,w1_5,w1_6]);apply gS (by simp only[go_sem,w1_1,w1_2,w1_3,w1_4,w1_5,w1_6];rfl);subst hR;exact wr (gy [.tmp 2] (by simp only[go_sem,w1_1,w1_2,w1_3,w1_4,w1_5,w1_6];exact⟨_,rfl,_,rfl⟩))
 simp only[w1_6,gC,b00,b20] at hR;refine gM fun K F=>?_;simp only[go_sem,w1_1,w1_2,w1_3,w1_4,w1_5,w1_6];refine gP p3 ?_;simp only[go_sem,w1_1,w1_2,w1_3,w1_4,w1_5,w1_6];refine gP p4 ?_;simp only[go_sem,w1_1,w1_2,w1_3,w1_4,w1_5,w1_6];apply F;clear F K;rcases (gK (nmL x.nm)).symm with w1_7|w1_7
 ·simp only[w1_7,gC,b00,b20] at hR;apply gT (by simp only[go_sem,w1_1,w1_2,w1_3,w1_4,w1_5,w1_6,w1_7]);apply gS (by simp only[go_sem,w1_1,w1_2,w1_3,w1_4,w1_5,w1_6,w1_7];rfl);subst hR;exact wr (gy [.tmp 2] (by simp only[go_sem,w1_1,w1_2,w1_3,w1_4,w1_5,w1_6,w1_7];exact⟨_,rfl,_,rfl⟩))
 simp only[w1_7,gC,b00,b20] at hR;apply gX (by simp only[go_sem,w1_1,w1_2,w1_3,w1_4,w1_5,w1_6,w1_7]);refine Wc.skip ?_;refine gO ?_;rcases gK (decide (x.st<x.tr / (1024:Int))) with w1_8|w1_8
 ·simp only[w1_8,gC,b00,b20] at hR;refine Wc.regT fun K F=>?_;simp only[go_sem,w1_1,w1_2,w1_3,w1_4,w1_5,w1_6,w1_7,w1_8];refine gP p5 ?_;simp only[go_sem,w1_1,w1_2,w1_3,w1_4,w1_5,w1_6,w1_7,w1_8];refine⟨by rw[trOK_eq3];rfl,F _ _ ?_⟩;clear F K;apply gT (by simp only[go_sem,w1_1,w1_2,w1_3,w1_4,w1_5,w1_6,w1_7,w1_8]);apply gS (by simp only[go_sem,w1_1,w1_2,w1_3,w1_4,w1_5,w1_6,w1_7,w1_8];rfl);subst hR;exact wr (gy [.tmp 2] (by simp only[go_sem,w1_1,w1_2,w1_3,w1_4,w1_5,w1_6,w1_7,w1_8];exact⟨_,rfl,_,rfl⟩))
 simp only[w1_8,gC,b00,b20] at hR;rcases gK (decide ((1099511627776:Int)<x.st)) with w1_9|w1_9
 ·simp only[w1_9,gC,b00,b20] at hR;refine Wc.regT fun K F=>?_;simp only[go_sem,w1_1,w1_2,w1_3,w1_4,w1_5,w1_6,w1_7,w1_8,w1_9];refine gP p5 ?_;simp only[go_sem,w1_1,w1_2,w1_3,w1_4,w1_5,w1_6,w1_7,w1_8,w1_9];refine⟨by rw[trOK_eq3];rfl,F _ _ ?_⟩;clear F K;apply gT (by simp only[go_sem,w1_1,w1_2,w1_3,w1_4,w1_5,w1_6,w1_7,w1_8,w1_9]);apply gS (by simp only[go_sem,w1_1,w1_2,w1_3,w1_4,w1_5,w1_6,w1_7,w1_8,w1_9];rfl);subst hR;exact wr (gy [.tmp 2] (by simp only[go_sem,w1_1,w1_2,w1_3,w1_4,w1_5,w1_6,w1_7,w1_8,w1_9];exact⟨_,rfl,_,rfl⟩))
 simp only[w1_9,gC,b00,b20] at hR;rcases gK (decide (x.en<x.st)) with w1_10|w1_10
 ·simp only[w1_10,gC,b00,b20] at hR;refine Wc.regT fun K F=>?_;simp only[go_sem,w1_1,w1_2,w1_3,w1_4,w1_5,w1_6,w1_7,w1_8,w1_9,w1_10];refine gP p5 ?_;simp only[go_sem,w1_1,w1_2,w1_3,w1_4,w1_5,w1_6,w1_7,w1_8,w1_9,w1_10];refine⟨by rw[trOK_eq3];rfl,F _ _ ?_⟩;clear F K;apply gT (by simp only[go_sem,w1_1,w1_2,w1_3,w1_4,w1_5,w1_6,w1_7,w1_8,w1_9,w1_10]);apply gS (by simp only[go_sem,w1_1,w1_2,w1_3,w1_4,w1_5,w1_6,w1_7,w1_8,w1_9,w1_10];rfl);subst hR;exact wr (gy [.tmp 2] (by simp only[go_sem,w1_1,w1_2,w1_3,w1_4,w1_5,w1_6,w1_7,w1_8,w1_9,w1_10];exact⟨_,rfl,_,rfl⟩))
 simp only[w1_10,gC,b00,b20] at hR;refine Wc.regT fun K F=>?_;simp only[go_sem,w1_1,w1_2,w1_3,w1_4,w1_5,w1_6,w1_7,w1_8,w1_9,w1_10];refine gP p5 ?_;simp only[go_sem,w1_1,w1_2,w1_3,w1_4,w1_5,w1_6,w1_7,w1_8,w1_9,w1_10];refine⟨by rw[trOK_eq3];rfl,F _ _ ?_⟩;clear F K;rcases gK (decide ((1099511627776:Int)<x.en)) with w1_11|w1_11
 ·simp only[w1_11,gC,b00,b20] at hR;apply gT (by simp only[go_sem,w1_1,w1_2,w1_3,w1_4,w1_5,w1_6,w1_7,w1_8,w1_9,w1_10,w1_11]);apply gS (by simp only[go_sem,w1_1,w1_2,w1_3,w1_4,w1_5,w1_6,w1_7,w1_8,w1_9,w1_10,w1_11];rfl);subst hR;exact wr (gy [.tmp 2] (by simp only[go_sem,w1_1,w1_2,w1_3,w1_4,w1_5,w1_6,w1_7,w1_8,w1_9,w1_10,w1_11];exact⟨_,rfl,_,rfl⟩))
 simp only[w1_11,gC,b00,b20] at hR;apply gX (by simp only[go_sem,w1_1,w1_2,w1_3,w1_4,w1_5,w1_6,w1_7,w1_8,w1_9,w1_10,w1_11]);refine Wc.skip ?_;refine gO ?_;refine Wc.cutR (fun y=>y.ds=[]∧Fs y.e 150 [(1,.v (.c (.ref 0 0))),(75,P' (.bool ((x.ss != 0)&&(x.ss != 1))))]∧OA y.s.nx y.s [] [(0,.cells (x.pd.map .p) false)]) ?_ ?_
 ·rcases gK (x.ss !=(0:Int)) with w2_1|w2_1
  ·apply gR (by simp only[go_sem,w2_1];rfl)
   exact⟨rfl,by simp only[go_sem,w2_1],oW⟩
  apply gR (by simp only[go_sem,w2_1];rfl)
  exact⟨rfl,by simp only[go_sem,w2_1],oW⟩
 generalize ((x.ss != 0)&&(x.ss != 1))=B9 at hR ⊢
 rintro⟨e,ds,s1⟩ ⟨rfl,hF,ho⟩
 simp only[Fs] at hF ho
 have g0:=ho.at_ (0,.cells (x.pd.map .p) false) kS
 simp only[gm] at g0;rcases gK (B9) with w3_1|w3_1
 ·simp only[w3_1,gC,b00,b20] at hR;apply gT (by simp only[go_sem,hF,g0,w3_1]);apply gS (by simp only[go_sem,hF,g0,w3_1];rfl);subst hR;exact wr (gy [.tmp 2] (by simp only[go_sem,hF,g0,w3_1];exact⟨_,rfl,_,rfl⟩))
 simp only[w3_1,gC,b00,b20] at hR;apply gX (by simp only[go_sem,hF,g0,w3_1]);refine Wc.skip ?_;refine Wc.seq ?_;refine gN fun K F=>?_;simp only[go_sem,hF,g0,w3_1];refine gP p6 ?_;simp only[go_sem,hF,g0,w3_1];apply F;clear F K;apply gS (by simp only[go_sem,hF,g0,w3_1];rfl);rcases gK (lckA x.ab !=(0:Int)) with w3_2|w3_2
 ·simp only[w3_2,gC,b00,b20] at hR;apply gT (by simp only[go_sem,hF,g0,w3_1,w3_2]);apply gS (by simp only[go_sem,hF,g0,w3_1,w3_2];rfl);subst hR;exact wr (gy [.tmp 2] (by simp only[go_sem,hF,g0,w3_1,w3_2];exact⟨_,rfl,_,rfl⟩))
 simp only[w3_2,gC,b00,b20] at hR;apply gX (by simp only[go_sem,hF,g0,w3_1,w3_2]);refine Wc.skip ?_;refine Wc.seq ?_;apply gS (by simp only[go_sem,hF,g0,w3_1,w3_2];rfl);rcases gK (decide ((16:Int)<(↑x.lk.length:Int))) with w3_3|w3_3
 ·simp only[w3_3,gC,b00,b20] at hR;apply gT (by simp only[go_sem,hF,g0,w3_1,w3_2,w3_3]);apply gS (by simp only[go_sem,hF,g0,w3_1,w3_2,w3_3];rfl);subst hR;exact wr (gy [.tmp 2] (by simp only[go_sem,hF,g0,w3_1,w3_2,w3_3];exact⟨_,rfl,_,rfl⟩))
 simp only[w3_3,gC,b00,b20] at hR;apply gX (by simp only[go_sem,hF,g0,w3_1,w3_2,w3_3]);refine Wc.skip ?_
 have hfl:(x.lk.flatMap p2).length=x.lk.length*2:=flat_len (k:=2) (fun _=>rfl) _
 have hlk:=z.lk
 refine Wc.seqR (fun y=>R=0∧y.ds=[]∧Fs y.e 150 []) ?_ ?_
 ·have hR0:lstR ckLk cmpLk (prevG x.lk 0) (x.lk.drop 0)=R:=hR
  clear hR;apply gS kG;refine Wc.block (Wc.loop (fun k y=>∃ i:Nat,k=x.lk.length-i∧(i≤x.lk.length∧lstR ckLk cmpLk (prevG x.lk i) (x.lk.drop i)=R)∧y.ds=[]∧Fs y.e 150 [(1,.v (.c (.ref 0 0))),(4,P' (pI i))]∧OA y.s.nx y.s [] [(0,.cells (x.pd.map .p) false)]) ?_ (k:=x.lk.length) ⟨0,rfl,⟨kO,hR0⟩,rfl,by simp only[go_sem,hF],oZ⟩);clear hR0 hF ho g0 e s1;rintro k ⟨e,ds,s1⟩ ⟨i,rfl,⟨hi,hR⟩,rfl,hF,ho⟩;simp only[Fs] at hF ho
  have g0:=ho.at_ (0,.cells (x.pd.map .p) false) kS
  simp only[gm] at g0;refine gO ?_;apply gR kC;refine Wc.cond (t:=decide ((i:Int)<x.lk.length)) kF (fun hc=>?_) (fun hc=>?_)
  ·have hil:i<x.lk.length:=gi hc
   obtain⟨c,hcc⟩:=gE hil
   have hca:=rpG (f:=p2) (k:=2) (fun _=>rfl) hcc
   have hix:=ixA ti126 rfl ti234 (j:=i) (m:=x.lk.length) (cs:=x.lk.flatMap p2) hil hfl kD
   have p231:=pf231 c.1 (z.lt c (gw hcc))
   rw[lstR_step hcc] at hR
   unfold ckLk at hR
   rw[btw_id] at hR
   refine Wc.skip (Wc.seq (Wc.block (Wc.seqA (fun y=>∃ k4,y.ds=[]∧Fs y.e 150 [(1,.v (.c (.ref 0 0))),(4,P' (pI i)),(5,.v (.c (.ref k4 0)))]∧OA y.s.nx y.s [] [(k4,.cells ((p2 c).map .p) false),(0,.cells (x.pd.map .p) false)]) ?_ ?_)))
   ·apply gR (by simp only[go_sem,hF,g0,hix,hca];rfl)
    exact⟨rfl,s1.nx+10,rfl,by simp only[go_sem,hF],by(try simp only[St.put_adv,St.adv_adv,St.put_put,gI]);repeat (first | exact oM ho | refine oN ?_ | refine oP ?_ | refine oA ?_)⟩
   clear hF ho g0 e s1
   rintro⟨e,ds,s1⟩ ⟨k4,rfl,hF,ho⟩
   simp only[Fs] at hF ho
   have g4:=ho.at_ (k4,.cells ((p2 c).map .p) false) kS
   have g0:=ho.at_ (0,.cells (x.pd.map .p) false) kS
   simp only[gm] at g4 g0
   by_cases h0:i=0
   ·have hh:((0:Int)<(i:Int))=False:=by simp;omega
    have hd:decide (0<i)=false:=by simp;omega
    simp only[hd,gC,b00,b20] at hR;refine gO ?_;rcases gK (isTr c.fst) with w4_1|w4_1
    ·simp only[w4_1,gC,b00,b20] at hR;rcases gK (decide (c.snd<(1:Int))) with w4_2|w4_2
     ·simp only[w4_2,gC,b00,b20] at hR;refine gM fun K F=>?_;simp only[go_sem,hF,g0,g4,hh,i64n i kO,w4_1,w4_2];refine gP p231 ?_;simp only[go_sem,hF,g0,g4,hh,i64n i kO,w4_1,w4_2];apply F;clear F K;apply gT (by simp only[go_sem,hF,g0,g4,hh,i64n i kO,w4_1,w4_2]);apply gS (by simp only[go_sem,hF,g0,g4,hh,i64n i kO,w4_1,w4_2];rfl);subst hR;exact wr (gy [.tmp 2] (by simp only[go_sem,hF,g0,g4,hh,i64n i kO,w4_1,w4_2];exact⟨_,rfl,_,rfl⟩))
     simp only[w4_2,gC,b00,b20] at hR;refine gM fun K F=>?_;simp only[go_sem,hF,g0,g4,hh,i64n i kO,w4_1,w4_2];refine gP p231 ?_;simp only[go_sem,hF,g0,g4,hh,i64n i kO,w4_1,w4_2];apply F;clear F K;rcases gK (decide ((1152921504606846976:Int)<c.snd)) with w4_3|w4_3
     ·simp only[w4_3,gC,b00,b20] at hR;apply gT (by simp only[go_sem,hF,g0,g4,hh,i64n i kO,w4_1,w4_2,w4_3]);apply gS (by simp only[go_sem,hF,g0,g4,hh,i64n i kO,w4_1,w4_2,w4_3];rfl);subst hR;exact wr (gy [.tmp 2] (by simp only[go_sem,hF,g0,g4,hh,i64n i kO,w4_1,w4_2,w4_3];exact⟨_,rfl,_,rfl⟩))
     simp only[w4_3,gC,b00,b20] at hR;apply gX (by simp only[go_sem,hF,g0,g4,hh,i64n i kO,w4_1,w4_2,w4_3]);refine Wc.skip ?_;refine Wc.seq ?_;refine Wc.regD fun K F=>?_;simp only[go_sem,hF,g0,g4,hh,i64n i kO,w4_1,w4_2,w4_3];apply F;clear F K;apply gX (by simp only[go_sem,hF,g0,g4,hh,i64n i kO,w4_1,w4_2,w4_3]);refine Wc.skip ?_;apply gR (by simp only[go_sem,hF,g0,g4,hh,i64n i kO,w4_1,w4_2,w4_3];rfl)
     exact⟨x.lk.length-(i+1),kO,i+1,rfl,⟨kO,hR⟩,rfl,by simp only[go_sem,hF],by(try simp only[gI]);repeat (first | exact oM (ho.sub (List.Sublist.refl _) (List.sublist_cons_self _ _)) | refine oN ?_ | refine oA ?_)⟩
    simp only[w4_1,gC,b00,b20] at hR;refine gM fun K F=>?_;simp only[go_sem,hF,g0,g4,hh,i64n i kO,w4_1];refine gP p231 ?_;simp only[go_sem,hF,g0,g4,hh,i64n i kO,w4_1];apply F;clear F K;apply gT (by simp only[go_sem,hF,g0,g4,hh,i64n i kO,w4_1]);apply gS (by simp only[go_sem,hF,g0,g4,hh,i64n i kO,w4_1];rfl);subst hR;exact wr (gy [.tmp 2] (by simp only[go_sem,hF,g0,g4,hh,i64n i kO,w4_1];exact⟨_,rfl,_,rfl⟩))
   ·have hh:((0:Int)<(i:Int))=True:=by simp;omega
    have hd:decide (0<i)=true:=by simp;omega
    obtain⟨q,hq⟩:∃ q,x.lk[i-1]? = some q:=⟨x.lk[i-1],List.getElem?_eq_getElem kO⟩
    have w1:IntKind.i64.wrap ((i:Int)-1)=((i-1:Nat):Int):=by rw[wi64];omega
    have hiq:=ixA ti126 rfl ti234 (j:=i-1) (m:=x.lk.length) (cs:=x.lk.flatMap p2) kO hfl kD
    have hcq:=rpG (f:=p2) (k:=2) (fun _=>rfl) hq
    have hcq1:=rpGo (f:=p2) (k:=2) (o:=1) (fun _=>rfl) hq kD
    simp only[p2,List.drop_succ_cons,List.drop_zero] at hcq1
    have hcp:cmpG cmpLk (x.lk[i-1]?) c=cmpLk q c:=by rw[hq];rfl
    rw[hcp] at hR
    rw[cmpLk_ge] at hR
    simp only[hd,gC,b00,b20] at hR;refine gO ?_;rcases gK (isTr c.fst) with w5_1|w5_1
    ·simp only[w5_1,gC,b00,b20] at hR;rcases gK (decide (c.snd<(1:Int))) with w5_2|w5_2
     ·simp only[w5_2,gC,b00,b20] at hR;refine gM fun K F=>?_;simp only[go_sem,hF,g0,g4,hh,w1,hiq,hcq,hcq1,i64n i kO,w5_1,w5_2];refine gP p231 ?_;simp only[go_sem,hF,g0,g4,hh,w1,hiq,hcq,hcq1,i64n i kO,w5_1,w5_2];apply F;clear F K;apply gT (by simp only[go_sem,hF,g0,g4,hh,w1,hiq,hcq,hcq1,i64n i kO,w5_1,w5_2]);apply gS (by simp only[go_sem,hF,g0,g4,hh,w1,hiq,hcq,hcq1,i64n i kO,w5_1,w5_2];rfl);subst hR;exact wr (gy [.tmp 2] (by simp only[go_sem,hF,g0,g4,hh,w1,hiq,hcq,hcq1,i64n i kO,w5_1,w5_2];exact⟨_,rfl,_,rfl⟩))
     simp only[w5_2,gC,b00,b20] at hR;refine gM fun K F=>?_;simp only[go_sem,hF,g0,g4,hh,w1,hiq,hcq,hcq1,i64n i kO,w5_1,w5_2];refine gP p231 ?_;simp only[go_sem,hF,g0,g4,hh,w1,hiq,hcq,hcq1,i64n i kO,w5_1,w5_2];apply F;clear F K;rcases gK (decide ((1152921504606846976:Int)<c.snd)) with w5_3|w5_3
     ·simp only[w5_3,gC,b00,b20] at hR;apply gT (by simp only[go_sem,hF,g0,g4,hh,w1,hiq,hcq,hcq1,i64n i kO,w5_1,w5_2,w5_3]);apply gS (by simp only[go_sem,hF,g0,g4,hh,w1,hiq,hcq,hcq1,i64n i kO,w5_1,w5_2,w5_3];rfl);subst hR;exact wr (gy [.tmp 2] (by simp only[go_sem,hF,g0,g4,hh,w1,hiq,hcq,hcq1,i64n i kO,w5_1,w5_2,w5_3];exact⟨_,rfl,_,rfl⟩))
     simp only[w5_3,gC,b00,b20] at hR;apply gX (by simp only[go_sem,hF,g0,g4,hh,w1,hiq,hcq,hcq1,i64n i kO,w5_1,w5_2,w5_3]);refine Wc.skip ?_;refine Wc.seq ?_;rcases gK (decide (c.fst<q.fst)) with w5_4|w5_4
     ·simp only[w5_4,gC,b00,b20] at hR;refine Wc.regD fun K F=>?_;simp only[go_sem,hF,g0,g4,hh,w1,hiq,hcq,hcq1,i64n i kO,w5_1,w5_2,w5_3,w5_4];apply F;clear F K;apply gT (by simp only[go_sem,hF,g0,g4,hh,w1,hiq,hcq,hcq1,i64n i kO,w5_1,w5_2,w5_3,w5_4]);apply gS (by simp only[go_sem,hF,g0,g4,hh,w1,hiq,hcq,hcq1,i64n i kO,w5_1,w5_2,w5_3,w5_4];rfl);subst hR;exact wr (gy [.tmp 2] (by simp only[go_sem,hF,g0,g4,hh,w1,hiq,hcq,hcq1,i64n i kO,w5_1,w5_2,w5_3,w5_4];exact⟨_,rfl,_,rfl⟩))
     simp only[w5_4,gC,b00,b20] at hR;rcases gK (q.fst==c.fst) with w5_5|w5_5
     ·simp only[w5_5,gC,b00,b20] at hR;refine Wc.regD fun K F=>?_;simp only[go_sem,hF,g0,g4,hh,w1,hiq,hcq,hcq1,i64n i kO,w5_1,w5_2,w5_3,w5_4,w5_5];apply F;clear F K;rcases gK (decide (c.snd≤q.snd)) with w5_6|w5_6
      ·simp only[w5_6,gC,b00,b20] at hR;apply gT (by simp only[go_sem,hF,g0,g4,hh,w1,hiq,hcq,hcq1,i64n i kO,w5_1,w5_2,w5_3,w5_4,w5_5,w5_6]);apply gS (by simp only[go_sem,hF,g0,g4,hh,w1,hiq,hcq,hcq1,i64n i kO,w5_1,w5_2,w5_3,w5_4,w5_5,w5_6];rfl);subst hR;exact wr (gy [.tmp 2] (by simp only[go_sem,hF,g0,g4,hh,w1,hiq,hcq,hcq1,i64n i kO,w5_1,w5_2,w5_3,w5_4,w5_5,w5_6];exact⟨_,rfl,_,rfl⟩))
      simp only[w5_6,gC,b00,b20] at hR;apply gX (by simp only[go_sem,hF,g0,g4,hh,w1,hiq,hcq,hcq1,i64n i kO,w5_1,w5_2,w5_3,w5_4,w5_5,w5_6]);refine Wc.skip ?_;apply gR (by simp only[go_sem,hF,g0,g4,hh,w1,hiq,hcq,hcq1,i64n i kO,w5_1,w5_2,w5_3,w5_4,w5_5,w5_6];rfl)
      exact⟨x.lk.length-(i+1),kO,i+1,rfl,⟨kO,hR⟩,rfl,by simp only[go_sem,hF],by(try simp only[gI]);repeat (first | exact oM (ho.sub (List.Sublist.refl _) (List.sublist_cons_self _ _)) | refine oN ?_ | refine oA ?_)⟩
     simp only[w5_5,gC,b00,b20] at hR;refine Wc.regD fun K F=>?_;simp only[go_sem,hF,g0,g4,hh,w1,hiq,hcq,hcq1,i64n i kO,w5_1,w5_2,w5_3,w5_4,w5_5];apply F;clear F K;apply gX (by simp only[go_sem,hF,g0,g4,hh,w1,hiq,hcq,hcq1,i64n i kO,w5_1,w5_2,w5_3,w5_4,w5_5]);refine Wc.skip ?_;apply gR (by simp only[go_sem,hF,g0,g4,hh,w1,hiq,hcq,hcq1,i64n i kO,w5_1,w5_2,w5_3,w5_4,w5_5];rfl)
     exact⟨x.lk.length-(i+1),kO,i+1,rfl,⟨kO,hR⟩,rfl,by simp only[go_sem,hF],by(try simp only[gI]);repeat (first | exact oM (ho.sub (List.Sublist.refl _) (List.sublist_cons_self _ _)) | refine oN ?_ | refine oA ?_)⟩
    simp only[w5_1,gC,b00,b20] at hR;refine gM fun K F=>?_;simp only[go_sem,hF,g0,g4,hh,w1,hiq,hcq,hcq1,i64n i kO,w5_1];refine gP p231 ?_;simp only[go_sem,hF,g0,g4,hh,w1,hiq,hcq,hcq1,i64n i kO,w5_1];apply F;clear F K;apply gT (by simp only[go_sem,hF,g0,g4,hh,w1,hiq,hcq,hcq1,i64n i kO,w5_1]);apply gS (by simp only[go_sem,hF,g0,g4,hh,w1,hiq,hcq,hcq1,i64n i kO,w5_1];rfl);subst hR;exact wr (gy [.tmp 2] (by simp only[go_sem,hF,g0,g4,hh,w1,hiq,hcq,hcq1,i64n i kO,w5_1];exact⟨_,rfl,_,rfl⟩))
  ·have hil:i=x.lk.length:=by have:=of_decide_eq_false hc;omega
   rw[hil,List.drop_length,lstR_nil] at hR
   exact Wc.exit ⟨hR.symm,rfl,by simp only[go_sem,hF]⟩
 rintro⟨e,ds,s1⟩ ⟨rfl,rfl,hF⟩
 simp only[Fs] at hF;apply gS kG;exact wr (gy [.tmp 2] (by simp only[go_sem,hF];exact⟨_,rfl,_,rfl⟩))
end Go.Proofs.YtedcnhbblgmdnaaGreat.Ab
