/- A part of the proof. -/
import Derived.Test.YtedcnhbblgmdnaaGreatT34
import Derived.Test.YtedcnhbblgmdnaaGreatT35
set_option maxHeartbeats 8000000
set_option maxRecDepth 10000
set_option linter.unusedSimpArgs false
set_option linter.unusedVariables false
namespace Go.Proofs.YtedcnhbblgmdnaaGreat.Ab
def nz (a b:Int):Int:=bif a != 0 then a else b
theorem nz4 (b:Int):nz 4 b=4:=rfl
theorem nz_nz (a b c:Int):nz (nz a b) c=nz a (nz b c):=by
 unfold nz;cases h:(a != 0) with
 |true=>simp only[cond_true,h]
 |false=>simp only[cond_false]
theorem nz_0 (a:Int):nz 0 a=a:=rfl
theorem lstR_elt {A:Type}{ok:A→Bool}{cmp:A→A→Int}{l:List A}{i:Nat}{c q:A}(h:l[i]? = some c)(hq:l[i-1]? = some q):lstR (okC ok) cmp (prevG l i) (l.drop i)=nz (elt (ok c) i (cmp q c)) (lstR (okC ok) cmp (prevG l (i+1)) (l.drop (i+1))):=by
 rw[lstR_step h,hq]
 have e1:cmpG cmp (some q) c=cmp q c:=rfl
 have e2:decide ((0:Int)<(i:Int))=decide (0<i):=by rw[decide_eq_decide];omega
 rw[e1]
 unfold okC elt nz
 rw[e2]
 cases ok c
 ·rfl
 ·cases decide (0<i)&&decide (0≤cmp q c)<;>rfl
def chkD (x:Dat):Int:=nz (chkL serOK cmpSr x.ss) (nz (chkL okE cmpE x.es) (nz (chkL okP cmpSp x.sp) (nz (chkL okPr cmpPr x.ps) (chkL okX cmpX x.xs))))
structure Dat.Sz (x:Dat):Prop where
 l1:x.ss.length<2^40
 z1:∀ c∈x.ss,Ser.Sz c
 l2:x.es.length<2^60
 z2:∀ c∈x.es,Ent.Sz c
 l3:x.sp.length≤500
 z3:∀ c∈x.sp,Spn.Sz c
 l4:x.ps.length<2^60
 z4:∀ c∈x.ps,Prf.Sz c
 l5:x.xs.length<2^60
 z5:∀ c∈x.xs,Exm.Sz c
theorem pf42g (x:Dat)(z:x.Sz):Pf E0 42 [.agg (x.pd.map .p)] (P' (pI (chkD x))):=by
 generalize hR:chkD x=R;unfold chkD at hR
 have p1:=pf71g x.ss (by have:=z.l1;omega) z.z1
 have p2:=pf76g x.es z.l2 z.z2
 have p3:=pf80g x.sp (by have:=z.l3;omega) z.z3
 have p4:=pf82g x.sp z.l3
 have p5:=pf85g x.ps z.l4 z.z4
 have p6:=pf87g x.xs z.l5 z.z5
 refine gQ (fn:=Tryz.f42) ?_;simp only[gL,Tryz.ntmps42,Nat.reduceSub,Nat.reduceAdd];refine gY ?_;refine Wc.seq ?_;refine gN fun K F=>?_;simp only[go_sem];refine gP p1 ?_;simp only[go_sem];apply F;clear F K;refine gY ?_;rcases gK (chkL serOK cmpSr x.ss !=(0:Int)) with w0_1|w0_1
 ·simp only[w0_1,gC,nz4,nz] at hR;apply gT (by simp only[go_sem,w0_1]);apply gS (by simp only[go_sem,w0_1];rfl);subst hR;exact wr (gy [.tmp 2] (by simp only[go_sem,w0_1];exact⟨_,rfl,_,rfl⟩))
 simp only[w0_1,gC,nz4,nz] at hR;apply gX (by simp only[go_sem,w0_1]);refine Wc.skip ?_;apply gS (by simp only[go_sem,w0_1];rfl);refine Wc.seq ?_;refine gN fun K F=>?_;simp only[go_sem,w0_1];refine gP p2 ?_;simp only[go_sem,w0_1];apply F;clear F K;apply gS (by simp only[go_sem,w0_1];rfl);rcases gK (chkL okE cmpE x.es !=(0:Int)) with w0_2|w0_2
 ·simp only[w0_2,gC,nz4,nz] at hR;apply gT (by simp only[go_sem,w0_1,w0_2]);apply gS (by simp only[go_sem,w0_1,w0_2];rfl);subst hR;exact wr (gy [.tmp 2] (by simp only[go_sem,w0_1,w0_2];exact⟨_,rfl,_,rfl⟩))
 simp only[w0_2,gC,nz4,nz] at hR;apply gX (by simp only[go_sem,w0_1,w0_2]);refine Wc.skip ?_;apply gS (by simp only[go_sem,w0_1,w0_2];rfl);refine Wc.seq ?_;refine gN fun K F=>?_;simp only[go_sem,w0_1,w0_2];refine gP p3 ?_;simp only[go_sem,w0_1,w0_2];apply F;clear F K;apply gS (by simp only[go_sem,w0_1,w0_2];rfl);rcases gK (chkL okP cmpSp x.sp !=(0:Int)) with w0_3|w0_3
 ·simp only[w0_3,gC,nz4,nz] at hR;apply gT (by simp only[go_sem,w0_1,w0_2,w0_3]);apply gS (by simp only[go_sem,w0_1,w0_2,w0_3];rfl);subst hR;exact wr (gy [.tmp 2] (by simp only[go_sem,w0_1,w0_2,w0_3];exact⟨_,rfl,_,rfl⟩))
 simp only[w0_3,gC,nz4,nz] at hR;apply gX (by simp only[go_sem,w0_1,w0_2,w0_3]);refine Wc.skip ?_;refine Wc.seq ?_;refine gN fun K F=>?_;simp only[go_sem,w0_1,w0_2,w0_3];refine gP p4 ?_;simp only[go_sem,w0_1,w0_2,w0_3];apply F;clear F K;apply gX (by simp only[go_sem,w0_1,w0_2,w0_3]);refine Wc.skip ?_;apply gS (by simp only[go_sem,w0_1,w0_2,w0_3];rfl);refine Wc.seq ?_;refine gN fun K F=>?_;simp only[go_sem,w0_1,w0_2,w0_3];refine gP p5 ?_;simp only[go_sem,w0_1,w0_2,w0_3];apply F;clear F K;apply gS (by simp only[go_sem,w0_1,w0_2,w0_3];rfl);rcases gK (chkL okPr cmpPr x.ps !=(0:Int)) with w0_4|w0_4
 ·simp only[w0_4,gC,nz4,nz] at hR;apply gT (by simp only[go_sem,w0_1,w0_2,w0_3,w0_4]);apply gS (by simp only[go_sem,w0_1,w0_2,w0_3,w0_4];rfl);subst hR;exact wr (gy [.tmp 2] (by simp only[go_sem,w0_1,w0_2,w0_3,w0_4];exact⟨_,rfl,_,rfl⟩))
 simp only[w0_4,gC,nz4,nz] at hR;apply gX (by simp only[go_sem,w0_1,w0_2,w0_3,w0_4]);refine Wc.skip ?_;refine gN fun K F=>?_;simp only[go_sem,w0_1,w0_2,w0_3,w0_4];refine gP p6 ?_;simp only[go_sem,w0_1,w0_2,w0_3,w0_4];apply F;clear F K;subst hR;exact wr (gy [.tmp 2] (by simp only[go_sem,w0_1,w0_2,w0_3,w0_4];exact⟨_,rfl,_,rfl⟩))
theorem pf113 (l:List Spn)(hl:l.length≤500)(hz:∀ c∈l,Spn.Sz c):Pf E0 113 [.c (.p (.lst l.length (l.flatMap Spn.pd)))] (P' (pI (chkL okP cmpSp l))):=by
 have hfl0:(l.flatMap Spn.pd).length=l.length*10:=flat_len (k:=10) (fun _=>rfl) l
 generalize hR:chkL okP cmpSp l=R;unfold chkL at hR;refine gQ (fn:=Tryz.f113) ?_;simp only[gL,Tryz.ntmps113,Nat.reduceSub,Nat.reduceAdd];refine gY ?_;refine Wc.seq ?_;refine gY ?_;rcases gK (decide ((1000:Int)<(↑l.length:Int))) with w1_1|w1_1
 ·simp only[w1_1,gC,nz4,nz] at hR;apply gT (by simp only[go_sem,w1_1]);apply gS (by simp only[go_sem,w1_1];rfl);subst hR;exact wr (gy [.tmp 2] (by simp only[go_sem,w1_1];exact⟨_,rfl,_,rfl⟩))
 simp only[w1_1,gC,nz4,nz] at hR;apply gX (by simp only[go_sem,w1_1]);refine Wc.skip ?_;refine Wc.seqR (fun y=>R=0∧y.ds=[]∧Fs y.e 55 [(0,P' (.lst l.length (l.flatMap Spn.pd)))]) ?_ ?_
 ·have hR0:lstR (okC okP) cmpSp (prevG l 0) (l.drop 0)=R:=hR
  clear hR;refine gY ?_;refine Wc.block (Wc.loop (fun k y=>∃ i:Nat,k=l.length-i∧(i≤l.length∧lstR (okC okP) cmpSp (prevG l i) (l.drop i)=R)∧y.ds=[]∧Fs y.e 55 [(0,P' (.lst l.length (l.flatMap Spn.pd))),(3,P' (pI i))]) ?_ (k:=l.length) ⟨0,rfl,⟨kO,hR0⟩,rfl,by simp only[go_sem]⟩);clear hR0;rintro k ⟨e,ds,s1⟩ ⟨i,rfl,⟨hi,hR⟩,rfl,hF⟩;simp only[Fs] at hF;refine gO ?_;apply gR kG;refine Wc.cond (t:=decide ((i:Int)<l.length)) kF (fun hc=>?_) (fun hc=>?_)
  ·have hil:i<l.length:=gi hc
   obtain⟨c,hcc⟩:=gE hil
   obtain⟨q,hq⟩:∃ q,l[i-1]? = some q:=⟨l[i-1],List.getElem?_eq_getElem kO⟩
   have zc:=hz c (gw hcc)
   have zq:=hz q (gw hq)
   have w1:IntKind.i64.wrap ((i:Int)-1)=(i:Int)-1:=by rw[wi64];omega
   have hm:(if (i:Int)-1<0 then (0:Int) else (i:Int)-1)=((i-1:Nat):Int):=by split<;>omega
   rw[lstR_elt hcc hq] at hR
   have hix:=ixA ti54 rfl ti128 (j:=i) (m:=l.length) (cs:=l.flatMap Spn.pd) hil hfl0 kD
   have hca:=rpG (f:=Spn.pd) (k:=10) (fun _=>rfl) hcc
   have hiq:=ixA ti54 rfl ti128 (j:=i-1) (m:=l.length) (cs:=l.flatMap Spn.pd) kO hfl0 kD
   have hcq:=rpG (f:=Spn.pd) (k:=10) (fun _=>rfl) hq
   have p183:=pf183 c zc
   have p184:=pf184 q c
   have p110:Pf E0 110 [.c (.p (.bool (chkP c==0))),.c (.p (pI i)),.c (.p (pI (cmpSp q c)))] (P' (pI (elt (okP c) i (cmpSp q c)))):=pf110 _ _ _
   generalize elt (okP c) i (cmpSp q c)=EL at hR p110;refine Wc.skip ?_;refine Wc.seq ?_;refine Wc.block ?_;refine Wc.seq ?_;refine Wc.regT fun K F=>?_;simp only[go_sem,hF,foldO,hix,hca,w1,hm,hiq,hcq,i64n i kO];refine gP p183 ?_;simp only[go_sem,hF,foldO,hix,hca,w1,hm,hiq,hcq,i64n i kO];refine gP p184 ?_;simp only[go_sem,hF,foldO,hix,hca,w1,hm,hiq,hcq,i64n i kO];refine gP p110 ?_;simp only[go_sem,hF,foldO,hix,hca,w1,hm,hiq,hcq,i64n i kO];refine⟨by rw[trOK_eq3];rfl,F _ _ ?_⟩;clear F K;apply gS (by simp only[go_sem,hF,foldO,hix,hca,w1,hm,hiq,hcq,i64n i kO];rfl);rcases gK (EL !=(0:Int)) with w2_1|w2_1
   ·simp only[w2_1,gC,nz4,nz] at hR;apply gT (by simp only[go_sem,hF,foldO,hix,hca,w1,hm,hiq,hcq,i64n i kO,w2_1]);apply gS (by simp only[go_sem,hF,foldO,hix,hca,w1,hm,hiq,hcq,i64n i kO,w2_1];rfl);subst hR;exact wr (gy [.tmp 2] (by simp only[go_sem,hF,foldO,hix,hca,w1,hm,hiq,hcq,i64n i kO,w2_1];exact⟨_,rfl,_,rfl⟩))
   simp only[w2_1,gC,nz4,nz] at hR;apply gX (by simp only[go_sem,hF,foldO,hix,hca,w1,hm,hiq,hcq,i64n i kO,w2_1]);refine Wc.skip ?_;apply gR (by simp only[go_sem,hF,foldO,hix,hca,w1,hm,hiq,hcq,i64n i kO,w2_1];rfl)
   exact⟨l.length-(i+1),kO,i+1,rfl,⟨kO,hR⟩,rfl,by simp only[go_sem,hF]⟩
  ·have hil:i=l.length:=by have:=of_decide_eq_false hc;omega
   rw[hil,List.drop_length,lstR_nil] at hR
   exact Wc.exit ⟨hR.symm,rfl,by simp only[go_sem,hF]⟩
 rintro⟨e,ds,s1⟩ ⟨rfl,rfl,hF⟩
 simp only[Fs] at hF
 have hd:decide ((500:Int)<(l.length:Int))=false:=decide_eq_false kO
 refine Wc.seqR (fun y=>y.ds=[]∧Fs y.e 55 []) ?_ ?_
 ·apply gS kG;refine Wc.block (Wc.loop (fun k y=>y.ds=[]∧Fs y.e 55 [(0,P' (.lst l.length (l.flatMap Spn.pd))),(5,P' (pI 500))]) ?_ (k:=0) ⟨rfl,by simp only[go_sem,hF]⟩);rintro k ⟨e,ds,s1⟩ ⟨rfl,hF⟩;simp only[Fs] at hF;refine gO ?_;apply gR kG;apply gX (by simp only[go_sem,hF,hd]);exact Wc.exit ⟨rfl,by simp only[go_sem,hF]⟩
 rintro⟨e,ds,s1⟩ ⟨rfl,hF⟩
 simp only[Fs] at hF;apply gS kG;exact wr (gy [.tmp 2] (by simp only[go_sem,hF];exact⟨_,rfl,_,rfl⟩))
theorem pf61 (x:Dat)(z:x.Sz):Pf E0 61 [.agg (x.pd.map .p)] (P' (pI (chkD x))):=by
 have hfl1:(x.ss.flatMap Ser.pd).length=x.ss.length*4:=flat_len (k:=4) (fun _=>rfl) x.ss
 have hfl2:(x.es.flatMap Ent.pd).length=x.es.length*5:=flat_len (k:=5) (fun _=>rfl) x.es
 have hfl4:(x.ps.flatMap Prf.pd).length=x.ps.length*3:=flat_len (k:=3) (fun _=>rfl) x.ps
 have hfl5:(x.xs.flatMap Exm.pd).length=x.xs.length*5:=flat_len (k:=5) (fun _=>rfl) x.xs
 generalize hR:chkD x=R;unfold chkD at hR
 have hl1:=z.l1
 have hl2:=z.l2
 have hl4:=z.l4
 have hl5:=z.l5
 refine gQ (fn:=Tryz.f61) ?_;simp only[gL,Tryz.ntmps61,Nat.reduceSub,Nat.reduceAdd]
 have hR':nz (bif decide (1000<(x.ss.length:Int)) then 4 else lstR (okC serOK) cmpSr none x.ss) (nz (chkL okE cmpE x.es) (nz (chkL okP cmpSp x.sp) (nz (chkL okPr cmpPr x.ps) (chkL okX cmpX x.xs))))=R:=hR
 clear hR
 have hR:=hR'
 clear hR';refine gY ?_;refine Wc.seq ?_;refine gY ?_;rcases gK (decide ((1000:Int)<(↑x.ss.length:Int))) with w4_1|w4_1
 ·simp only[w4_1,gC,nz4,nz] at hR;apply gT (by simp only[go_sem,w4_1]);apply gS (by simp only[go_sem,w4_1];rfl);subst hR;exact wr (gy [.tmp 2] (by simp only[go_sem,w4_1];exact⟨_,rfl,_,rfl⟩))
 simp only[w4_1,gC,nz4,nz] at hR;apply gX (by simp only[go_sem,w4_1]);refine Wc.skip ?_;refine Wc.seqR (fun y=>nz (chkL okE cmpE x.es) (nz (chkL okP cmpSp x.sp) (nz (chkL okPr cmpPr x.ps) (chkL okX cmpX x.xs)))=R∧y.ds=[]∧Fs y.e 162 [(1,.v (.c (.ref 0 0)))]∧OA y.s.nx y.s [] [(0,.cells (x.pd.map .p) false)]) ?_ ?_
 ·have hR0:nz (lstR (okC serOK) cmpSr (prevG x.ss 0) (x.ss.drop 0)) (nz (chkL okE cmpE x.es) (nz (chkL okP cmpSp x.sp) (nz (chkL okPr cmpPr x.ps) (chkL okX cmpX x.xs))))=R:=hR
  clear hR;refine gY ?_;refine Wc.block (Wc.loop (fun k y=>∃ i:Nat,k=x.ss.length-i∧(i≤x.ss.length∧nz (lstR (okC serOK) cmpSr (prevG x.ss i) (x.ss.drop i)) (nz (chkL okE cmpE x.es) (nz (chkL okP cmpSp x.sp) (nz (chkL okPr cmpPr x.ps) (chkL okX cmpX x.xs))))=R)∧y.ds=[]∧Fs y.e 162 [(1,.v (.c (.ref 0 0))),(3,P' (pI i))]∧OA y.s.nx y.s [] [(0,.cells (x.pd.map .p) false)]) ?_ (k:=x.ss.length) ⟨0,rfl,⟨kO,hR0⟩,rfl,by simp only[go_sem],oW⟩);clear hR0;rintro k ⟨e,ds,s1⟩ ⟨i,rfl,⟨hi,hR⟩,rfl,hF,ho⟩;simp only[Fs] at hF ho
  have g0:=ho.at_ (0,.cells (x.pd.map .p) false) kS
  simp only[gm] at g0;refine gO ?_;apply gR kC;refine Wc.cond (t:=decide ((i:Int)<x.ss.length)) kF (fun hc=>?_) (fun hc=>?_)
  ·have hil:i<x.ss.length:=gi hc
   obtain⟨c,hcc⟩:=gE hil
   obtain⟨q,hq⟩:∃ q,x.ss[i-1]? = some q:=⟨x.ss[i-1],List.getElem?_eq_getElem kO⟩
   have zc:=z.z1 c (gw hcc)
   have zq:=z.z1 q (gw hq)
   have w1:IntKind.i64.wrap ((i:Int)-1)=(i:Int)-1:=by rw[wi64];omega
   have hm:(if (i:Int)-1<0 then (0:Int) else (i:Int)-1)=((i-1:Nat):Int):=by split<;>omega
   rw[lstR_elt hcc hq,nz_nz] at hR
   have hix:=ixA ti52 rfl ti26 (j:=i) (m:=x.ss.length) (cs:=x.ss.flatMap Ser.pd) hil hfl1 kD
   have hca:=rpG (f:=Ser.pd) (k:=4) (fun _=>rfl) hcc
   have hiq:=ixA ti52 rfl ti26 (j:=i-1) (m:=x.ss.length) (cs:=x.ss.flatMap Ser.pd) kO hfl1 kD
   have hcq:=rpG (f:=Ser.pd) (k:=4) (fun _=>rfl) hq
   have p44:=pf44 c zc
   have p96:Pf E0 96 [.c (.p (.lst q.lb.length (q.lb.flatMap lbP))),.c (.p (.lst c.lb.length (c.lb.flatMap lbP)))] (P' (pI (cmpSr q c))):=pf96g q.lb c.lb (by have:=zq.lb;omega) (by have:=zc.lb;omega)
   have p110:=pf110 (serOK c) i (cmpSr q c)
   generalize elt (serOK c) i (cmpSr q c)=EL at hR p110;refine Wc.skip ?_;refine Wc.seq ?_;refine Wc.block ?_;refine Wc.seq ?_;refine Wc.regT fun K F=>?_;simp only[go_sem,hF,g0,foldO,hix,hca,w1,hm,hiq,hcq,i64n i kO];refine gP p44 ?_;simp only[go_sem,hF,g0,foldO,hix,hca,w1,hm,hiq,hcq,i64n i kO];refine gP p96 ?_;simp only[go_sem,hF,g0,foldO,hix,hca,w1,hm,hiq,hcq,i64n i kO];refine gP p110 ?_;simp only[go_sem,hF,g0,foldO,hix,hca,w1,hm,hiq,hcq,i64n i kO];refine⟨by rw[trOK_eq3];rfl,F _ _ ?_⟩;clear F K;apply gS (by simp only[go_sem,hF,g0,foldO,hix,hca,w1,hm,hiq,hcq,i64n i kO];rfl);rcases gK (EL !=(0:Int)) with w5_1|w5_1
   ·simp only[w5_1,gC,nz4,nz] at hR;apply gT (by simp only[go_sem,hF,g0,foldO,hix,hca,w1,hm,hiq,hcq,i64n i kO,w5_1]);apply gS (by simp only[go_sem,hF,g0,foldO,hix,hca,w1,hm,hiq,hcq,i64n i kO,w5_1];rfl);subst hR;exact wr (gy [.tmp 2] (by simp only[go_sem,hF,g0,foldO,hix,hca,w1,hm,hiq,hcq,i64n i kO,w5_1];exact⟨_,rfl,_,rfl⟩))
   simp only[w5_1,gC,nz4,nz] at hR;apply gX (by simp only[go_sem,hF,g0,foldO,hix,hca,w1,hm,hiq,hcq,i64n i kO,w5_1]);refine Wc.skip ?_;apply gR (by simp only[go_sem,hF,g0,foldO,hix,hca,w1,hm,hiq,hcq,i64n i kO,w5_1];rfl)
   exact⟨x.ss.length-(i+1),kO,i+1,rfl,⟨kO,hR⟩,rfl,by simp only[go_sem,hF],oZ⟩
  ·have hil:i=x.ss.length:=by have:=of_decide_eq_false hc;omega
   rw[hil,List.drop_length,lstR_nil,nz_0] at hR
   exact Wc.exit ⟨hR,rfl,by simp only[go_sem,hF],oZ⟩
 rintro⟨e,ds,s1⟩ ⟨hR,rfl,hF,ho⟩
 simp only[Fs] at hF ho
 have g0:=ho.at_ (0,.cells (x.pd.map .p) false) kS
 simp only[gm] at g0
 have hR':nz (bif decide (1000<(x.es.length:Int)) then 4 else lstR (okC okE) cmpE none x.es) (nz (chkL okP cmpSp x.sp) (nz (chkL okPr cmpPr x.ps) (chkL okX cmpX x.xs)))=R:=hR
 clear hR
 have hR:=hR'
 clear hR';refine Wc.seq ?_;apply gS kC;rcases gK (decide ((1000:Int)<(↑x.es.length:Int))) with w6_1|w6_1
 ·simp only[w6_1,gC,nz4,nz] at hR;apply gT (by simp only[go_sem,hF,g0,w6_1]);apply gS (by simp only[go_sem,hF,g0,w6_1];rfl);subst hR;exact wr (gy [.tmp 2] (by simp only[go_sem,hF,g0,w6_1];exact⟨_,rfl,_,rfl⟩))
 simp only[w6_1,gC,nz4,nz] at hR;apply gX (by simp only[go_sem,hF,g0,w6_1]);refine Wc.skip ?_;refine Wc.seqR (fun y=>nz (chkL okP cmpSp x.sp) (nz (chkL okPr cmpPr x.ps) (chkL okX cmpX x.xs))=R∧y.ds=[]∧Fs y.e 162 [(1,.v (.c (.ref 0 0)))]∧OA y.s.nx y.s [] [(0,.cells (x.pd.map .p) false)]) ?_ ?_
 ·have hR0:nz (lstR (okC okE) cmpE (prevG x.es 0) (x.es.drop 0)) (nz (chkL okP cmpSp x.sp) (nz (chkL okPr cmpPr x.ps) (chkL okX cmpX x.xs)))=R:=hR
  clear hR;apply gS kG;refine Wc.block (Wc.loop (fun k y=>∃ i:Nat,k=x.es.length-i∧(i≤x.es.length∧nz (lstR (okC okE) cmpE (prevG x.es i) (x.es.drop i)) (nz (chkL okP cmpSp x.sp) (nz (chkL okPr cmpPr x.ps) (chkL okX cmpX x.xs)))=R)∧y.ds=[]∧Fs y.e 162 [(1,.v (.c (.ref 0 0))),(5,P' (pI i))]∧OA y.s.nx y.s [] [(0,.cells (x.pd.map .p) false)]) ?_ (k:=x.es.length) ⟨0,rfl,⟨kO,hR0⟩,rfl,by simp only[go_sem,hF],oZ⟩);clear hR0 hF ho g0 e s1;rintro k ⟨e,ds,s1⟩ ⟨i,rfl,⟨hi,hR⟩,rfl,hF,ho⟩;simp only[Fs] at hF ho
  have g0:=ho.at_ (0,.cells (x.pd.map .p) false) kS
  simp only[gm] at g0;refine gO ?_;apply gR kC;refine Wc.cond (t:=decide ((i:Int)<x.es.length)) kF (fun hc=>?_) (fun hc=>?_)
  ·have hil:i<x.es.length:=gi hc
   obtain⟨c,hcc⟩:=gE hil
   obtain⟨q,hq⟩:∃ q,x.es[i-1]? = some q:=⟨x.es[i-1],List.getElem?_eq_getElem kO⟩
   have zc:=z.z2 c (gw hcc)
   have zq:=z.z2 q (gw hq)
   have w1:IntKind.i64.wrap ((i:Int)-1)=(i:Int)-1:=by rw[wi64];omega
   have hm:(if (i:Int)-1<0 then (0:Int) else (i:Int)-1)=((i-1:Nat):Int):=by split<;>omega
   rw[lstR_elt hcc hq,nz_nz] at hR
   have hix:=ixA ti53 rfl ti121 (j:=i) (m:=x.es.length) (cs:=x.es.flatMap Ent.pd) hil hfl2 kD
   have hca:=rpG (f:=Ent.pd) (k:=5) (fun _=>rfl) hcc
   have hiq:=ixA ti53 rfl ti121 (j:=i-1) (m:=x.es.length) (cs:=x.es.flatMap Ent.pd) kO hfl2 kD
   have hcq:=rpG (f:=Ent.pd) (k:=5) (fun _=>rfl) hq
   have p111:=pf111 c zc
   have p112:=pf112 q c ⟨by have:=zq.lb;omega,by have:=zq.fs;omega⟩ ⟨by have:=zc.lb;omega,by have:=zc.fs;omega⟩
   have p110:Pf E0 110 [.c (.p (.bool (chkE c==0))),.c (.p (pI i)),.c (.p (pI (cmpE q c)))] (P' (pI (elt (okE c) i (cmpE q c)))):=pf110 _ _ _
   generalize elt (okE c) i (cmpE q c)=EL at hR p110;refine Wc.skip ?_;refine Wc.seq ?_;refine Wc.block ?_;refine Wc.seq ?_;refine Wc.regT fun K F=>?_;simp only[go_sem,hF,g0,foldO,hix,hca,w1,hm,hiq,hcq,i64n i kO];refine gP p111 ?_;simp only[go_sem,hF,g0,foldO,hix,hca,w1,hm,hiq,hcq,i64n i kO];refine gP p112 ?_;simp only[go_sem,hF,g0,foldO,hix,hca,w1,hm,hiq,hcq,i64n i kO];refine gP p110 ?_;simp only[go_sem,hF,g0,foldO,hix,hca,w1,hm,hiq,hcq,i64n i kO];refine⟨by rw[trOK_eq3];rfl,F _ _ ?_⟩;clear F K;apply gS (by simp only[go_sem,hF,g0,foldO,hix,hca,w1,hm,hiq,hcq,i64n i kO];rfl);rcases gK (EL !=(0:Int)) with w7_1|w7_1
   ·simp only[w7_1,gC,nz4,nz] at hR;apply gT (by simp only[go_sem,hF,g0,foldO,hix,hca,w1,hm,hiq,hcq,i64n i kO,w7_1]);apply gS (by simp only[go_sem,hF,g0,foldO,hix,hca,w1,hm,hiq,hcq,i64n i kO,w7_1];rfl);subst hR;exact wr (gy [.tmp 2] (by simp only[go_sem,hF,g0,foldO,hix,hca,w1,hm,hiq,hcq,i64n i kO,w7_1];exact⟨_,rfl,_,rfl⟩))
   simp only[w7_1,gC,nz4,nz] at hR;apply gX (by simp only[go_sem,hF,g0,foldO,hix,hca,w1,hm,hiq,hcq,i64n i kO,w7_1]);refine Wc.skip ?_;apply gR (by simp only[go_sem,hF,g0,foldO,hix,hca,w1,hm,hiq,hcq,i64n i kO,w7_1];rfl)
   exact⟨x.es.length-(i+1),kO,i+1,rfl,⟨kO,hR⟩,rfl,by simp only[go_sem,hF],oZ⟩
  ·have hil:i=x.es.length:=by have:=of_decide_eq_false hc;omega
   rw[hil,List.drop_length,lstR_nil,nz_0] at hR
   exact Wc.exit ⟨hR,rfl,by simp only[go_sem,hF],oZ⟩
 rintro⟨e,ds,s1⟩ ⟨hR,rfl,hF,ho⟩
 simp only[Fs] at hF ho
 have g0:=ho.at_ (0,.cells (x.pd.map .p) false) kS
 simp only[gm] at g0
 have p113:=pf113 x.sp z.l3 z.z3
 generalize chkL okP cmpSp x.sp=C3 at hR p113
 have hR':nz C3 (nz (bif decide (1000<(x.ps.length:Int)) then 4 else lstR (okC okPr) cmpPr none x.ps) (chkL okX cmpX x.xs))=R:=hR
 clear hR
 have hR:=hR'
 clear hR';refine Wc.seq ?_;refine gN fun K F=>?_;simp only[go_sem,hF,g0];refine gP p113 ?_;simp only[go_sem,hF,g0];apply F;clear F K;apply gS kC;rcases gK (C3 !=(0:Int)) with w8_1|w8_1
 ·simp only[w8_1,gC,nz4,nz] at hR;apply gT (by simp only[go_sem,hF,g0,w8_1]);apply gS (by simp only[go_sem,hF,g0,w8_1];rfl);subst hR;exact wr (gy [.tmp 2] (by simp only[go_sem,hF,g0,w8_1];exact⟨_,rfl,_,rfl⟩))
 simp only[w8_1,gC,nz4,nz] at hR;apply gX (by simp only[go_sem,hF,g0,w8_1]);refine Wc.skip ?_;refine Wc.seq ?_;apply gS (by simp only[go_sem,hF,g0,w8_1];rfl);rcases gK (decide ((1000:Int)<(↑x.ps.length:Int))) with w8_2|w8_2
 ·simp only[w8_2,gC,nz4,nz] at hR;apply gT (by simp only[go_sem,hF,g0,w8_1,w8_2]);apply gS (by simp only[go_sem,hF,g0,w8_1,w8_2];rfl);subst hR;exact wr (gy [.tmp 2] (by simp only[go_sem,hF,g0,w8_1,w8_2];exact⟨_,rfl,_,rfl⟩))
 simp only[w8_2,gC,nz4,nz] at hR;apply gX (by simp only[go_sem,hF,g0,w8_1,w8_2]);refine Wc.skip ?_;refine Wc.seqR (fun y=>chkL okX cmpX x.xs=R∧y.ds=[]∧Fs y.e 162 [(1,.v (.c (.ref 0 0)))]∧OA y.s.nx y.s [] [(0,.cells (x.pd.map .p) false)]) ?_ ?_
 ·have hR0:nz (lstR (okC okPr) cmpPr (prevG x.ps 0) (x.ps.drop 0)) (chkL okX cmpX x.xs)=R:=hR
  clear hR;apply gS kG;refine Wc.block (Wc.loop (fun k y=>∃ i:Nat,k=x.ps.length-i∧(i≤x.ps.length∧nz (lstR (okC okPr) cmpPr (prevG x.ps i) (x.ps.drop i)) (chkL okX cmpX x.xs)=R)∧y.ds=[]∧Fs y.e 162 [(1,.v (.c (.ref 0 0))),(8,P' (pI i))]∧OA y.s.nx y.s [] [(0,.cells (x.pd.map .p) false)]) ?_ (k:=x.ps.length) ⟨0,rfl,⟨kO,hR0⟩,rfl,by simp only[go_sem,hF],oZ⟩);clear hR0 hF ho g0 e s1;rintro k ⟨e,ds,s1⟩ ⟨i,rfl,⟨hi,hR⟩,rfl,hF,ho⟩;simp only[Fs] at hF ho
  have g0:=ho.at_ (0,.cells (x.pd.map .p) false) kS
  simp only[gm] at g0;refine gO ?_;apply gR kC;refine Wc.cond (t:=decide ((i:Int)<x.ps.length)) kF (fun hc=>?_) (fun hc=>?_)
  ·have hil:i<x.ps.length:=gi hc
   obtain⟨c,hcc⟩:=gE hil
   obtain⟨q,hq⟩:∃ q,x.ps[i-1]? = some q:=⟨x.ps[i-1],List.getElem?_eq_getElem kO⟩
   have zc:=z.z4 c (gw hcc)
   have zq:=z.z4 q (gw hq)
   have w1:IntKind.i64.wrap ((i:Int)-1)=(i:Int)-1:=by rw[wi64];omega
   have hm:(if (i:Int)-1<0 then (0:Int) else (i:Int)-1)=((i-1:Nat):Int):=by split<;>omega
   rw[lstR_elt hcc hq,nz_nz] at hR
   have hix:=ixA ti55 rfl ti106 (j:=i) (m:=x.ps.length) (cs:=x.ps.flatMap Prf.pd) hil hfl4 kD
   have hca:=rpG (f:=Prf.pd) (k:=3) (fun _=>rfl) hcc
   have hiq:=ixA ti55 rfl ti106 (j:=i-1) (m:=x.ps.length) (cs:=x.ps.flatMap Prf.pd) kO hfl4 kD
   have hcq:=rpG (f:=Prf.pd) (k:=3) (fun _=>rfl) hq
   have p114:=pf114 c zc
   have p115:=pf115 q c (by have:=zq.lb;omega) (by have:=zc.lb;omega)
   have p110:Pf E0 110 [.c (.p (.bool (chkPr c==0))),.c (.p (pI i)),.c (.p (pI (cmpPr q c)))] (P' (pI (elt (okPr c) i (cmpPr q c)))):=pf110 _ _ _
   generalize elt (okPr c) i (cmpPr q c)=EL at hR p110;refine Wc.skip ?_;refine Wc.seq ?_;refine Wc.block ?_;refine Wc.seq ?_;refine Wc.regT fun K F=>?_;simp only[go_sem,hF,g0,foldO,hix,hca,w1,hm,hiq,hcq,i64n i kO];refine gP p114 ?_;simp only[go_sem,hF,g0,foldO,hix,hca,w1,hm,hiq,hcq,i64n i kO];refine gP p115 ?_;simp only[go_sem,hF,g0,foldO,hix,hca,w1,hm,hiq,hcq,i64n i kO];refine gP p110 ?_;simp only[go_sem,hF,g0,foldO,hix,hca,w1,hm,hiq,hcq,i64n i kO];refine⟨by rw[trOK_eq3];rfl,F _ _ ?_⟩;clear F K;apply gS (by simp only[go_sem,hF,g0,foldO,hix,hca,w1,hm,hiq,hcq,i64n i kO];rfl);rcases gK (EL !=(0:Int)) with w9_1|w9_1
   ·simp only[w9_1,gC,nz4,nz] at hR;apply gT (by simp only[go_sem,hF,g0,foldO,hix,hca,w1,hm,hiq,hcq,i64n i kO,w9_1]);apply gS (by simp only[go_sem,hF,g0,foldO,hix,hca,w1,hm,hiq,hcq,i64n i kO,w9_1];rfl);subst hR;exact wr (gy [.tmp 2] (by simp only[go_sem,hF,g0,foldO,hix,hca,w1,hm,hiq,hcq,i64n i kO,w9_1];exact⟨_,rfl,_,rfl⟩))
   simp only[w9_1,gC,nz4,nz] at hR;apply gX (by simp only[go_sem,hF,g0,foldO,hix,hca,w1,hm,hiq,hcq,i64n i kO,w9_1]);refine Wc.skip ?_;apply gR (by simp only[go_sem,hF,g0,foldO,hix,hca,w1,hm,hiq,hcq,i64n i kO,w9_1];rfl)
   exact⟨x.ps.length-(i+1),kO,i+1,rfl,⟨kO,hR⟩,rfl,by simp only[go_sem,hF],oZ⟩
  ·have hil:i=x.ps.length:=by have:=of_decide_eq_false hc;omega
   rw[hil,List.drop_length,lstR_nil,nz_0] at hR
   exact Wc.exit ⟨hR,rfl,by simp only[go_sem,hF],oZ⟩
 rintro⟨e,ds,s1⟩ ⟨hR,rfl,hF,ho⟩
 simp only[Fs] at hF ho
 have g0:=ho.at_ (0,.cells (x.pd.map .p) false) kS
 simp only[gm] at g0
 have hR':(bif decide (1000<(x.xs.length:Int)) then 4 else lstR (okC okX) cmpX none x.xs)=R:=hR
 clear hR
 have hR:=hR'
 clear hR';refine Wc.seq ?_;apply gS kC;rcases gK (decide ((1000:Int)<(↑x.xs.length:Int))) with w10_1|w10_1
 ·simp only[w10_1,gC,nz4,nz] at hR;apply gT (by simp only[go_sem,hF,g0,w10_1]);apply gS (by simp only[go_sem,hF,g0,w10_1];rfl);subst hR;exact wr (gy [.tmp 2] (by simp only[go_sem,hF,g0,w10_1];exact⟨_,rfl,_,rfl⟩))
 simp only[w10_1,gC,nz4,nz] at hR;apply gX (by simp only[go_sem,hF,g0,w10_1]);refine Wc.skip ?_;refine Wc.seqR (fun y=>R=0∧y.ds=[]∧Fs y.e 162 [(1,.v (.c (.ref 0 0)))]∧OA y.s.nx y.s [] [(0,.cells (x.pd.map .p) false)]) ?_ ?_
 ·have hR0:lstR (okC okX) cmpX (prevG x.xs 0) (x.xs.drop 0)=R:=hR
  clear hR;apply gS kG;refine Wc.block (Wc.loop (fun k y=>∃ i:Nat,k=x.xs.length-i∧(i≤x.xs.length∧lstR (okC okX) cmpX (prevG x.xs i) (x.xs.drop i)=R)∧y.ds=[]∧Fs y.e 162 [(1,.v (.c (.ref 0 0))),(10,P' (pI i))]∧OA y.s.nx y.s [] [(0,.cells (x.pd.map .p) false)]) ?_ (k:=x.xs.length) ⟨0,rfl,⟨kO,hR0⟩,rfl,by simp only[go_sem,hF],oZ⟩);clear hR0 hF ho g0 e s1;rintro k ⟨e,ds,s1⟩ ⟨i,rfl,⟨hi,hR⟩,rfl,hF,ho⟩;simp only[Fs] at hF ho
  have g0:=ho.at_ (0,.cells (x.pd.map .p) false) kS
  simp only[gm] at g0;refine gO ?_;apply gR kC;refine Wc.cond (t:=decide ((i:Int)<x.xs.length)) kF (fun hc=>?_) (fun hc=>?_)
  ·have hil:i<x.xs.length:=gi hc
   obtain⟨c,hcc⟩:=gE hil
   obtain⟨q,hq⟩:∃ q,x.xs[i-1]? = some q:=⟨x.xs[i-1],List.getElem?_eq_getElem kO⟩
   have zc:=z.z5 c (gw hcc)
   have zq:=z.z5 q (gw hq)
   have w1:IntKind.i64.wrap ((i:Int)-1)=(i:Int)-1:=by rw[wi64];omega
   have hm:(if (i:Int)-1<0 then (0:Int) else (i:Int)-1)=((i-1:Nat):Int):=by split<;>omega
   rw[lstR_elt hcc hq] at hR
   have hix:=ixA ti56 rfl ti139 (j:=i) (m:=x.xs.length) (cs:=x.xs.flatMap Exm.pd) hil hfl5 kD
   have hca:=rpG (f:=Exm.pd) (k:=5) (fun _=>rfl) hcc
   have hiq:=ixA ti56 rfl ti139 (j:=i-1) (m:=x.xs.length) (cs:=x.xs.flatMap Exm.pd) kO hfl5 kD
   have hcq:=rpG (f:=Exm.pd) (k:=5) (fun _=>rfl) hq
   have p116:=pf116 c zc
   have p117:=pf117 q c (by have:=zq.lb;omega) (by have:=zc.lb;omega)
   have p110:=pf110 (okX c) i (cmpX q c)
   generalize elt (okX c) i (cmpX q c)=EL at hR p110;refine Wc.skip ?_;refine Wc.seq ?_;refine Wc.block ?_;refine Wc.seq ?_;refine Wc.regT fun K F=>?_;simp only[go_sem,hF,g0,foldO,hix,hca,w1,hm,hiq,hcq,i64n i kO];refine gP p116 ?_;simp only[go_sem,hF,g0,foldO,hix,hca,w1,hm,hiq,hcq,i64n i kO];refine gP p117 ?_;simp only[go_sem,hF,g0,foldO,hix,hca,w1,hm,hiq,hcq,i64n i kO];refine gP p110 ?_;simp only[go_sem,hF,g0,foldO,hix,hca,w1,hm,hiq,hcq,i64n i kO];refine⟨by rw[trOK_eq3];rfl,F _ _ ?_⟩;clear F K;apply gS (by simp only[go_sem,hF,g0,foldO,hix,hca,w1,hm,hiq,hcq,i64n i kO];rfl);rcases gK (EL !=(0:Int)) with w11_1|w11_1
   ·simp only[w11_1,gC,nz4,nz] at hR;apply gT (by simp only[go_sem,hF,g0,foldO,hix,hca,w1,hm,hiq,hcq,i64n i kO,w11_1]);apply gS (by simp only[go_sem,hF,g0,foldO,hix,hca,w1,hm,hiq,hcq,i64n i kO,w11_1];rfl);subst hR;exact wr (gy [.tmp 2] (by simp only[go_sem,hF,g0,foldO,hix,hca,w1,hm,hiq,hcq,i64n i kO,w11_1];exact⟨_,rfl,_,rfl⟩))
   simp only[w11_1,gC,nz4,nz] at hR;apply gX (by simp only[go_sem,hF,g0,foldO,hix,hca,w1,hm,hiq,hcq,i64n i kO,w11_1]);refine Wc.skip ?_;apply gR (by simp only[go_sem,hF,g0,foldO,hix,hca,w1,hm,hiq,hcq,i64n i kO,w11_1];rfl)
   exact⟨x.xs.length-(i+1),kO,i+1,rfl,⟨kO,hR⟩,rfl,by simp only[go_sem,hF],oZ⟩
  ·have hil:i=x.xs.length:=by have:=of_decide_eq_false hc;omega
   rw[hil,List.drop_length,lstR_nil] at hR
   exact Wc.exit ⟨hR.symm,rfl,by simp only[go_sem,hF],oZ⟩
 rintro⟨e,ds,s1⟩ ⟨rfl,rfl,hF,ho⟩
 simp only[Fs] at hF;apply gS kG;exact wr (gy [.tmp 2] (by simp only[go_sem,hF];exact⟨_,rfl,_,rfl⟩))
end Go.Proofs.YtedcnhbblgmdnaaGreat.Ab
