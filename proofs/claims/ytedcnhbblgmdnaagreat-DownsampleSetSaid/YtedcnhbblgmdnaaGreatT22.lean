/- A part of the proof. -/
import Derived.Test.YtedcnhbblgmdnaaGreatT21
set_option maxHeartbeats 8000000
set_option maxRecDepth 10000
set_option linter.unusedSimpArgs false
set_option linter.unusedVariables false
namespace Go.Proofs.YtedcnhbblgmdnaaGreat.Ab
theorem call98 {s:St}{L:List (Nat×D×Nat×List Pd)}{M:List (Nat×Ob)}{x:D}{l:List Bkt}{cols:List (Col Bkt)}{K:D→St→Prop}(h:OA s.nx s L M)(hl:l.length<2^40)(hxc:∃ c,x=.v (.c c))
  (hlx:lenD E0 29 x=some (.v (.c (.p (.int .i64 (l.length:Int)))))) (hix:∀ j:Nat,j<l.length→indexAddrD E0 29 x (.v (.c (.p (.int .i64 (j:Int)))))=some (.v (.c (.rp (l.flatMap Bkt.pd) (j*10)))))
  (hcol:∀ c∈cols,(∀ a:Bkt,Pf E0 c.g [.agg ((Bkt.pd a).map .p)] (P' (pI (c.get a))))∧E0.xt c.g=none∧E0.opn c.g=false) (hcl:cols.length<2^20)
  (hK0:packE l cols=none→∀ s',OA s'.nx s' L M→s.nx≤s'.nx→K (.tup [.c .nils,.c (.p (.bool false))]) s')
  (hK1:∀ ss,packE l cols=some ss→∀ x' s',OA s'.nx s' ((1,.v (.c x'),ss.length,ss.map .str)::L) M→s.nx≤s'.nx→K (.tup [.c x',.c (.p (.bool true))]) s') :
  wpCall E0 (.v (.c (.p (.fnc 98)))) [x,.v (.c (.p (.lst cols.length (cols.flatMap Col.pd))))] s K:=by
 obtain⟨cx,rfl⟩:=hxc
 refine wpCall.opn (fn:=Tryz.f98) kR kR rfl kR rfl ?_;simp only[gL,Tryz.ntmps98,Nat.reduceSub,Nat.reduceAdd];refine gY ?_;refine gY ?_;refine gO ?_;refine gZ ?_
 refine Wc.block (Wc.loop (fun k y => ∃ (i : Nat) (ss : List (List UInt8)) (c6 : C), k = cols.length - i ∧ i ≤ cols.length ∧ y.ds = [] ∧ y.e.length = 53 ∧ y.e.getD 0 .junk = .v (.c cx) ∧ y.e.getD 14 .junk = P' (.lst cols.length (cols.flatMap Col.pd)) ∧ y.e.getD 15 .junk = P' (pI cols.length) ∧ y.e.getD 16 .junk = P' (pI i) ∧ y.e.getD 6 .junk = .v (.c c6) ∧
  OA y.s.nx y.s ((1,.v (.c c6),ss.length,ss.map .str)::L) M∧s.nx≤y.s.nx∧ss.length=i∧packE l cols=(packE l (cols.drop i)).map (ss ++ ·)) ?_ (k:=cols.length) ?_)
 ·rintro k ⟨e,ds,s1⟩ ⟨i,ss,c6,rfl,hi,rfl,hlen,h0,h14,h15,h16,h6,ho,hnx,hsl,hp⟩;simp only at hlen h0 h14 h15 h16 h6 ho hnx;apply gS (by simp only[go_sem,hlen,h0,h14,h15,h16,h6];rfl);refine Wc.seq (Wc.cond (t:=decide ((i:Int)<cols.length)) kL (fun hc=>?_) (fun hc=>?_))
  ·have hil : i < cols.length := by have : (i : Int) < cols.length := by simpa using hc
                                    omega
   obtain⟨c,hc1⟩:=gE hil
   have hcm:=gw hc1
   obtain⟨hpf,hxt,hopn⟩:=hcol c hcm
   have hic:=ixA ti158 rfl ti212 (j:=i) (m:=cols.length) (cs:=cols.flatMap Col.pd) hil (by rw[flat_len (k:=3) (fun _=>rfl)]) kD
   have hca:=rpA (off:=i*3) (drop_flat (f:=Col.pd) (k:=3) (fun _=>rfl) hc1) (by rw[flat_len (k:=3) (fun _=>rfl)];omega)
   have hpd : packE l (cols.drop i) = if (encF c.f (l.map c.get)).2 = 0 then (match packE l (cols.drop (i + 1)) with
     |some ss=>some ((encF c.f (l.map c.get)).1::ss)
     |none=>none) else none:=by
    have:=(List.getElem?_eq_some_iff.1 hc1).2
    rw[List.drop_eq_getElem_cons hil,this];rfl
   refine Wc.skip (Wc.seq (Wc.block ?_))
   refine Wc.seqA (fun y => ∃ k8, y.ds = [] ∧ y.e.length = 53 ∧ y.e.getD 0 .junk = .v (.c cx) ∧ y.e.getD 14 .junk = P' (.lst cols.length (cols.flatMap Col.pd)) ∧ y.e.getD 15 .junk = P' (pI cols.length) ∧ y.e.getD 16 .junk = P' (pI i) ∧ y.e.getD 6 .junk = .v (.c c6) ∧ y.e.getD 8 .junk = .v (.c (.ref k8 0)) ∧
    OA y.s.nx y.s ((1,.v (.c c6),ss.length,ss.map .str)::L) ((k8,.cells [.p (pI c.f),.p (.fnc c.g),.p (.fnc c.w)] false)::M)∧s.nx≤y.s.nx) ?_ ?_
   ·apply gR (by simp only[go_sem,hlen,h0,h14,h15,h16,h6,hic,hca];rfl)
    refine⟨rfl,s1.nx+3,rfl,by simp only[go_sem,hlen],by simp only[go_sem,hlen,h0],by simp only[go_sem,hlen,h14],by simp only[go_sem,hlen,h15],by simp only[go_sem,hlen,h16],by simp only[go_sem,hlen,h6],by simp only[go_sem,hlen],?_,?_⟩
    ·have h2:=OA.set (M1:=[]) (o':=.cells [.p (pI c.f),.p (.fnc c.g),.p (.fnc c.w)] false) ((ho.adv (n:=1)).adv (n:=4) |>.new (k:=s1.nx+3) (o:=.cells [.p (.int .i64 0),.p .nilf,.p .nilf] false) kO rfl) rfl
     simp only[St.put_put] at h2;exact h2.mono kY
    ·simp only[St.nx_put,St.nx_adv];omega
   ·clear hlen h0 h14 h15 h16 h6 ho hnx e s1
    rintro⟨e,ds,s1⟩ ⟨k8,rfl,hlen,h0,h14,h15,h16,h6,h8,ho,hnx⟩
    simp only at hlen h0 h14 h15 h16 h6 h8 ho hnx;refine Wc.seqA (fun y=>∃ c9,y.ds=[]∧y.e.length=53∧y.e.getD 0 .junk=.v (.c cx)∧y.e.getD 14 .junk=P' (.lst cols.length (cols.flatMap Col.pd))∧y.e.getD 15 .junk=P' (pI cols.length)∧y.e.getD 16 .junk=P' (pI i)∧y.e.getD 6 .junk=.v (.c c6)∧y.e.getD 8 .junk=.v (.c (.ref k8 0))∧y.e.getD 9 .junk=.v (.c c9)∧NumS l c.get 0 ((1,.v (.c c6),ss.length,ss.map .str)::L) ((k8,.cells [.p (pI c.f),.p (.fnc c.g),.p (.fnc c.w)] false)::M) c9 y.s∧s.nx≤y.s.nx) ?_ ?_
    ·by_cases hl0:l.length=0
     ·have hl1:l=[]:=List.length_eq_zero_iff.1 hl0
      subst hl1
      have hsz:(((8:Nat):Int)*0≤140737488355328)=True:=by simp
      simp only[List.length_nil] at hlx;apply gR (by simp only[go_sem,hlen,h0,h14,h15,h16,h6,h8,hlx,hsz];rfl)
      refine⟨rfl,.own 0 [] (s1.nx+2),rfl,by simp only[go_sem,hlen],by simp only[go_sem,hlen,h0],by simp only[go_sem,hlen,h14],by simp only[go_sem,hlen,h15],by simp only[go_sem,hlen,h16],by simp only[go_sem,hlen,h6],by simp only[go_sem,hlen,h8],by simp only[go_sem,hlen],.inl ⟨rfl,⟨_,rfl⟩,?_⟩,?_⟩
      ·exact(OA.put (ho.adv (n:=4)) (k:=s1.nx+2) kO).mono kY
      ·simp only[St.nx_put,St.nx_adv];omega
     ·have hsz:(((8:Nat):Int)*(l.length:Int)≤140737488355328)=True:=by simp;omega
      have hmx:((l.length:Int)≤9223372036854775807)=True:=by simp only[eq_iff_iff,iff_true];omega
      have hne:((l.length:Int)=0)=False:=by simp only[eq_iff_iff,iff_false];omega
      apply gR (by simp only[go_sem,hlen,h0,h14,h15,h16,h6,h8,hlx,hsz,hmx,hne,Int.le_refl];rfl)
      refine⟨rfl,.mt (s1.nx+2) 0 l.length 1,rfl,by simp only[go_sem,hlen],by simp only[go_sem,hlen,h0],by simp only[go_sem,hlen,h14],by simp only[go_sem,hlen,h15],by simp only[go_sem,hlen,h16],by simp only[go_sem,hlen,h6],by simp only[go_sem,hlen,h8],by simp only[go_sem,hlen],.inr ⟨_,rfl,?_⟩,?_⟩
      ·rw[fillZ_0]
       exact(OA.new (ho.adv (n:=4)) (k:=s1.nx+2) kO rfl).mono kY
      ·simp only[St.nx_put,St.nx_adv];omega
    ·clear hlen h0 h14 h15 h16 h6 h8 ho hnx e s1
     rintro⟨e,ds,s1⟩ ⟨c9,rfl,hlen,h0,h14,h15,h16,h6,h8,h9,hN,hnx⟩
     simp only at hlen h0 h14 h15 h16 h6 h8 h9 hN hnx;refine Wc.seqA (fun y=>y.ds=[]∧y.e.length=53∧y.e.getD 0 .junk=.v (.c cx)∧y.e.getD 14 .junk=P' (.lst cols.length (cols.flatMap Col.pd))∧y.e.getD 15 .junk=P' (pI cols.length)∧y.e.getD 16 .junk=P' (pI i)∧y.e.getD 6 .junk=.v (.c c6)∧y.e.getD 8 .junk=.v (.c (.ref k8 0))∧y.e.getD 9 .junk=.v (.c c9)∧NumS l c.get l.length ((1,.v (.c c6),ss.length,ss.map .str)::L) ((k8,.cells [.p (pI c.f),.p (.fnc c.g),.p (.fnc c.w)] false)::M) c9 y.s∧s.nx≤y.s.nx) ?_ ?_
     ·apply gS (by simp only[go_sem,hlen,h0,h14,h15,h16,h6,h8,h9,hlx];rfl);refine Wc.block (Wc.loop (fun q y=>∃ j:Nat,q=l.length-j∧j≤l.length∧y.ds=[]∧y.e.length=53∧y.e.getD 0 .junk=.v (.c cx)∧y.e.getD 14 .junk=P' (.lst cols.length (cols.flatMap Col.pd))∧y.e.getD 15 .junk=P' (pI cols.length)∧y.e.getD 16 .junk=P' (pI i)∧y.e.getD 6 .junk=.v (.c c6)∧y.e.getD 8 .junk=.v (.c (.ref k8 0))∧y.e.getD 9 .junk=.v (.c c9)∧y.e.getD 23 .junk=.v (.c cx)∧y.e.getD 24 .junk=P' (pI l.length)∧y.e.getD 25 .junk=P' (pI j)∧NumS l c.get j ((1,.v (.c c6),ss.length,ss.map .str)::L) ((k8,.cells [.p (pI c.f),.p (.fnc c.g),.p (.fnc c.w)] false)::M) c9 y.s∧s.nx≤y.s.nx) ?_ (k:=l.length) ?_)
      ·clear hlen h0 h14 h15 h16 h6 h8 h9 hN hnx e s1;rintro q ⟨e,ds,s1⟩ ⟨j,rfl,hj,rfl,hlen,h0,h14,h15,h16,h6,h8,h9,h23,h24,h25,hN,hnx⟩;simp only at hlen h0 h14 h15 h16 h6 h8 h9 h23 h24 h25 hN hnx;apply gS (by simp only[go_sem,hlen,h0,h14,h15,h16,h6,h8,h9,h23,h24,h25];rfl);refine Wc.seq (Wc.cond (t:=decide ((j:Int)<l.length)) kL (fun hc=>?_) (fun hc=>?_))
       ·have hjl : j < l.length := by have : (j : Int) < l.length := by simpa using hc
                                      omega
        obtain⟨a,ha⟩:=gE hjl
        have hia:=hix j hjl
        have hcb:=rpA (off:=j*10) (drop_flat (f:=Bkt.pd) (k:=10) (fun _=>rfl) ha) (by rw[flat_len (k:=10) (fun _=>rfl)];omega)
        obtain⟨k9,rfl,ho⟩:∃ k9,c9=.mt k9 0 l.length 1∧OA s1.nx s1 ((1,.v (.c c6),ss.length,ss.map .str)::L) ((k9,.cells (fillZ l c.get j) false)::(k8,.cells [.p (pI c.f),.p (.fnc c.g),.p (.fnc c.w)] false)::M):=by
         rcases hN with ⟨h1,_⟩|h1
         ·subst h1;simp at hjl
         ·exact h1
        refine Wc.skip (Wc.seq (Wc.block (Wc.seqA (fun y => ∃ kx, y.ds = [] ∧ y.e.length = 53 ∧ y.e.getD 0 .junk = .v (.c cx) ∧ y.e.getD 14 .junk = P' (.lst cols.length (cols.flatMap Col.pd)) ∧ y.e.getD 15 .junk = P' (pI cols.length) ∧ y.e.getD 16 .junk = P' (pI i) ∧ y.e.getD 6 .junk = .v (.c c6) ∧ y.e.getD 8 .junk = .v (.c (.ref k8 0)) ∧ y.e.getD 9 .junk = .v (.c (.mt k9 0 l.length 1)) ∧ y.e.getD 23 .junk = .v (.c cx) ∧ y.e.getD 24 .junk = P' (pI l.length) ∧ y.e.getD 25 .junk = P' (pI j) ∧ y.e.getD 10 .junk = P' (pI j) ∧ y.e.getD 11 .junk = .v (.c (.ref kx 0)) ∧
          OA y.s.nx y.s ((1,.v (.c c6),ss.length,ss.map .str)::L) ((kx,.cells ((Bkt.pd a).map .p) false)::(k9,.cells (fillZ l c.get j) false)::(k8,.cells [.p (pI c.f),.p (.fnc c.g),.p (.fnc c.w)] false)::M)∧s.nx≤y.s.nx) ?_ ?_)))
        ·apply gR (by simp only[go_sem,hlen,h0,h14,h15,h16,h6,h8,h9,h23,h24,h25,hia,hcb];rfl)
         refine⟨rfl,s1.nx+4,rfl,by simp only[go_sem,hlen],by simp only[go_sem,hlen,h0],by simp only[go_sem,hlen,h14],by simp only[go_sem,hlen,h15],by simp only[go_sem,hlen,h16],by simp only[go_sem,hlen,h6],by simp only[go_sem,hlen,h8],by simp only[go_sem,hlen,h9],by simp only[go_sem,hlen,h23],by simp only[go_sem,hlen,h24],by simp only[go_sem,hlen,h25],by simp only[go_sem,hlen],by simp only[go_sem,hlen],?_,?_⟩
         ·have h2:=OA.set (M1:=[]) (o':=.cells ((Bkt.pd a).map .p) false) ((ho.adv (n:=1)).adv (n:=6) |>.new (k:=s1.nx+4) (o:=.cells [.p (.int .i64 0),.p (.int .i64 0),.p (.int .i64 0),.p (.int .i64 0),.p (.int .i64 0),.p (.int .i64 0),.p (.int .i64 0),.p (.int .i64 0),.p (.int .i64 0),.p (.int .i64 0)] false) kO rfl) rfl
          simp only[St.put_put] at h2;exact h2.mono kY
         ·simp only[St.nx_put,St.nx_adv];omega
        ·clear hlen h0 h14 h15 h16 h6 h8 h9 h23 h24 h25 ho hN hnx e s1
         rintro⟨e,ds,s1⟩ ⟨kx,rfl,hlen,h0,h14,h15,h16,h6,h8,h9,h23,h24,h25,h10,h11,ho,hnx⟩
         simp only at hlen h0 h14 h15 h16 h6 h8 h9 h23 h24 h25 h10 h11 ho hnx
         have gx:=ho.at_ (kx,.cells ((Bkt.pd a).map .p) false) kS
         have g9:=ho.at_ (k9,.cells (fillZ l c.get j) false) kS
         have g8:=ho.at_ (k8,.cells [.p (pI c.f),.p (.fnc c.g),.p (.fnc c.w)] false) kS
         have hfl:=fillZ_len l c.get hj
         have hi9:=ixM ti175 rfl ti3 (r:=k9) (off:=0) (j:=j) (m:=l.length) (es:=1) hjl rfl
         have hj1:(j+1≤l.length)=True:=by simp;omega
         have hj2:((j:Int)<(l.length:Int))=True:=by simp;omega
         simp only at gx g9 g8;simp only[gm] at gx;refine gM fun K F=>?_;simp only[go_sem,hlen,h0,h14,h15,h16,h6,h8,h9,h23,h24,h25,h10,h11,gx,g9,g8,hi9,hfl,hj1,hj2];refine wpCall.pf (hpf a) hxt hopn rfl rfl ?_;simp only[go_sem,hlen,h0,h14,h15,h16,h6,h8,h9,h23,h24,h25,h10,h11,gx,g9,g8,hi9,hfl,hj1,hj2];apply F;clear F K;apply gR (by simp only[go_sem,hlen,h0,h14,h15,h16,h6,h8,h9,h23,h24,h25,h10,h11,i64n j kO];rfl)
         refine⟨l.length-(j+1),kO,j+1,rfl,kO,rfl,by simp only[go_sem,hlen],by simp only[go_sem,hlen,h0],by simp only[go_sem,hlen,h14],by simp only[go_sem,hlen,h15],by simp only[go_sem,hlen,h16],by simp only[go_sem,hlen,h6],by simp only[go_sem,hlen,h8],by simp only[go_sem,hlen,h9],by simp only[go_sem,hlen,h23],by simp only[go_sem,hlen,h24],by simp only[go_sem,hlen],?_,?_⟩
         ·have h2:=OA.set (M1:=[(kx,.cells ((Bkt.pd a).map .p) false)]) (o':=.cells ((fillZ l c.get j).take j++[.p (pI (c.get a))]++(fillZ l c.get j).drop (j+1)) false) (ho.adv (n:=8)) rfl
          have h3:=OA.sub (M:=(kx,.cells ((Bkt.pd a).map .p) false)::_) h2 (List.Sublist.refl _) (List.sublist_cons_self _ _)
          rw[fillZ_set ha] at h3
          have h4:NumS l c.get (j+1) ((1,.v (.c c6),ss.length,ss.map .str)::L) ((k8,.cells [.p (pI c.f),.p (.fnc c.g),.p (.fnc c.w)] false)::M) (.mt k9 0 l.length 1) ((s1.adv 8).put k9 (.cells (fillZ l c.get (j+1)) false)):=.inr ⟨k9,rfl,h3.mono kY⟩
          have h5:=h4.adv (n:=2)
          rw[← fillZ_set ha] at h5
          exact h5
         ·simp only[St.nx_put,St.nx_adv];omega
       ·have hjl : j = l.length := by have : ¬ (j : Int) < l.length := by simpa using hc
                                      omega
        subst hjl;exact Wc.exit ⟨rfl,rfl,by simp only[go_sem,hlen],by simp only[go_sem,hlen,h0],by simp only[go_sem,hlen,h14],by simp only[go_sem,hlen,h15],by simp only[go_sem,hlen,h16],by simp only[go_sem,hlen,h6],by simp only[go_sem,hlen,h8],by simp only[go_sem,hlen,h9],hN.adv,by simp only[St.nx_adv];omega⟩
      ·exact⟨0,rfl,kO,rfl,by simp only[go_sem,hlen],by simp only[go_sem,hlen,h0],by simp only[go_sem,hlen,h14],by simp only[go_sem,hlen,h15],by simp only[go_sem,hlen,h16],by simp only[go_sem,hlen,h6],by simp only[go_sem,hlen,h8],by simp only[go_sem,hlen,h9],by simp only[go_sem,hlen,h0],by simp only[go_sem,hlen,h0,hlx],by simp only[go_sem,hlen];try rfl,hN.adv,by simp only[St.nx_adv];omega⟩
     ·clear hlen h0 h14 h15 h16 h6 h8 h9 hN hnx e s1
      rintro⟨e,ds,s1⟩ ⟨rfl,hlen,h0,h14,h15,h16,h6,h8,h9,hN,hnx⟩
      simp only at hlen h0 h14 h15 h16 h6 h8 h9 hN hnx
      have g8:s1.get k8=some (.cells [.p (pI c.f),.p (.fnc c.g),.p (.fnc c.w)] false):=by
       rcases hN with ⟨_,_,h3⟩|⟨k9,_,h3⟩
       ·exact h3.at_ (k8,_) kS
       ·exact h3.at_ (k8,_) kS
      obtain⟨s2,hp1,ho2,hn2⟩:=(hN.adv (n:=9)).pur
      have hp2:purVs (s1.adv 9) [.c (.p (pI c.f)),.c c9]=some ([.c (.p (pI c.f)),.c (.p (.lst (l.map c.get).length ((l.map c.get).map pI)))],s2):=purVs_pc hp1
      refine gN fun K F=>?_;simp only[go_sem,hlen,h0,h14,h15,h16,h6,h8,h9,g8];refine wpCall.pf (pf156 c.f (l.map c.get) (by simpa using hl)) kR kR rfl hp2 ?_;simp only[go_sem,hlen,h0,h14,h15,h16,h6,h8,h9,g8];apply F;clear F K;refine gO ?_;apply gR (by simp only[go_sem,hlen,h0,h14,h15,h16,h6,h8,h9];rfl);refine Wc.cond (t:=((encF c.f (l.map c.get)).2 != 0)) kL (fun hc=>?_) (fun hc=>?_)
      ·have hne:¬ (encF c.f (l.map c.get)).2=0:=by simpa using hc
       rw[hpd,if_neg hne] at hp
       apply gS kM;refine Wc.ret (Op.ret [.tmp 4,.tmp 5] [.c .nils,.c (.p (.bool false))] rfl rfl kL (hK0 hp _ ?_ ?_))
       ·exact(OA.sub (L:=(1,.v (.c c6),ss.length,ss.map .str)::L) (M:=_::M) (ho2.mono (by simp only[St.nx_adv];omega)) (List.sublist_cons_self _ _) (List.sublist_cons_self _ _)).adv.adv
       ·simp only[St.nx_adv,hn2];omega
      ·have he:(encF c.f (l.map c.get)).2=0:=by simpa using hc
       rw[hpd,if_pos he] at hp
       refine Wc.skip ?_;refine gM fun K F=>?_;simp only[go_sem,hlen,h0,h14,h15,h16,h6,h8,h9]
       have ho3:=OA.sub (M:=_::M) (M1:=M) (ho2.adv (n:=2) |>.mono (b':=s2.nx) (Nat.le_refl _)) (List.Sublist.refl _) (List.sublist_cons_self _ _)
       refine OA.app (L1:=[]) (L2:=L) (by_:=16) (n:=ss.length) (m:=1) (ys:=[.str (encF c.f (l.map c.get)).1]) (OA.put (ho3.adv (n:=5)) (k:=s2.nx+4) kO) kO ⟨_,ti155,rfl⟩ ti9 rfl rfl rfl kD kD kA rfl kO fun b' s' hb' hnx'=>?_
       obtain⟨cb,rfl⟩:=(hb'.own (1,b',ss.length+1,_) (List.mem_cons_self ..)).v
       simp only[go_sem,hlen,h0,h14,h15,h16,h6,h8,h9];apply F;clear F K;apply gR (by simp only[go_sem,hlen,h0,h14,h15,h16,h6,h8,h9,i64n i kO];rfl)
       refine⟨cols.length-(i+1),kO,i+1,ss++[(encF c.f (l.map c.get)).1],cb,rfl,kO,rfl,by simp only[go_sem,hlen],by simp only[go_sem,hlen,h0],by simp only[go_sem,hlen,h14],by simp only[go_sem,hlen,h15],by simp only[go_sem,hlen],by simp only[go_sem,hlen],?_,?_,by simp[hsl],?_⟩
       ·have h6:=(hb'.mono (b':=s'.nx) (by rw[hnx'];simp only[St.nx_put,St.nx_adv];omega)).adv (n:=2)
        simpa only[List.length_append,List.length_cons,List.length_nil,List.map_append,List.map_cons,List.map_nil,List.nil_append,St.nx_adv] using h6.mono (Nat.le_add_right _ 2)
       ·simp only[St.nx_adv,hnx',St.nx_put,hn2];omega
       ·rw[hp]
        cases packE l (cols.drop (i+1))<;>simp
  ·have hil : i = cols.length := by have : ¬ (i : Int) < cols.length := by simpa using hc
                                    omega
   subst hil
   rw[List.drop_length] at hp
   simp only[packE,Option.map_some,List.append_nil] at hp;refine Wc.exit (Wc.seq ?_);apply gR (by simp only[go_sem,hlen,h0,h14,h15,h16,h6];rfl);refine Wc.ret (Op.ret [.tmp 4,.tmp 5] [.c c6,.c (.p (.bool true))] rfl rfl kL (hK1 ss hp c6 _ ?_ ?_))
   ·exact((ho.adv (n:=1)).adv (n:=3)).mono (by simp only[St.nx_adv];omega)
   ·simp only[St.nx_adv];omega
 ·exact⟨0,[],.nils,rfl,kO,rfl,rfl,rfl,rfl,rfl,rfl,rfl,OA.mono (((h.adv (n:=2)).adv (n:=1)).adv (n:=3)).nil (by simp only[St.nx_adv];omega),by simp only[St.nx_adv];omega,rfl,by simp⟩
theorem pf157 (b:Bkt):Pf E0 157 [.agg (b.pd.map .p)] (P' (pI (IntKind.i64.wrap (b.st+1)))):=by
 refine gQ (fn:=Tryz.f157) ?_;simp only[gL,Tryz.ntmps157,Nat.reduceSub,Nat.reduceAdd];refine gY ?_;refine gY ?_;exact wr (gU [.tmp 2] [.c (.p (pI (IntKind.i64.wrap (b.st+1))))])
theorem pf159 (b:Bkt):Pf E0 159 [.agg (b.pd.map .p)] (P' (pI b.c)):=by
 refine gQ (fn:=Tryz.f159) ?_;simp only[gL,Tryz.ntmps159,Nat.reduceSub,Nat.reduceAdd];refine gY ?_;refine gY ?_;exact wr (gU [.tmp 2] [.c (.p (pI b.c))])
theorem pf161 (b:Bkt):Pf E0 161 [.agg (b.pd.map .p)] (P' (pI b.s)):=by
 refine gQ (fn:=Tryz.f161) ?_;simp only[gL,Tryz.ntmps161,Nat.reduceSub,Nat.reduceAdd];refine gY ?_;refine gY ?_;exact wr (gU [.tmp 2] [.c (.p (pI b.s))])
theorem pf163 (b:Bkt):Pf E0 163 [.agg (b.pd.map .p)] (P' (pI b.mn)):=by
 refine gQ (fn:=Tryz.f163) ?_;simp only[gL,Tryz.ntmps163,Nat.reduceSub,Nat.reduceAdd];refine gY ?_;refine gY ?_;exact wr (gU [.tmp 2] [.c (.p (pI b.mn))])
theorem pf165 (b:Bkt):Pf E0 165 [.agg (b.pd.map .p)] (P' (pI b.mx)):=by
 refine gQ (fn:=Tryz.f165) ?_;simp only[gL,Tryz.ntmps165,Nat.reduceSub,Nat.reduceAdd];refine gY ?_;refine gY ?_;exact wr (gU [.tmp 2] [.c (.p (pI b.mx))])
theorem pf167 (b:Bkt):Pf E0 167 [.agg (b.pd.map .p)] (P' (pI b.f)):=by
 refine gQ (fn:=Tryz.f167) ?_;simp only[gL,Tryz.ntmps167,Nat.reduceSub,Nat.reduceAdd];refine gY ?_;refine gY ?_;exact wr (gU [.tmp 2] [.c (.p (pI b.f))])
theorem pf169 (b:Bkt):Pf E0 169 [.agg (b.pd.map .p)] (P' (pI b.l)):=by
 refine gQ (fn:=Tryz.f169) ?_;simp only[gL,Tryz.ntmps169,Nat.reduceSub,Nat.reduceAdd];refine gY ?_;refine gY ?_;exact wr (gU [.tmp 2] [.c (.p (pI b.l))])
theorem pf171 (b:Bkt):Pf E0 171 [.agg (b.pd.map .p)] (P' (pI b.ft)):=by
 refine gQ (fn:=Tryz.f171) ?_;simp only[gL,Tryz.ntmps171,Nat.reduceSub,Nat.reduceAdd];refine gY ?_;refine gY ?_;exact wr (gU [.tmp 2] [.c (.p (pI b.ft))])
theorem pf173 (b:Bkt):Pf E0 173 [.agg (b.pd.map .p)] (P' (pI b.lt)):=by
 refine gQ (fn:=Tryz.f173) ?_;simp only[gL,Tryz.ntmps173,Nat.reduceSub,Nat.reduceAdd];refine gY ?_;refine gY ?_;exact wr (gU [.tmp 2] [.c (.p (pI b.lt))])
theorem pf175 (b:Bkt):Pf E0 175 [.agg (b.pd.map .p)] (P' (pI b.inc)):=by
 refine gQ (fn:=Tryz.f175) ?_;simp only[gL,Tryz.ntmps175,Nat.reduceSub,Nat.reduceAdd];refine gY ?_;refine gY ?_;exact wr (gU [.tmp 2] [.c (.p (pI b.inc))])
def bktCols:List (Col Bkt):=[⟨0,157,158,fun b=>IntKind.i64.wrap (b.st+1)⟩,⟨1,159,160,(·.c)⟩,⟨1,161,162,(·.s)⟩,⟨1,163,164,(·.mn)⟩,⟨1,165,166,(·.mx)⟩,⟨1,167,168,(·.f)⟩,⟨1,169,170,(·.l)⟩,⟨1,171,172,(·.ft)⟩,⟨1,173,174,(·.lt)⟩,⟨1,175,176,(·.inc)⟩]
theorem pf99:Pf E0 99 [] (P' (.lst bktCols.length (bktCols.flatMap Col.pd))):=by
 refine gQ (fn:=Tryz.f99) ?_;simp only[gL,Tryz.ntmps99,Nat.reduceSub,Nat.reduceAdd];refine gY ?_;refine gY ?_;exact wr (Pf.ret [.tmp 0] _ rfl rfl (by simp only[go_sem];try rfl) rfl)
theorem bktCols_ok:∀ c∈bktCols,(∀ a:Bkt,Pf E0 c.g [.agg (a.pd.map .p)] (P' (pI (c.get a))))∧E0.xt c.g=none∧E0.opn c.g=false:=by
 intro c hc;simp only[bktCols,List.mem_cons,List.mem_nil_iff,or_false] at hc;rcases hc with rfl|rfl|rfl|rfl|rfl|rfl|rfl|rfl|rfl|rfl
 ·exact⟨pf157,by kernel_rfl,by kernel_rfl⟩
 ·exact⟨pf159,by kernel_rfl,by kernel_rfl⟩
 ·exact⟨pf161,by kernel_rfl,by kernel_rfl⟩
 ·exact⟨pf163,by kernel_rfl,by kernel_rfl⟩
 ·exact⟨pf165,by kernel_rfl,by kernel_rfl⟩
 ·exact⟨pf167,by kernel_rfl,by kernel_rfl⟩
 ·exact⟨pf169,by kernel_rfl,by kernel_rfl⟩
 ·exact⟨pf171,by kernel_rfl,by kernel_rfl⟩
 ·exact⟨pf173,by kernel_rfl,by kernel_rfl⟩
 ·exact⟨pf175,by kernel_rfl,by kernel_rfl⟩
structure Rlp where
 lb:List Lb
 k:Int
 w:Int
 bs:List Bkt
abbrev Rlp.pd (x:Rlp):List Pd:=[.lst x.lb.length (x.lb.flatMap lbP),pI x.k,pI x.w,.lst x.bs.length (x.bs.flatMap Bkt.pd)]
def bksOK (k w:Int):Int→List Bkt→Bool
 |_,[]=>true
 |p,b::r=>!(decide (b.st≤p) || decide (1099511627776≤b.st) || (b.st.tmod w != 0))&&(bkA k w b&&bksOK k w b.st r)
def rlpOK (x:Rlp):Bool:=!((lckA x.lb != 0) || ((x.k != 1)&&(x.k != 2)))&&(!(decide (x.w<1) || decide (1099511627776<x.w) || ((x.bs.length:Int)==0) || decide ((2000:Int)<x.bs.length))&&bksOK x.k x.w (-1) x.bs)
def prevS (l:List Bkt)(i:Nat):Int:=if i=0 then -1 else ((l[i-1]?).map (·.st)).getD (-1)
theorem bksOK_step {k w:Int}{l:List Bkt}{i:Nat}{b:Bkt}(h:l[i]? = some b):bksOK k w (prevS l i) (l.drop i)=(!(decide (b.st≤prevS l i) || decide (1099511627776≤b.st) || (b.st.tmod w != 0))&&(bkA k w b&&bksOK k w (prevS l (i+1)) (l.drop (i+1)))):=by
 have hi:=(List.getElem?_eq_some_iff.1 h).1
 have hx:=(List.getElem?_eq_some_iff.1 h).2
 have hp:prevS l (i+1)=b.st:=by simp[prevS,h]
 rw[List.drop_eq_getElem_cons hi,hx,hp]
 rfl
theorem pf97 (x:Rlp)(hlb:x.lb.length<2^40)(hls:∀ y∈x.lb,y.1.length<2^50∧y.2.length<2^50):Pf E0 97 [.agg (x.pd.map .p)] (P' (.bool (rlpOK x))):=by
 have hfl:(x.bs.flatMap Bkt.pd).length=x.bs.length*10:=flat_len (k:=10) (fun _=>rfl) _
 generalize hR:rlpOK x=R;unfold rlpOK at hR;refine gQ (fn:=Tryz.f97) ?_;simp only[gL,Tryz.ntmps97,Nat.reduceSub,Nat.reduceAdd];refine gY ?_;refine Wc.seqR (fun y=>((lckA x.lb != 0) || ((x.k != 1)&&(x.k != 2)))=false∧y.ds=[]∧Fs y.e 74 [(1,.v (.c (.ref 0 0)))]∧OA y.s.nx y.s [] [(0,.cells (x.pd.map .p) false)]) ?_ ?_
 ·refine Wc.seq ?_
  have bad:((lckA x.lb != 0) || ((x.k != 1)&&(x.k != 2)))=true→false=R:=fun h=>by rw[← hR,h];rfl
  cases z1:(lckA x.lb != 0) with
  |true =>
   refine gM fun K F=>?_;simp only[go_sem];refine gP (pf134 x.lb hlb hls) ?_;simp only[go_sem,z1];apply F;clear F K;apply gT (by simp only[go_sem,z1]);refine gY ?_
   rw[← bad (by rw[z1];rfl)]
   exact wr (gU [.tmp 2] [.c (.p (.bool false))])
  |false =>
   cases z2:(x.k != 1) with
   |false =>
    refine gM fun K F=>?_;simp only[go_sem];refine gP (pf134 x.lb hlb hls) ?_;simp only[go_sem,z1,z2];apply F;clear F K;apply gF (by simp only[go_sem,z1,z2])
    exact⟨rfl,rfl,by simp only[go_sem],oW⟩
   |true =>
    refine gM fun K F=>?_;simp only[go_sem];refine gP (pf134 x.lb hlb hls) ?_;simp only[go_sem,z1,z2];apply F;clear F K;refine Wc.cond (t:=(x.k != 2)) (by simp only[go_sem,z1,z2]) (fun hc=>?_) (fun hc=>?_)
    ·refine gY ?_
     rw[← bad (by rw[z1,z2,hc];rfl)]
     exact wr (gU [.tmp 2] [.c (.p (.bool false))])
    ·exact Wc.skip ⟨by rw[hc];rfl,rfl,by simp only[go_sem],oW⟩
 rintro⟨e,ds,s1⟩ ⟨c1,rfl,hF,ho⟩
 simp only[Fs] at hF ho
 have g0:=ho.at_ (0,.cells (x.pd.map .p) false) kS
 simp only[gm] at g0
 rw[c1] at hR
 refine Wc.seqR (fun y=>((decide (x.w<1) || decide (1099511627776<x.w) || ((x.bs.length:Int)==0) || decide ((2000:Int)<x.bs.length))=false∧(1≤x.w∧x.w≤1099511627776∧x.bs.length≤2000))∧y.ds=[]∧Fs y.e 74 [(1,.v (.c (.ref 0 0)))]∧OA y.s.nx y.s [] [(0,.cells (x.pd.map .p) false)]) ?_ ?_
 ·refine Wc.seq ?_
  have bad:(decide (x.w<1) || decide (1099511627776<x.w) || ((x.bs.length:Int)==0) || decide ((2000:Int)<x.bs.length))=true→false=R:=fun h=>by rw[← hR,h];rfl
  rcases gK (decide (x.w<1)) with z1|z1
  ·apply gR (by simp only[go_sem,hF,g0,z1];rfl);apply gT (by simp only[go_sem,hF,g0,z1]);apply gS kG
   rw[← bad (by simp only[z1];rfl)]
   exact wr (gV [.tmp 2] [.c (.p (.bool false))] kF)
  rcases gK (decide (1099511627776<x.w)) with z2|z2
  ·apply gR (by simp only[go_sem,hF,g0,z1,z2];rfl);apply gT (by simp only[go_sem,hF,g0,z1,z2]);apply gS kG
   rw[← bad (by simp only[z1,z2];rfl)]
   exact wr (gV [.tmp 2] [.c (.p (.bool false))] kF)
  rcases gK ((x.bs.length:Int)==0) with z3|z3
  ·apply gR (by simp only[go_sem,hF,g0,z1,z2,z3];rfl);apply gT (by simp only[go_sem,hF,g0,z1,z2,z3]);apply gS kG
   rw[← bad (by simp only[z1,z2,z3];rfl)]
   exact wr (gV [.tmp 2] [.c (.p (.bool false))] kF)
  rcases gK (decide ((2000:Int)<x.bs.length)) with z4|z4
  ·apply gR (by simp only[go_sem,hF,g0,z1,z2,z3,z4];rfl);apply gT (by simp only[go_sem,hF,g0,z1,z2,z3,z4]);apply gS kG
   rw[← bad (by simp only[z1,z2,z3,z4];rfl)]
   exact wr (gV [.tmp 2] [.c (.p (.bool false))] kF)
  apply gR (by simp only[go_sem,hF,g0,z1,z2,z3,z4];rfl);apply gF (by simp only[go_sem,hF,g0,z1,z2,z3,z4])
  exact⟨⟨by simp only[z1,z2,z3,z4];rfl,by have:=of_decide_eq_false z1;omega,by have:=of_decide_eq_false z2;omega,by have:=of_decide_eq_false z4;omega⟩,rfl,by simp only[go_sem,hF],oZ⟩
 clear hF ho g0 e s1
 rintro⟨e,ds,s1⟩ ⟨⟨c2,hw1,hw2,hbl⟩,rfl,hF,ho⟩
 simp only[Fs] at hF ho
 rw[c2] at hR
 have hR0:bksOK x.k x.w (prevS x.bs 0) (x.bs.drop 0)=R:=by rw[← hR];rfl
 clear hR;apply gS kG;refine Wc.seqR (fun y=>R=true∧y.ds=[]∧Fs y.e 74 []) ?_ ?_
 ·refine Wc.seq ?_
  have g0:=ho.at_ (0,.cells (x.pd.map .p) false) kS
  simp only[gm] at g0;apply gR kC;refine Wc.block (Wc.loop (fun c y=>∃ i:Nat,c=x.bs.length-i∧i≤x.bs.length∧y.ds=[]∧Fs y.e 74 [(1,.v (.c (.ref 0 0))),(3,P' (pI (prevS x.bs i))),(41,P' (.lst x.bs.length (x.bs.flatMap Bkt.pd))),(42,P' (pI x.bs.length)),(43,P' (pI i))]∧OA y.s.nx y.s [] [(0,.cells (x.pd.map .p) false)]∧(-1≤prevS x.bs i)∧bksOK x.k x.w (prevS x.bs i) (x.bs.drop i)=R) ?_ (k:=x.bs.length) ?_)
  ·clear hF ho g0 hR0 e s1;rintro c ⟨e,ds,s1⟩ ⟨i,rfl,hi,rfl,hF,ho,hpm,hRi⟩;simp only[Fs] at hF ho;apply gS kG;refine Wc.seq (Wc.cond (t:=decide ((i:Int)<x.bs.length)) kF (fun hc=>?_) (fun hc=>?_))
   ·have hil:i<x.bs.length:=gi hc
    obtain⟨b,hb⟩:=gE hil
    have hix:=ixA ti29 rfl ti41 (j:=i) (m:=x.bs.length) (cs:=x.bs.flatMap Bkt.pd) hil hfl kD
    have hca:=rpA (off:=i*10) (drop_flat (f:=Bkt.pd) (k:=10) (fun _=>rfl) hb) (by rw[hfl];omega)
    have hpn:prevS x.bs (i+1)=b.st:=by simp[prevS,hb]
    rw[bksOK_step hb,hpn] at hRi
    refine Wc.skip (Wc.seq (Wc.block (Wc.seqA (fun y=>∃ k5,y.ds=[]∧Fs y.e 74 [(1,.v (.c (.ref 0 0))),(3,P' (pI (prevS x.bs i))),(41,P' (.lst x.bs.length (x.bs.flatMap Bkt.pd))),(42,P' (pI x.bs.length)),(43,P' (pI i)),(5,.v (.c (.ref k5 0)))]∧OA y.s.nx y.s [] [(k5,.cells (b.pd.map .p) false),(0,.cells (x.pd.map .p) false)]) ?_ ?_)))
    ·apply gR (by simp only[go_sem,hF,hix,hca];rfl)
     exact⟨rfl,s1.nx+3,rfl,by simp only[go_sem,hF],oZ⟩
    clear hF ho e s1
    rintro⟨e,ds,s1⟩ ⟨k5,rfl,hF,ho⟩
    simp only[Fs] at hF ho
    have g5:=ho.at_ (k5,.cells (b.pd.map .p) false) kS
    have g0:=ho.at_ (0,.cells (x.pd.map .p) false) kS
    simp only[gm] at g0 g5
    have hw0:(x.w=0)=False:=by simp only[eq_iff_iff,iff_false];omega
    refine Wc.seqR (fun y=>((decide (b.st≤prevS x.bs i) || decide (1099511627776≤b.st) || (b.st.tmod x.w != 0))=false∧0≤b.st∧b.st<1099511627776)∧y.ds=[]∧Fs y.e 74 [(1,.v (.c (.ref 0 0))),(41,P' (.lst x.bs.length (x.bs.flatMap Bkt.pd))),(42,P' (pI x.bs.length)),(43,P' (pI i)),(5,.v (.c (.ref k5 0)))]∧OA y.s.nx y.s [] [(k5,.cells (b.pd.map .p) false),(0,.cells (x.pd.map .p) false)]) ?_ ?_
    ·refine Wc.seq ?_
     have bad:(decide (b.st≤prevS x.bs i) || decide (1099511627776≤b.st) || (b.st.tmod x.w != 0))=true→false=R:=fun h=>by rw[← hRi,h];rfl
     rcases gK (decide (b.st≤prevS x.bs i)) with z1|z1
     ·apply gR (by simp only[go_sem,hF,g0,g5,hw0,z1];rfl);apply gT (by simp only[go_sem,hF,g0,g5,hw0,z1]);apply gS kG
      rw[← bad (by simp only[z1];rfl)]
      exact wr (gV [.tmp 2] [.c (.p (.bool false))] kF)
     rcases gK (decide (1099511627776≤b.st)) with z2|z2
     ·apply gR (by simp only[go_sem,hF,g0,g5,hw0,z1,z2];rfl);apply gT (by simp only[go_sem,hF,g0,g5,hw0,z1,z2]);apply gS kG
      rw[← bad (by simp only[z1,z2];rfl)]
      exact wr (gV [.tmp 2] [.c (.p (.bool false))] kF)
     rcases gK (b.st.tmod x.w != 0) with z3|z3
     ·apply gR (by simp only[go_sem,hF,g0,g5,hw0,z1,z2,z3];rfl);apply gT (by simp only[go_sem,hF,g0,g5,hw0,z1,z2,z3]);apply gS kG
      rw[← bad (by simp only[z1,z2,z3];rfl)]
      exact wr (gV [.tmp 2] [.c (.p (.bool false))] kF)
     apply gR (by simp only[go_sem,hF,g0,g5,hw0,z1,z2,z3];rfl);apply gF (by simp only[go_sem,hF,g0,g5,hw0,z1,z2,z3])
     exact⟨⟨by simp only[z1,z2,z3];rfl,by have:=of_decide_eq_false z1;omega,by have:=of_decide_eq_false z2;omega⟩,rfl,by simp only[go_sem,hF],oZ⟩
    clear hF ho g0 g5 e s1
    rintro⟨e,ds,s1⟩ ⟨⟨c3,hb0,hb1⟩,rfl,hF,ho⟩
    simp only[Fs] at hF ho
    have g5:=ho.at_ (k5,.cells (b.pd.map .p) false) kS
    have g0:=ho.at_ (0,.cells (x.pd.map .p) false) kS
    simp only[gm] at g0 g5
    rw[c3] at hRi
    refine gO ?_;refine gM fun K F=>?_;simp only[go_sem,hF,g0,g5];refine gP (pf155 b x.k x.w ⟨hb0,hb1⟩ ⟨hw1,hw2⟩) ?_;simp only[go_sem,hF,g0,g5];apply F;clear F K;refine Wc.cond (t:=!(bkA x.k x.w b)) kF (fun hc=>?_) (fun hc=>?_)
    ·have hbk:bkA x.k x.w b=false:=by simpa using hc
     apply gS kG
     rw[← hRi,hbk]
     exact wr (gV [.tmp 2] [.c (.p (.bool false))] kF)
    ·have hbk:bkA x.k x.w b=true:=by simpa using hc
     rw[hbk] at hRi
     refine Wc.skip ?_;apply gR (by simp only[go_sem,hF,g5];rfl);apply gR kX
     refine⟨x.bs.length-(i+1),kO,i+1,rfl,kO,rfl,by rw[hpn];exact by simp only[go_sem,hF],by(try simp only[gI]);repeat (first | exact oM (ho.sub (List.Sublist.refl _) (List.sublist_cons_self _ _)) | refine oN ?_ | refine oA ?_),by rw[hpn];omega,by rw[hpn];exact hRi⟩
   ·have hil:i=x.bs.length:=by have:=of_decide_eq_false hc;omega
    subst hil
    rw[List.drop_length] at hRi
    exact Wc.exit ⟨hRi.symm,rfl,by simp only[go_sem,hF]⟩
  ·exact⟨0,rfl,kO,rfl,by rw[show prevS x.bs 0 = -1 from rfl];exact by simp only[go_sem,hF],oZ,by simp[prevS],hR0⟩
 clear hF ho e s1
 rintro⟨e,ds,s1⟩ ⟨hRt,rfl,hF⟩
 simp only[Fs] at hF;subst hRt;apply gS kG;exact wr (gV [.tmp 2] [.c (.p (.bool true))] kF)
/-! ### coarser buckets -/
def grpB (k:Int)(l:List Bkt):List Bkt:=l.foldl (appB k) []
theorem ofB_grp (k w:Int)(l:List I2):ofB k w l=grpB k (l.map (single w)):=by
 unfold ofB grpB
 rw[List.foldl_map]
/-! ### merged buckets -/
def putB (k:Int):List Bkt→Bkt→Option (List Bkt)
 |[],b=>some [b]
 |c::l,b=>if c.st<b.st then (putB k l b).map (c :: ·) else if c.st≠b.st then some (b::c::l) else if c.lt<b.ft then some (joinB k c b::l) else if b.lt<c.ft then some (joinB k b c::l) else none
def AscB (l:List Bkt):Prop:=l.Pairwise (fun a b=>a.st<b.st)
/-! ### the buckets of samples: their order -/
theorem startOf_mono {w t u:Int}(hw:1≤w)(ht:1≤t)(h:t≤u):startOf w t≤startOf w u:=by
 unfold startOf
 rw[Int.tdiv_eq_ediv_of_nonneg kO,Int.tdiv_eq_ediv_of_nonneg kO]
 exact Int.mul_le_mul_of_nonneg_right (Int.ediv_le_ediv kO kO) kO
theorem ofB_snoc (k w:Int)(q:List I2)(z:I2):ofB k w (q++[z])=appB k (ofB k w q) (single w z):=by
 unfold ofB
 rw[List.foldl_append];rfl
def SpanB (w:Int)(l:List I2)(a:Bkt):Prop:=∃ x∈l,∃ y∈l,a.ft=x.1∧a.lt=y.1∧x.1≤y.1∧a.st=startOf w x.1∧a.st=startOf w y.1
theorem SpanB.more {w:Int}{l m:List I2}{a:Bkt}(h:SpanB w l a)(hs:∀ x∈l,x∈m):SpanB w m a:=by
 obtain⟨x,hx,y,hy,h⟩:=h
 exact⟨x,hs x hx,y,hs y hy,h⟩
theorem ofB_inv {k w:Int}(hw:1≤w):∀(n:Nat) (l:List I2),l.length=n→l.Pairwise (fun a b=>a.1<b.1)→(∀ x∈l,1≤x.1)→AscB (ofB k w l)∧∀ a∈ofB k w l,SpanB w l a
 |0,l,hn,_,_=>by
  have:l=[]:=List.length_eq_zero_iff.1 hn
  subst this
  exact⟨List.Pairwise.nil,fun a ha=>by cases ha⟩
 |n+1,l,hn,hs,hb=>by
  have hne:l≠[]:=fun e=>by rw[e] at hn;simp at hn
  obtain⟨q,z,rfl⟩:∃ q y,l=q++[y]:=⟨l.dropLast,l.getLast hne,(List.dropLast_concat_getLast hne).symm⟩
  obtain⟨s1,_,s3⟩:=List.pairwise_append.1 hs
  obtain⟨ih1,ih2⟩:=ofB_inv (k:=k) hw n q (by simpa using hn) s1 (fun x hx=>hb x (by simp[hx]))
  have hz:=hb z kS
  have hst:∀ a∈ofB k w q,a.st≤startOf w z.1:=fun a ha=>by
   obtain⟨x,hx,y,hy,_,_,_,_,e⟩:=ih2 a ha
   rw[e]
   exact startOf_mono hw (hb y (by simp[hy])) (by have:=s3 y hy z kS;omega)
  have hsz:SpanB w (q++[z]) (single w z):=⟨z,by simp,z,by simp,rfl,rfl,Int.le_refl _,rfl,rfl⟩
  rw[ofB_snoc]
  rcases List.eq_nil_or_concat (ofB k w q) with h0|⟨D,a,h0⟩
  ·rw[h0]
   have e:appB k [] (single w z)=[single w z]:=rfl
   rw[e]
   exact⟨List.pairwise_singleton ..,fun a ha=>by rw[List.mem_singleton.1 ha];exact hsz⟩
  ·rw[List.concat_eq_append] at h0
   rw[h0] at ih1 ih2 hst ⊢
   obtain⟨p1,_,p3⟩:=List.pairwise_append.1 ih1
   by_cases hc:a.st=(single w z).st
   ·rw[appB_same hc]
    refine⟨List.pairwise_append.2 ⟨p1,List.pairwise_singleton ..,fun x hx y hy=>?_⟩,fun b hb'=>?_⟩
    ·rw[List.mem_singleton.1 hy];exact p3 x hx a kS
    ·rcases List.mem_append.1 hb' with hb'|hb'
     ·exact(ih2 b (by simp[hb'])).more fun x hx=>by simp[hx]
     ·rw[List.mem_singleton.1 hb']
      obtain⟨x,hx,y,hy,e1,e2,e3,e4,e5⟩:=ih2 a kS
      exact⟨x,by simp[hx],z,by simp,e1,rfl,by have:=s3 x hx z kS;omega,e4,hc⟩
   ·rw [appB_new (fun x hx => by
     simp only[List.getLast?_append,List.getLast?_singleton,Option.some_or,Option.some.injEq] at hx;subst hx;exact hc)]
    refine⟨List.pairwise_append.2 ⟨ih1,List.pairwise_singleton ..,fun x hx y hy=>?_⟩,fun b hb'=>?_⟩
    ·rw[List.mem_singleton.1 hy]
     have ha:=hst a kS
     have hc':a.st≠startOf w z.1:=hc
     show x.st<startOf w z.1
     rcases List.mem_append.1 hx with hx|hx
     ·have:=p3 x hx a kS;omega
     ·rw[List.mem_singleton.1 hx];omega
    ·rcases List.mem_append.1 hb' with hb'|hb'
     ·exact(ih2 b hb').more fun x hx=>by simp[hx]
     ·rw[List.mem_singleton.1 hb'];exact hsz
/-! ### the samples of each bucket -/
/-! ### the buckets of valid samples are valid -/
structure GoodB (k n:Int) (b:Bkt):Prop where
 c1:1≤b.c
 c2:b.c≤n
 eq:b.ft=b.lt ↔ b.c=1
 f1:b.mn≤b.f
 f2:b.f≤b.mx
 l1:b.mn≤b.l
 l2:b.l≤b.mx
 lo : -1099511627776≤b.mn
 hi:b.mx≤1099511627776
 pos:k=2→0≤b.mn
 s1:b.c*b.mn≤b.s
 s2:b.s≤b.c*b.mx
 i0:0≤b.inc
 i1:b.inc≤(b.c-1)*1099511627776
 ik:k≠2→b.inc=0
 one:b.c=1→b.mn=b.mx
def okS (k:Int)(x:I2):Prop:=(1≤x.1∧x.1≤1099511627776)∧(-1099511627776≤x.2∧x.2≤1099511627776)∧(k=2→0≤x.2)
theorem GoodB.single {k w:Int}{x:I2}(h:okS k x):GoodB k 1 (single w x):=by
 obtain⟨_,⟨h1,h2⟩,h3⟩:=h
 exact ⟨Int.le_refl _, Int.le_refl _, ⟨fun _ => rfl, fun _ => rfl⟩, Int.le_refl _, Int.le_refl _, Int.le_refl _, Int.le_refl _, h1, h2, h3, by show 1 * x.2 ≤ x.2; omega, by show x.2 ≤ 1 * x.2; omega,
  Int.le_refl _,by show(0:Int)≤(1-1)*1099511627776;omega,fun _=>rfl,fun _=>rfl⟩
theorem GoodB.more {k n m:Int}{b:Bkt}(h:GoodB k n b)(hm:n≤m):GoodB k m b:={ h with c2:=by have:=h.c2;omega }
theorem minI_le (a b:Int):minI a b≤a∧minI a b≤b∧(minI a b=a∨minI a b=b):=by unfold minI;split<;>omega
theorem le_maxI (a b:Int):a≤maxI a b∧b≤maxI a b∧(maxI a b=a∨maxI a b=b):=by unfold maxI;split<;>omega
theorem GoodB.join {k w n:Int}{a:Bkt}{x:I2}(h:GoodB k n a)(hx:okS k x)(hlt:a.ft≤a.lt)(hl:a.lt<x.1):GoodB k (n+1) (joinB k a (Go.Proofs.YtedcnhbblgmdnaaGreat.Ab.single w x)):=by
 obtain⟨_,⟨h1,h2⟩,h3⟩:=hx
 obtain⟨m1,m2,m3⟩:=minI_le a.mn x.2
 obtain⟨n1,n2,n3⟩:=le_maxI a.mx x.2
 have c1:=h.c1;have c2:=h.c2;have f1:=h.f1;have f2:=h.f2;have lo:=h.lo;have hi:=h.hi;have l1:=h.l1;have l2:=h.l2
 have a1:=Int.mul_le_mul_of_nonneg_left m1 (show 0≤a.c by omega)
 have a2:=Int.mul_le_mul_of_nonneg_left n1 (show 0≤a.c by omega)
 have s1:=h.s1;have s2:=h.s2;have i0:=h.i0;have i1:=h.i1
 refine⟨?_,?_,?_,?_,?_,?_,?_,?_,?_,?_,?_,?_,?_,?_,?_,?_⟩<;>simp only[joinB,Go.Proofs.YtedcnhbblgmdnaaGreat.Ab.single]
 ·omega
 ·omega
 ·constructor<;>intro hh<;>omega
 ·omega
 ·omega
 ·exact m2
 ·exact n2
 ·rcases m3 with e|e<;>omega
 ·rcases n3 with e|e<;>omega
 ·intro hk;have:=h.pos hk;have:=h3 hk;rcases m3 with e | e<;>omega
 ·rw[Int.add_mul,Int.one_mul];omega
 ·rw[Int.add_mul,Int.one_mul];omega
 ·split
  ·rename_i hk
   have:=h3 hk
   unfold stepV;split<;>omega
  ·exact i0
 ·split
  ·rename_i hk
   have:=h3 hk
   have:=h.pos hk
   unfold stepV;split<;>omega
  ·omega
 ·intro hk;rw[if_neg hk];exact h.ik hk
 ·intro hh;omega
theorem ofB_good {k w:Int}(hw:1≤w):∀(n:Nat) (l:List I2),l.length=n→l.Pairwise (fun a b=>a.1<b.1)→(∀ x∈l,okS k x)→∀ a∈ofB k w l,GoodB k n a
 |0,l,hn,_,_,a,ha=>by
  have:l=[]:=List.length_eq_zero_iff.1 hn
  subst this;cases ha
 |n+1,l,hn,hs,hb,b,hb'=>by
  have hne:l≠[]:=fun e=>by rw[e] at hn;simp at hn
  obtain⟨q,z,rfl⟩:∃ q y,l=q++[y]:=⟨l.dropLast,l.getLast hne,(List.dropLast_concat_getLast hne).symm⟩
  obtain⟨s1,_,s3⟩:=List.pairwise_append.1 hs
  have hq:q.length=n:=by simpa using hn
  have ih:=ofB_good (k:=k) hw n q hq s1 (fun x hx=>hb x (by simp[hx]))
  obtain⟨_,sp⟩:=ofB_inv (k:=k) hw n q hq s1 (fun x hx=>(hb x (by simp[hx])).1.1)
  have hz:=hb z kS
  rw[ofB_snoc] at hb'
  rcases List.eq_nil_or_concat (ofB k w q) with h0|⟨D,a,h0⟩
  ·rw[h0] at hb'
   have e:appB k [] (single w z)=[single w z]:=rfl
   rw[e] at hb'
   rw[List.mem_singleton.1 hb']
   exact(GoodB.single hz).more kO
  ·rw[List.concat_eq_append] at h0
   rw[h0] at ih sp hb'
   by_cases hc:a.st=(single w z).st
   ·rw[appB_same hc] at hb'
    rcases List.mem_append.1 hb' with hb'|hb'
    ·exact(ih b (by simp[hb'])).more kO
    ·rw[List.mem_singleton.1 hb']
     obtain⟨x,hx,y,hy,e1,e2,e3,e4,e5⟩:=sp a kS
     exact GoodB.join (ih a kS) hz kO (by rw[e2];exact s3 y hy z kS)
   ·rw [appB_new (fun x hx => by
     simp only[List.getLast?_append,List.getLast?_singleton,Option.some_or,Option.some.injEq] at hx;subst hx;exact hc)] at hb'
    rcases List.mem_append.1 hb' with hb'|hb'
    ·exact(ih b hb').more kO
    ·rw[List.mem_singleton.1 hb']
     exact(GoodB.single hz).more kO
theorem GoodB.bkA {k w:Int}{b:Bkt}(h:GoodB k 2000 b)(hk:k=1∨k=2)(t1:b.st<b.ft)(t2:b.ft≤b.lt)(t3:b.lt≤b.st+w)(t4:b.lt≤1099511627776):bkA k w b=true:=by
 have c1:=h.c1;have c2:=h.c2;have f1:=h.f1;have f2:=h.f2;have lo:=h.lo;have hi:=h.hi;have l1:=h.l1;have l2:=h.l2
 have s1:=h.s1;have s2:=h.s2;have i0:=h.i0;have i1:=h.i1
 have ok:∀ v,b.mn≤v→v≤b.mx→okV k v=true:=fun v v1 v2=>by
  unfold okV isVl
  have:(k==2&&decide (v<0))=false:=by
   rcases hk with rfl|rfl
   ·rfl
   ·have:=h.pos rfl;simp;omega
  rw[this];simp;omega
 have b1:bkA1 w b=false:=by unfold bkA1;simp;omega
 have b2:bkA2 b=false:=by
  unfold bkA2
  have:(b.ft==b.lt)=(b.c==1):=by
   rw[Bool.eq_iff_iff];simp[h.eq]
  rw[this];simp;omega
 have b3:bkA3 k b=true:=by
  unfold bkA3
  rw[ok b.mn kO kO,ok b.mx kO kO,ok b.f kO kO,ok b.l kO kO];rfl
 have b4:bkA4 b=false:=by unfold bkA4;simp;omega
 have b5:bkA5 b=false:=by unfold bkA5;simp;omega
 have b6:bkA6 k b=false:=by
  unfold bkA6
  have:((k==1)&&(b.inc != 0))=false:=by
   rcases hk with rfl|rfl
   ·simp[h.ik kO]
   ·rfl
  rw[this];simp;omega
 have b7:bkA7 b=true:=by
  unfold bkA7
  by_cases hc:1<b.c
  ·simp[hc]
  ·have hc1:b.c=1:=kO
   have:=h.one hc1
   rw[hc1] at s1 s2
   simp;right;omega
 unfold Go.Proofs.YtedcnhbblgmdnaaGreat.Ab.bkA
 rw[b1,b2,b3,b4,b5,b6,b7];rfl
/-! ### the reference's examination of a bucket -/
def rfA (w:Int)(b:Bkt):Bool:=decide (b.st<0) || decide (1099511627776≤b.st) || (b.st.tmod w != 0) || decide (b.ft≤b.st) || decide (b.lt<b.ft) || decide (b.st+w<b.lt) || decide (1099511627776<b.lt)
def rfB (b:Bkt):Bool:=!btw b.c 1 2000 || ((b.ft==b.lt) !=(b.c==1))
def rfC (k:Int)(b:Bkt):Bool:=decide (b.mn<(if k=2 then 0 else -1099511627776)) || decide (1099511627776<b.mx) || !btw b.f b.mn b.mx || !btw b.l b.mn b.mx
def rfD (k:Int)(b:Bkt):Bool:=!btw b.s (b.c*b.mn) (b.c*b.mx) || decide (b.inc<0) || ((k==1)&&(b.inc != 0)) || decide ((b.c-1)*1099511627776<b.inc)
def rfE (b:Bkt):Bool:=decide (1<b.c) || ((b.mn==b.mx)&&(b.inc==0))
def rfBk (k w:Int)(b:Bkt):Bool:=!rfA w b&&(!rfB b&&(!rfC k b&&(!rfD k b&&rfE b)))
theorem okV_iff {k v:Int}(hk:k=1∨k=2):okV k v=true ↔ (if k=2 then 0 else -1099511627776)≤v∧v≤1099511627776:=by
 unfold okV isVl;rcases hk with rfl|rfl
 ·simp
 ·simp;omega
theorem rfBk_eq {k w:Int}{b:Bkt}(hk:k=1∨k=2):rfBk k w b=(decide (0≤b.st)&&(decide (b.st<1099511627776)&&((b.st.tmod w==0)&&bkA k w b))):=by
 have eA:rfA w b=false ↔ (0≤b.st∧b.st<1099511627776∧b.st.tmod w=0)∧bkA1 w b=false:=by
  unfold rfA bkA1;simp;omega
 have eB:rfB b=bkA2 b:=by
  unfold rfB bkA2 btw
  rw[Bool.not_and,← decide_not,← decide_not,decide_eq_decide.2 (show ¬ 1≤b.c ↔ b.c<1 by omega),decide_eq_decide.2 (show ¬ b.c≤2000 ↔ 2000<b.c by omega)]
 rw[Bool.eq_iff_iff]
 unfold rfBk bkA;simp only[Bool.and_eq_true,Bool.not_eq_true',decide_eq_true_eq,beq_iff_eq,eA,eB]
 have key:bkA2 b=false→((rfC k b=false∧rfD k b=false∧rfE b=true) ↔ (bkA3 k b=true∧bkA4 b=false∧bkA5 b=false∧bkA6 k b=false∧bkA7 b=true)):=fun h2=>by
  have hc:1≤b.c∧b.c≤2000:=by
   unfold bkA2 at h2;simp at h2;omega
  have e3:bkA3 k b=true ↔ (okV k b.mn=true∧okV k b.mx=true∧okV k b.f=true∧okV k b.l=true):=by unfold bkA3;simp
  have e4:bkA4 b=false ↔ (b.mn≤b.f∧b.f≤b.mx)∧(b.mn≤b.l∧b.l≤b.mx):=by unfold bkA4;simp;omega
  have e5:bkA5 b=false ↔ b.c*b.mn≤b.s∧b.s≤b.c*b.mx:=by unfold bkA5;simp
  have e6:bkA6 k b=false ↔ (k=1→b.inc=0)∧0≤b.inc∧b.inc≤(b.c-1)*1099511627776:=by unfold bkA6;simp;omega
  have eC:rfC k b=false ↔ (if k=2 then 0 else -1099511627776)≤b.mn∧b.mx≤1099511627776∧(b.mn≤b.f∧b.f≤b.mx)∧(b.mn≤b.l∧b.l≤b.mx):=by unfold rfC btw;simp;omega
  have eD:rfD k b=false ↔ (b.c*b.mn≤b.s∧b.s≤b.c*b.mx)∧0≤b.inc∧(k=1→b.inc=0)∧b.inc≤(b.c-1)*1099511627776:=by unfold rfD btw;simp;omega
  have eE:rfE b=true ↔ 1<b.c∨(b.mn=b.mx∧b.inc=0):=by unfold rfE;simp
  have e7:bkA7 b=true ↔ 1<b.c∨(b.s=b.mn∧b.mn=b.mx∧b.f=b.mn∧b.l=b.mn):=by unfold bkA7;simp;omega
  rw[e3,e4,e5,e6,e7,eC,eD,eE,okV_iff hk,okV_iff hk,okV_iff hk,okV_iff hk]
  generalize (if k=2 then (0:Int) else -1099511627776)=lo;rcases Int.lt_or_eq_of_le hc.1 with h1|h1
  ·constructor<;>intro h<;>omega
  ·rw[← h1,Int.one_mul,Int.one_mul]
   constructor<;>intro h<;>omega
 constructor
 ·rintro⟨⟨⟨a1,a2,a3⟩,a4⟩,h2,h3⟩
  exact⟨a1,a2,a3,a4,h2,(key h2).1 h3⟩
 ·rintro⟨a1,a2,a3,a4,h2,h3⟩
  exact⟨⟨⟨a1,a2,a3⟩,a4⟩,h2,(key h2).2 h3⟩
def rfBks (k w:Int):Int→List Bkt→Bool
 |_,[]=>true
 |p,b::r=>!(!rfBk k w b || decide (b.st≤p))&&rfBks k w b.st r
theorem rfBks_eq {k w:Int}(hk:k=1∨k=2):∀(l:List Bkt) (p:Int),-1≤p→rfBks k w p l=bksOK k w p l
 |[],_,_=>rfl
 |b::r,p,hp=>by
  rw[rfBks,bksOK,rfBk_eq hk]
  by_cases h0:0≤b.st
  ·rw[rfBks_eq hk r b.st kO]
   rw[Bool.eq_iff_iff]
   simp
   constructor<;>intro h
   ·exact⟨⟨⟨kO,kO⟩,by simpa using h.1.1.2.2.1⟩,h.1.1.2.2.2,h.2⟩
   ·exact⟨⟨⟨h0,kO,by simpa using h.1.2,h.2.1⟩,kO⟩,h.2.2⟩
  ·have e1:decide (0≤b.st)=false:=decide_eq_false h0
   have e2:decide (b.st≤p)=true:=decide_eq_true kO
   rw[e1,e2];rfl
/-! ### too many samples in a bucket -/
end Go.Proofs.YtedcnhbblgmdnaaGreat.Ab
