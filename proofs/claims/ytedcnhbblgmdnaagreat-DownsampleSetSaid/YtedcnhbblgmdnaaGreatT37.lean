/- A part of the proof. -/
import Derived.Test.YtedcnhbblgmdnaaGreatT29
set_option maxHeartbeats 8000000
set_option maxRecDepth 10000
set_option linter.unusedSimpArgs false
set_option linter.unusedVariables false
namespace Go.Proofs.YtedcnhbblgmdnaaGreat.Ab
theorem o120:E0.opn 120=false:=by kernel_rfl
theorem x120:E0.xt 120=none:=by kernel_rfl
theorem o122:E0.opn 122=false:=by kernel_rfl
theorem x122:E0.xt 122=none:=by kernel_rfl
theorem o123:E0.opn 123=false:=by kernel_rfl
theorem x123:E0.xt 123=none:=by kernel_rfl
def wV (w:List UInt8×Int)(l:List Int):List UInt8×Int:=partW w (encV l).1 (encV l).2
theorem encR_C (x:Rlp)(h:rlpOK x=true):encR x=encC 6 (.lst x.lb.length (x.lb.flatMap lbP)) (rlpZ x.bs).pd (appV (appV [] x.k).1 x.w).1 (bktCs x.bs):=by
 unfold encR encC
 rw[if_neg (by simp[h]),packE_cols]
 rfl
theorem bktCs_eq (l:List Bkt):bktCs l=encT (l.map fun b=>IntKind.i64.wrap (b.st+1))::(colsK l l.length 0).map encV:=by
 simp[bktCs,bktCols,encF0,encF1,colsK,colF,List.range_succ,bktF]
theorem wV_fold (w:List UInt8×Int):∀ ls:List (List Int),ls.foldl wV w=(ls.map encV).foldl (fun w c=>partW w c.1 c.2) w
 |[]=>rfl
 |l::r=>by rw[List.foldl_cons,List.map_cons,List.foldl_cons];exact wV_fold _ r
theorem partW_len (w:List UInt8×Int)(t:List UInt8)(e:Int)(ht:t.length<2^40):(partW w t e).1.length≤w.1.length+(t.length+10):=by
 unfold partW
 split
 ·omega
 ·split
  ·simp
  ·have:appV w.1 (t.length:Int)=(w.1++vb t.length,0):=by unfold appV;rw[if_neg kO,Int.toNat_natCast]
   rw[this]
   have:=vb_len10 (n:=t.length) kO
   simp only[List.length_append];omega
theorem tsd {xs:List C}{j:Nat}{c:C}(h:j<xs.length):xs.take j++[c]++xs.drop (j+1)=xs.set j c:=by
 rw[List.set_eq_take_append_cons_drop,if_pos h];simp
theorem pf65 (x:Rlp)(z:Rz x):Pf E0 65 [.agg (x.pd.map .p)] (encR x):=by
 have hfl:=fB x.bs
 have p54:=pf54 x z.lb z.ls
 refine gQ (fn:=Tryz.f65) ?_;simp only[gL,Tryz.ntmps65,Nat.reduceSub,Nat.reduceAdd];refine gY ?_;cases hok:rlpOK x with
 |false =>
  rw[hok] at p54
  unfold encR
  rw[hok,if_pos rfl]
  refine gO ?_;refine gM fun K F=>?_;simp only[go_sem];refine gP p54 ?_;simp only[go_sem];apply F;clear F K;refine gG ?_;refine gY ?_;exact wr (gU [.cell 2 96,.tmp 3] [.agg ([.p (pI 0),.nils]++zz0.map .p++[.p (.str [])]),.c (.p (pI 1))])
 |true =>
 rw[hok] at p54
 rw[encR_C x hok]
 obtain⟨hk,hw,hne,hbl⟩:=rlpOK_some hok
 obtain⟨b0,r0,hbs⟩:∃ b0 r0,x.bs=b0::r0:=by
  cases hx:x.bs with
  |nil=>exact absurd hx hne
  |cons a r=>exact⟨a,r,rfl⟩
 have hb0:x.bs[0]? = some b0:=by rw[hbs];rfl
 have hlen0:0<x.bs.length:=by rw[hbs];simp
 obtain⟨bl,hbl1⟩:∃ bl,x.bs[x.bs.length-1]? = some bl:=⟨x.bs[x.bs.length-1],List.getElem?_eq_getElem kO⟩
 have hZ:(rlpZ x.bs).pd=[pI x.bs.length,pI b0.ft,pI bl.lt,pI (x.bs.foldl (fun m y=>minI m y.mn) b0.mn),pI (x.bs.foldl (fun m y=>maxI m y.mx) b0.mx),.int .u32 0,.int .u32 0,.int .u32 0,.int .u32 0,.int .u32 0,.int .u32 0,.int .u32 0,.int .u32 0]:=by
  have e:bl=(b0::r0).getLast kS:=by
   rw[hbs,List.getLast?_eq_getElem?.symm] at hbl1
   rw[List.getLast?_eq_some_getLast kS] at hbl1
   exact(Option.some.inj hbl1).symm
  rw[hbs,e]
  rfl
 refine gO ?_;refine gM fun K F=>?_;simp only[go_sem];refine gP p54 ?_;simp only[go_sem];apply F;clear F K;refine gH ?_;refine gY ?_
 have hix0:indexAddrD E0 29 (.v (.c (.p (.lst x.bs.length (x.bs.flatMap Bkt.pd))))) (.v (.c (.p (.int .i64 0))))=some (.v (.c (.rp (x.bs.flatMap Bkt.pd) 0))):=ixA ti29 rfl ti41 (j:=0) hlen0 hfl kD
 have hixl:=ixA ti29 rfl ti41 (j:=x.bs.length-1) (m:=x.bs.length) (cs:=x.bs.flatMap Bkt.pd) kO hfl kD
 have c07:=rpB hb0 7 kO
 have c03:=rpB hb0 3 kO
 have c04:=rpB hb0 4 kO
 simp only[Nat.zero_mul,Nat.zero_add] at c07 c03 c04
 have cl8:=rpB hbl1 8 kO
 have w1:IntKind.i64.wrap ((x.bs.length:Int)-1)=((x.bs.length-1:Nat):Int):=by rw[wi64];omega
 refine Wc.seqA (fun y=>∃ k5,y.ds=[]∧Fs y.e 140 [(1,.v (.c (.ref 0 0))),(2,.v (.c (.ref 1 0))),(4,P' (pI x.bs.length)),(5,.v (.c (.ref k5 0)))]∧OA y.s.nx y.s [] ((k5,.cells [.p (pI x.bs.length),.p (pI b0.ft),.p (pI bl.lt),.p (pI b0.mn),.p (pI b0.mx),.p (.int .u32 0),.p (.int .u32 0),.p (.int .u32 0),.p (.int .u32 0),.p (.int .u32 0),.p (.int .u32 0),.p (.int .u32 0),.p (.int .u32 0)] false)::[(1,.cells ([.p (pI 0),.nils]++zz0.map .p++[.p (.str [])]) false),(0,.cells (x.pd.map .p) false)])) ?_ ?_
 ·refine Wc.regT fun K F=>?_;simp only[go_sem,hix0,hixl,c07,c03,c04,cl8,w1];refine⟨by rw[trOK_eq3];rfl,F _ _ ?_⟩;clear F K
  exact⟨rfl,34,rfl,by simp only[go_sem],by(try simp only[St.put_adv,St.adv_adv,St.put_put,gI]);repeat (first | exact oM s00_oa | refine oN ?_ | refine oP ?_ | refine oA ?_)⟩
 clear hix0 hixl c07 c03 c04 cl8 w1
 rintro⟨e,ds,s1⟩ ⟨k5,rfl,hF,ho⟩
 simp only[Fs] at hF ho;refine Wc.seqA (fun y=>∃ sc,y.ds=[]∧Fs y.e 140 [(1,.v (.c (.ref 0 0))),(2,.v (.c (.ref 1 0))),(4,P' (pI x.bs.length)),(5,.v (.c (.ref k5 0))),(6,.v (.c sc))]∧OA y.s.nx y.s [(1,.v (.c sc),0,[])] ((k5,.cells [.p (pI x.bs.length),.p (pI b0.ft),.p (pI bl.lt),.p (pI b0.mn),.p (pI b0.mx),.p (.int .u32 0),.p (.int .u32 0),.p (.int .u32 0),.p (.int .u32 0),.p (.int .u32 0),.p (.int .u32 0),.p (.int .u32 0),.p (.int .u32 0)] false)::[(1,.cells ([.p (pI 0),.nils]++zz0.map .p++[.p (.str [])]) false),(0,.cells (x.pd.map .p) false)])) ?_ ?_
 ·apply gR kG
  exact⟨rfl,.own 0 [] s1.nx,rfl,by simp only[go_sem,hF],(OA.front (k:=s1.nx) (es:=1) (n:=0) (cs:=[]) (OA.adv ho) (Nat.le_refl _) rfl).mono kY⟩
 clear hF ho e s1
 rintro⟨e,ds,s1⟩ ⟨sc,rfl,hF,ho⟩
 simp only[Fs] at hF ho;refine Wc.seqA (fun y=>∃ k7,y.ds=[]∧Fs y.e 140 [(1,.v (.c (.ref 0 0))),(2,.v (.c (.ref 1 0))),(4,P' (pI x.bs.length)),(5,.v (.c (.ref k5 0))),(6,.v (.c sc)),(7,.v (.c (.mt k7 0 9 1)))]∧OA y.s.nx y.s ([(1,.v (.c sc),0,[])]++en (List.replicate 9 .nils) (colsK x.bs 0 0)) ((k7,.cells (List.replicate 9 .nils) false)::(k5,.cells [.p (pI x.bs.length),.p (pI b0.ft),.p (pI bl.lt),.p (pI b0.mn),.p (pI b0.mx),.p (.int .u32 0),.p (.int .u32 0),.p (.int .u32 0),.p (.int .u32 0),.p (.int .u32 0),.p (.int .u32 0),.p (.int .u32 0),.p (.int .u32 0)] false)::[(1,.cells ([.p (pI 0),.nils]++zz0.map .p++[.p (.str [])]) false),(0,.cells (x.pd.map .p) false)])) ?_ ?_
 ·have h1:(((24:Nat):Int)*9≤140737488355328)=True:=by simp
  have h2:((9:Int)≤9223372036854775807)=True:=by simp
  have h3:((9:Int)=0)=False:=by simp
  apply gR (by simp only[go_sem,hF,h1,h2,h3];rfl)
  exact⟨rfl,s1.nx,rfl,by simp only[go_sem,hF],OA.nils (by simp only[List.replicate,repl,List.cons_append,List.nil_append];exact by(try simp only[St.put_adv,St.adv_adv,St.put_put,gI]);repeat (first | exact oM ho | refine oN ?_ | refine oP ?_ | refine oA ?_)) x.bs⟩
 clear hF ho e s1
 rintro⟨e,ds,s1⟩ ⟨k7,rfl,hF,ho⟩
 simp only[Fs] at hF ho;refine Wc.seqA (fun y=>∃ sc xs,xs.length=9∧y.ds=[]∧Fs y.e 140 [(1,.v (.c (.ref 0 0))),(2,.v (.c (.ref 1 0))),(4,P' (pI x.bs.length)),(5,.v (.c (.ref k5 0))),(6,.v (.c sc)),(7,.v (.c (.mt k7 0 9 1)))]∧OA y.s.nx y.s ([(1,.v (.c sc),(x.bs.map fun b=>IntKind.i64.wrap (b.st+1)).length,(x.bs.map fun b=>IntKind.i64.wrap (b.st+1)).map pI)]++en xs (colsK x.bs x.bs.length 0)) ((k7,.cells xs false)::(k5,.cells [.p (pI x.bs.length),.p (pI b0.ft),.p (pI bl.lt),.p (pI (x.bs.foldl (fun m y=>minI m y.mn) b0.mn)),.p (pI (x.bs.foldl (fun m y=>maxI m y.mx) b0.mx)),.p (.int .u32 0),.p (.int .u32 0),.p (.int .u32 0),.p (.int .u32 0),.p (.int .u32 0),.p (.int .u32 0),.p (.int .u32 0),.p (.int .u32 0)] false)::[(1,.cells ([.p (pI 0),.nils]++zz0.map .p++[.p (.str [])]) false),(0,.cells (x.pd.map .p) false)])) ?_ ?_
 ·apply gS kG;refine Wc.block (Wc.loop (fun q y=>∃(i:Nat) (sc:C) (xs:List C),q=x.bs.length-i∧(i≤x.bs.length∧xs.length=9)∧y.ds=[]∧Fs y.e 140 [(1,.v (.c (.ref 0 0))),(2,.v (.c (.ref 1 0))),(4,P' (pI x.bs.length)),(5,.v (.c (.ref k5 0))),(6,.v (.c sc)),(7,.v (.c (.mt k7 0 9 1))),(8,P' (pI i))]∧OA y.s.nx y.s ([(1,.v (.c sc),((x.bs.take i).map fun b=>IntKind.i64.wrap (b.st+1)).length,((x.bs.take i).map fun b=>IntKind.i64.wrap (b.st+1)).map pI)]++en xs (colsK x.bs i 0)) ((k7,.cells xs false)::(k5,.cells [.p (pI x.bs.length),.p (pI b0.ft),.p (pI bl.lt),.p (pI ((x.bs.take i).foldl (fun m y=>minI m y.mn) b0.mn)),.p (pI ((x.bs.take i).foldl (fun m y=>maxI m y.mx) b0.mx)),.p (.int .u32 0),.p (.int .u32 0),.p (.int .u32 0),.p (.int .u32 0),.p (.int .u32 0),.p (.int .u32 0),.p (.int .u32 0),.p (.int .u32 0)] false)::[(1,.cells ([.p (pI 0),.nils]++zz0.map .p++[.p (.str [])]) false),(0,.cells (x.pd.map .p) false)])) ?_ (k:=x.bs.length) ⟨0,sc,List.replicate 9 .nils,rfl,⟨kO,rfl⟩,rfl,by simp only[go_sem,hF],oZ⟩);clear hF ho e s1 sc;rintro q ⟨e,ds,s1⟩ ⟨i,sc,xs,rfl,⟨hi,hxs⟩,rfl,hF,ho⟩;simp only[Fs] at hF ho;refine gO ?_;apply gR kG;refine Wc.cond (t:=decide ((i:Int)<x.bs.length)) kF (fun hc=>?_) (fun hc=>?_)
  ·have hil:i<x.bs.length:=gi hc
   obtain⟨b,hb⟩:=gE hil
   have hix:=ixA ti29 rfl ti41 (j:=i) (m:=x.bs.length) (cs:=x.bs.flatMap Bkt.pd) hil hfl kD
   have hca:=rpB0 hb
   have g0:=ho.at_ (0,.cells (x.pd.map .p) false) kS
   simp only[gm] at g0;refine Wc.skip (Wc.seq (Wc.block (Wc.seqA (fun y=>∃ k9,y.ds=[]∧Fs y.e 140 [(1,.v (.c (.ref 0 0))),(2,.v (.c (.ref 1 0))),(4,P' (pI x.bs.length)),(5,.v (.c (.ref k5 0))),(6,.v (.c sc)),(7,.v (.c (.mt k7 0 9 1))),(8,P' (pI i)),(9,.v (.c (.ref k9 0)))]∧OA y.s.nx y.s ([(1,.v (.c sc),((x.bs.take i).map fun b=>IntKind.i64.wrap (b.st+1)).length,((x.bs.take i).map fun b=>IntKind.i64.wrap (b.st+1)).map pI)]++en xs (colsK x.bs i 0)) ((k9,.cells (b.pd.map .p) false)::(k7,.cells xs false)::(k5,.cells [.p (pI x.bs.length),.p (pI b0.ft),.p (pI bl.lt),.p (pI ((x.bs.take i).foldl (fun m y=>minI m y.mn) b0.mn)),.p (pI ((x.bs.take i).foldl (fun m y=>maxI m y.mx) b0.mx)),.p (.int .u32 0),.p (.int .u32 0),.p (.int .u32 0),.p (.int .u32 0),.p (.int .u32 0),.p (.int .u32 0),.p (.int .u32 0),.p (.int .u32 0)] false)::[(1,.cells ([.p (pI 0),.nils]++zz0.map .p++[.p (.str [])]) false),(0,.cells (x.pd.map .p) false)])) ?_ ?_)))
   ·apply gR (by simp only[go_sem,hF,g0,hix,hca];rfl)
    exact⟨rfl,s1.nx+8,rfl,by simp only[go_sem,hF],by(try simp only[St.put_adv,St.adv_adv,St.put_put,gI]);repeat (first | exact oM ho | refine oN ?_ | refine oP ?_ | refine oA ?_)⟩
   clear hF ho g0 hix hca e s1
   rintro⟨e,ds,s1⟩ ⟨k9,rfl,hF,ho⟩
   simp only[Fs] at hF ho
   have g9:=ho.at_ (k9,.cells (b.pd.map .p) false) kS
   simp only[gm] at g9;refine Wc.seqA (fun y=>∃ sc,y.ds=[]∧Fs y.e 140 [(1,.v (.c (.ref 0 0))),(2,.v (.c (.ref 1 0))),(4,P' (pI x.bs.length)),(5,.v (.c (.ref k5 0))),(6,.v (.c sc)),(7,.v (.c (.mt k7 0 9 1))),(8,P' (pI i)),(9,.v (.c (.ref k9 0)))]∧OA y.s.nx y.s ([(1,.v (.c sc),((x.bs.take (i+1)).map fun b=>IntKind.i64.wrap (b.st+1)).length,((x.bs.take (i+1)).map fun b=>IntKind.i64.wrap (b.st+1)).map pI)]++en xs (colsK x.bs i 0)) ((k9,.cells (b.pd.map .p) false)::(k7,.cells xs false)::(k5,.cells [.p (pI x.bs.length),.p (pI b0.ft),.p (pI bl.lt),.p (pI ((x.bs.take i).foldl (fun m y=>minI m y.mn) b0.mn)),.p (pI ((x.bs.take i).foldl (fun m y=>maxI m y.mx) b0.mx)),.p (.int .u32 0),.p (.int .u32 0),.p (.int .u32 0),.p (.int .u32 0),.p (.int .u32 0),.p (.int .u32 0),.p (.int .u32 0),.p (.int .u32 0)] false)::[(1,.cells ([.p (pI 0),.nils]++zz0.map .p++[.p (.str [])]) false),(0,.cells (x.pd.map .p) false)])) ?_ ?_
   ·refine gM fun K F=>?_;simp only[go_sem,hF,g9];refine OA.app1 (L1:=[]) (L2:=en xs (colsK x.bs i 0)) (M:=(k9,.cells (b.pd.map .p) false)::(k7,.cells xs false)::(k5,.cells [.p (pI x.bs.length),.p (pI b0.ft),.p (pI bl.lt),.p (pI ((x.bs.take i).foldl (fun m y=>minI m y.mn) b0.mn)),.p (pI ((x.bs.take i).foldl (fun m y=>maxI m y.mx) b0.mx)),.p (.int .u32 0),.p (.int .u32 0),.p (.int .u32 0),.p (.int .u32 0),.p (.int .u32 0),.p (.int .u32 0),.p (.int .u32 0),.p (.int .u32 0)] false)::[(1,.cells ([.p (pI 0),.nils]++zz0.map .p++[.p (.str [])]) false),(0,.cells (x.pd.map .p) false)]) (W:=(x.bs.take i).map fun b=>IntKind.i64.wrap (b.st+1)) (v:=IntKind.i64.wrap (b.st+1)) ?_ (Nat.le_refl _) (by simp;omega) kA fun sc' s3 hs hnx=>?_
    ·exact by(try simp only[gI]);repeat (first | exact oM ho | refine oN ?_ | refine oP ?_ | refine oA ?_)
    simp only[go_sem,hF];apply F;clear F K;simp only[St.nx_put,St.nx_adv] at hnx
    have e1:((x.bs.take i).map fun b=>IntKind.i64.wrap (b.st+1))++[IntKind.i64.wrap (b.st+1)]=(x.bs.take (i+1)).map fun b=>IntKind.i64.wrap (b.st+1):=by rw[take_snoc hb];simp
    rw[e1] at hs
    exact⟨rfl,sc',rfl,by simp only[go_sem,hF],OA.mono hs (by show _≤s3.nx;omega)⟩
   clear hF ho g9 e s1 sc
   rintro⟨e,ds,s1⟩ ⟨sc,rfl,hF,ho⟩
   simp only[Fs] at hF ho
   have g9:=ho.at_ (k9,.cells (b.pd.map .p) false) kS
   simp only[gm] at g9;refine Wc.seqA (fun y=>∃ k10,y.ds=[]∧Fs y.e 140 [(1,.v (.c (.ref 0 0))),(2,.v (.c (.ref 1 0))),(4,P' (pI x.bs.length)),(5,.v (.c (.ref k5 0))),(6,.v (.c sc)),(7,.v (.c (.mt k7 0 9 1))),(8,P' (pI i)),(9,.v (.c (.ref k9 0))),(10,.v (.c (.own 9 [pI b.c,pI b.s,pI b.mn,pI b.mx,pI b.f,pI b.l,pI b.ft,pI b.lt,pI b.inc] k10)))]∧OA y.s.nx y.s ([(1,.v (.c sc),((x.bs.take (i+1)).map fun b=>IntKind.i64.wrap (b.st+1)).length,((x.bs.take (i+1)).map fun b=>IntKind.i64.wrap (b.st+1)).map pI)]++en xs (colsK x.bs i 0)) ((k9,.cells (b.pd.map .p) false)::(k7,.cells xs false)::(k5,.cells [.p (pI x.bs.length),.p (pI b0.ft),.p (pI bl.lt),.p (pI ((x.bs.take i).foldl (fun m y=>minI m y.mn) b0.mn)),.p (pI ((x.bs.take i).foldl (fun m y=>maxI m y.mx) b0.mx)),.p (.int .u32 0),.p (.int .u32 0),.p (.int .u32 0),.p (.int .u32 0),.p (.int .u32 0),.p (.int .u32 0),.p (.int .u32 0),.p (.int .u32 0)] false)::[(1,.cells ([.p (pI 0),.nils]++zz0.map .p++[.p (.str [])]) false),(0,.cells (x.pd.map .p) false)])) ?_ ?_
   ·apply gR (by simp only[go_sem,hF,g9];rfl)
    exact⟨rfl,s1.nx+18,rfl,by simp only[go_sem,hF],by(try simp only[St.put_adv,St.adv_adv,St.put_put,gI]);repeat (first | exact oM ho | refine oN ?_ | refine oP ?_ | refine oA ?_)⟩
   clear hF ho g9 e s1
   rintro⟨e,ds,s1⟩ ⟨k10,rfl,hF,ho⟩
   simp only[Fs] at hF ho;refine Wc.seqA (fun y=>∃ xs,xs.length=9∧y.ds=[]∧Fs y.e 140 [(1,.v (.c (.ref 0 0))),(2,.v (.c (.ref 1 0))),(4,P' (pI x.bs.length)),(5,.v (.c (.ref k5 0))),(6,.v (.c sc)),(7,.v (.c (.mt k7 0 9 1))),(8,P' (pI i)),(9,.v (.c (.ref k9 0)))]∧OA y.s.nx y.s ([(1,.v (.c sc),((x.bs.take (i+1)).map fun b=>IntKind.i64.wrap (b.st+1)).length,((x.bs.take (i+1)).map fun b=>IntKind.i64.wrap (b.st+1)).map pI)]++en xs (colsK x.bs (i+1) 0)) ((k9,.cells (b.pd.map .p) false)::(k7,.cells xs false)::(k5,.cells [.p (pI x.bs.length),.p (pI b0.ft),.p (pI bl.lt),.p (pI ((x.bs.take i).foldl (fun m y=>minI m y.mn) b0.mn)),.p (pI ((x.bs.take i).foldl (fun m y=>maxI m y.mx) b0.mx)),.p (.int .u32 0),.p (.int .u32 0),.p (.int .u32 0),.p (.int .u32 0),.p (.int .u32 0),.p (.int .u32 0),.p (.int .u32 0),.p (.int .u32 0)] false)::[(1,.cells ([.p (pI 0),.nils]++zz0.map .p++[.p (.str [])]) false),(0,.cells (x.pd.map .p) false)])) ?_ ?_
   ·apply gS kG;refine Wc.block (Wc.loop (fun q y=>∃(j:Nat) (xs:List C),q=9-j∧(j≤9∧xs.length=9)∧y.ds=[]∧Fs y.e 140 [(1,.v (.c (.ref 0 0))),(2,.v (.c (.ref 1 0))),(4,P' (pI x.bs.length)),(5,.v (.c (.ref k5 0))),(6,.v (.c sc)),(7,.v (.c (.mt k7 0 9 1))),(8,P' (pI i)),(9,.v (.c (.ref k9 0))),(10,.v (.c (.own 9 [pI b.c,pI b.s,pI b.mn,pI b.mx,pI b.f,pI b.l,pI b.ft,pI b.lt,pI b.inc] k10))),(11,P' (pI j))]∧OA y.s.nx y.s ([(1,.v (.c sc),((x.bs.take (i+1)).map fun b=>IntKind.i64.wrap (b.st+1)).length,((x.bs.take (i+1)).map fun b=>IntKind.i64.wrap (b.st+1)).map pI)]++en xs (colsK x.bs i j)) ((k9,.cells (b.pd.map .p) false)::(k7,.cells xs false)::(k5,.cells [.p (pI x.bs.length),.p (pI b0.ft),.p (pI bl.lt),.p (pI ((x.bs.take i).foldl (fun m y=>minI m y.mn) b0.mn)),.p (pI ((x.bs.take i).foldl (fun m y=>maxI m y.mx) b0.mx)),.p (.int .u32 0),.p (.int .u32 0),.p (.int .u32 0),.p (.int .u32 0),.p (.int .u32 0),.p (.int .u32 0),.p (.int .u32 0),.p (.int .u32 0)] false)::[(1,.cells ([.p (pI 0),.nils]++zz0.map .p++[.p (.str [])]) false),(0,.cells (x.pd.map .p) false)])) ?_ (k:=9) ⟨0,xs,rfl,⟨kO,hxs⟩,rfl,by simp only[go_sem,hF],oZ⟩);clear hF ho e s1 hxs xs;rintro q ⟨e,ds,s1⟩ ⟨j,xs,rfl,⟨hj,hxs⟩,rfl,hF,ho⟩;simp only[Fs] at hF ho;refine gO ?_;apply gR kG;refine Wc.cond (t:=decide ((j:Int)<9)) kF (fun hc=>?_) (fun hc=>?_)
    ·have hjl:j<9:=gi hc
     obtain⟨c,hcx⟩:∃ c,xs[j]? = some c:=⟨xs[j],List.getElem?_eq_getElem kO⟩
     have hcw:(colsK x.bs i j)[j]? = some (colF (x.bs.take i) j):=by rw[colsK_at hjl,if_neg kO]
     have hi7:=ixM ti176 rfl ti175 (r:=k7) (off:=0) (j:=j) (m:=9) (es:=1) hjl rfl
     have hdx:xs.drop j=c::xs.drop (j+1):=by
      obtain⟨a1,a2⟩:=List.getElem?_eq_some_iff.1 hcx
      rw[List.drop_eq_getElem_cons a1,a2]
     have hj0:(j≤9)=True:=by simp;omega
     have hj1:(j+1≤9)=True:=by simp;omega
     have hjv:(bktF b)[j]? = some ((bktF b).getD j 0):=by
      rw[List.getD_eq_getElem?_getD,List.getElem?_eq_getElem (by simp[bktF];omega)];rfl
     have hio:=ixOwn (n:=9) (j:=j) (id:=k10) (cs:=(bktF b).map pI) hjl rfl
     have hco:=rpA (off:=j) (drop_map pI hjv) (by simp[bktF];omega)
     simp only[bktF,List.map_cons,List.map_nil] at hio hco
     have g7:=ho.at_ (k7,.cells xs false) kS
     refine Wc.skip (Wc.seq (Wc.block ?_));refine Wc.regT fun K F=>?_;simp only[go_sem,hF,hi7,g7,hdx,hxs,hj0,hj1,hio,hco];refine OA.appK (k:=j) (A:=[(1,.v (.c sc),((x.bs.take (i+1)).map fun b=>IntKind.i64.wrap (b.st+1)).length,((x.bs.take (i+1)).map fun b=>IntKind.i64.wrap (b.st+1)).map pI)]) (xs:=xs) (ws:=colsK x.bs i j) (w:=colF (x.bs.take i) j) (v:=(bktF b).getD j 0) (M:=(k9,.cells (b.pd.map .p) false)::(k7,.cells xs false)::(k5,.cells [.p (pI x.bs.length),.p (pI b0.ft),.p (pI bl.lt),.p (pI ((x.bs.take i).foldl (fun m y=>minI m y.mn) b0.mn)),.p (pI ((x.bs.take i).foldl (fun m y=>maxI m y.mx) b0.mx)),.p (.int .u32 0),.p (.int .u32 0),.p (.int .u32 0),.p (.int .u32 0),.p (.int .u32 0),.p (.int .u32 0),.p (.int .u32 0),.p (.int .u32 0)] false)::[(1,.cells ([.p (pI 0),.nils]++zz0.map .p++[.p (.str [])]) false),(0,.cells (x.pd.map .p) false)]) ?_ hcx hcw (Nat.le_refl _) (by simp[colF];omega) (by simp only[go_sem,bktF]) fun c' s3 hs hnx=>?_
     ·exact by(try simp only[gI]);repeat (first | exact oM ho | refine oN ?_ | refine oP ?_ | refine oA ?_)
     have g7':=hs.at_ (k7,.cells xs false) kS
     simp only[go_sem,hF,hi7,g7',hdx,hxs,hj0,hj1];refine⟨by rw[trOK_eq3];rfl,F _ _ ?_⟩;clear F K
     rw[colsK_step hjl hb] at hs
     have h5:=OA.set (M1:=[(k9,.cells (b.pd.map .p) false)]) (o':=.cells (xs.set j c') false) hs rfl
     simp only[St.nx_put,St.nx_adv] at hnx;apply gR (by simp only[go_sem,hF,i64n j kO];rfl)
     refine⟨9-(j+1),kO,j+1,xs.set j c',rfl,⟨kO,by simp[hxs]⟩,rfl,by simp only[go_sem,hF],?_⟩
     have htd:=tsd (xs:=xs) (j:=j) (c:=c') kO
     rw[htd]
     exact OA.mono h5.adv kY
    ·have hjl:j=9:=by have:=of_decide_eq_false hc;omega
     subst hjl
     rw[colsK_all] at ho
     exact Wc.exit ⟨rfl,xs,hxs,rfl,by simp only[go_sem,hF],oZ⟩
   clear hF ho e s1 hxs xs
   rintro⟨e,ds,s1⟩ ⟨xs,hxs,rfl,hF,ho⟩
   simp only[Fs] at hF ho
   have g9:=ho.at_ (k9,.cells (b.pd.map .p) false) kS
   have g5:=ho.at_ (k5,.cells [.p (pI x.bs.length),.p (pI b0.ft),.p (pI bl.lt),.p (pI ((x.bs.take i).foldl (fun m y=>minI m y.mn) b0.mn)),.p (pI ((x.bs.take i).foldl (fun m y=>maxI m y.mx) b0.mx)),.p (.int .u32 0),.p (.int .u32 0),.p (.int .u32 0),.p (.int .u32 0),.p (.int .u32 0),.p (.int .u32 0),.p (.int .u32 0),.p (.int .u32 0)] false) kS
   simp only[gm] at g9
   have n59:k9≠k5:=by
    have:=ho.dism
    simp only[List.pairwise_cons,List.mem_cons] at this;exact this.1 (k5,.cells [.p (pI x.bs.length),.p (pI b0.ft),.p (pI bl.lt),.p (pI ((x.bs.take i).foldl (fun m y=>minI m y.mn) b0.mn)),.p (pI ((x.bs.take i).foldl (fun m y=>maxI m y.mx) b0.mx)),.p (.int .u32 0),.p (.int .u32 0),.p (.int .u32 0),.p (.int .u32 0),.p (.int .u32 0),.p (.int .u32 0),.p (.int .u32 0),.p (.int .u32 0)] false) (.inr (.inl rfl))
   refine Wc.regT fun K F=>?_;simp only[go_sem,hF,g9,g5,minB2,maxB2]
   refine⟨trOK_map (fun n=>if n=k5 then 0 else 1) ?_,F _ _ ?_⟩
   ·simp only[List.map_cons,List.map_nil,trM,Option.map_some,Option.map_none,if_true,if_neg n59]
    rw[trOK_eq3];rfl
   clear F K;apply gR kX
   refine⟨x.bs.length-(i+1),kO,i+1,sc,xs,rfl,⟨kO,hxs⟩,rfl,by simp only[go_sem,hF],?_⟩
   have e1:(x.bs.take (i+1)).foldl (fun m y=>minI m y.mn) b0.mn=minI ((x.bs.take i).foldl (fun m y=>minI m y.mn) b0.mn) b.mn:=by rw[take_snoc hb,List.foldl_append];rfl
   have e2:(x.bs.take (i+1)).foldl (fun m y=>maxI m y.mx) b0.mx=maxI ((x.bs.take i).foldl (fun m y=>maxI m y.mx) b0.mx) b.mx:=by rw[take_snoc hb,List.foldl_append];rfl
   rw[e1,e2]
   generalize minI ((x.bs.take i).foldl (fun m y=>minI m y.mn) b0.mn) b.mn=m1;generalize maxI ((x.bs.take i).foldl (fun m y=>maxI m y.mx) b0.mx) b.mx=m2
   have h6:=fun n=>OA.set (M1:=[(k9,.cells (b.pd.map .p) false),(k7,.cells xs false)]) (o':=.cells [.p (pI x.bs.length),.p (pI b0.ft),.p (pI bl.lt),.p (pI m1),.p (pI m2),.p (.int .u32 0),.p (.int .u32 0),.p (.int .u32 0),.p (.int .u32 0),.p (.int .u32 0),.p (.int .u32 0),.p (.int .u32 0),.p (.int .u32 0)] false) (OA.adv (n:=n) ho) rfl
   refine OA.sub (OA.mono (h6 _).adv ?_) (List.Sublist.refl _) (List.sublist_cons_self _ _);simp only[St.nx_put,St.nx_adv];omega
  ·have hil:i=x.bs.length:=by have:=of_decide_eq_false hc;omega
   subst hil
   rw[List.take_length] at ho
   exact Wc.exit ⟨rfl,sc,xs,hxs,rfl,by simp only[go_sem,hF],oZ⟩
 clear hF ho e s1 sc
 rintro⟨e,ds,s1⟩ ⟨sc,xs,hxs,rfl,hF,ho⟩
 simp only[Fs] at hF ho
 obtain⟨S,hS⟩:∃ S,(x.bs.map fun b=>IntKind.i64.wrap (b.st+1))=S:=⟨_,rfl⟩
 have hSl:S.length=x.bs.length:=by rw[← hS];simp
 obtain⟨CS,hCS⟩:∃ CS,colsK x.bs x.bs.length 0=CS:=⟨_,rfl⟩
 have hCl:CS.length=9:=by rw[← hCS];exact colsK_len ..
 have hCm:∀ c∈CS,c.length≤2000:=by
  intro c hc
  rw[← hCS] at hc
  simp only[colsK,List.mem_map] at hc
  obtain⟨j,_,rfl⟩:=hc
  simp[colF];omega
 have hBC:=bktCs_eq x.bs
 rw[hS,hCS] at hBC
 rw[hBC]
 rw[hS,hCS] at ho
 clear hBC hS hCS
 obtain⟨T,hT⟩:∃ T,(appV (appV [] x.k).1 x.w).1=T:=⟨_,rfl⟩
 have hTl:T.length≤100:=by
  have e1:appV [] x.k=(vb x.k.toNat,0):=by unfold appV;rw[if_neg kO];rfl
  have e2:appV (vb x.k.toNat) x.w=(vb x.k.toNat++vb x.w.toNat,0):=by unfold appV;rw[if_neg kO]
  have hv:=vb_len10 (n:=x.k.toNat) kO
  have hv2:=vb_len10 (n:=x.w.toNat) kO
  rw[← hT,e1,e2];simp only[List.length_append];omega
 have hEV:∀ c∈CS,(encV c).1.length≤40040:=by
  intro c hc
  have h2:=hCm c hc
  by_cases h0:(encV c).2=0
  ·have:=encV_len2 h0;omega
  ·have:(encV c).1=[]:=by
    unfold encV at h0 ⊢
    split
    ·rfl
    ·split
     ·rename_i h3 h4;rw[if_neg h3,if_pos h4] at h0;exact absurd rfl h0
     ·rfl
   rw[this];simp
 have hET:(encT S).1.length≤40040:=by
  by_cases h0:(encT S).2=0
  ·have:=encT_len h0;omega
  ·have:(encT S).1=[]:=by
    unfold encT at h0 ⊢
    split
    ·rename_i h3;rw[if_pos h3] at h0;exact absurd rfl h0
    ·rfl
   rw[this];simp
 have q120:=pf120 [] 0 x.k kS
 have q120' := pf120 (appV [] x.k).1 0 x.w (by
  have e1:appV [] x.k=(vb x.k.toNat,0):=by unfold appV;rw[if_neg kO];rfl
  have hv:=vb_len10 (n:=x.k.toNat) kO
  rw[e1];simp only;omega)
 rw[hT] at q120' ⊢
 have q122:=pf122 S kO
 have q121:=pf121 (T,0) (encT S).1 (encT S).2 (by simp only;omega) kO
 obtain⟨W,hW⟩:∃ W,partW (T,0) (encT S).1 (encT S).2=W:=⟨_,rfl⟩
 have hWl:W.1.length≤41000:=by
  have:=partW_len (T,0) (encT S).1 (encT S).2 kO
  rw[hW] at this;simp only at this;omega
 rw[hW] at q121
 have hfold:∀ w,w=CS.foldl wV W→w=(encT S::CS.map encV).foldl (fun w c=>partW w c.1 c.2) (T,(0:Int)):=by
  intro w hw
  rw[hw,List.foldl_cons,wV_fold,hW]
 have hall:∀ c∈encT S::CS.map encV,c.1.length<2^40:=by
  intro c hc;rcases List.mem_cons.1 hc with rfl|hc
  ·omega
  ·obtain⟨l,hl,rfl⟩:=List.mem_map.1 hc
   have:=hEV l hl;omega
 have hps:=(ho.own _ (List.mem_cons_self ..)).purS
 have hpl:=(ho.own _ (List.mem_cons_self ..)).plain
 have g0:=ho.at_ (0,.cells (x.pd.map .p) false) kS
 simp only[gm] at g0;refine Wc.seqA (fun y=>∃ k12,y.ds=[]∧Fs y.e 140 [(1,.v (.c (.ref 0 0))),(2,.v (.c (.ref 1 0))),(4,P' (pI x.bs.length)),(5,.v (.c (.ref k5 0))),(7,.v (.c (.mt k7 0 9 1))),(12,.v (.c (.ref k12 0)))]∧OA y.s.nx y.s ([]++en xs CS) ((k12,.cells [.p (.str W.1),.p (pI W.2)] false)::(k7,.cells xs false)::(k5,.cells [.p (pI x.bs.length),.p (pI b0.ft),.p (pI bl.lt),.p (pI (x.bs.foldl (fun m y=>minI m y.mn) b0.mn)),.p (pI (x.bs.foldl (fun m y=>maxI m y.mx) b0.mx)),.p (.int .u32 0),.p (.int .u32 0),.p (.int .u32 0),.p (.int .u32 0),.p (.int .u32 0),.p (.int .u32 0),.p (.int .u32 0),.p (.int .u32 0)] false)::[(1,.cells ([.p (pI 0),.nils]++zz0.map .p++[.p (.str [])]) false),(0,.cells (x.pd.map .p) false)])) ?_ ?_
 ·refine Wc.regT fun K F=>?_;simp only[go_sem,hF,g0];refine gP q120 ?_;simp only[go_sem,hF,g0];refine gP q120' ?_;simp only[go_sem,hF,g0];refine wpCall.pf q122 kR kR rfl (purVs_c1 hps) ?_;simp only[go_sem,hF,g0];refine gP q121 ?_;simp only[go_sem,hF,o120,x120,o121,x121,o122,x122,plainD,plainV,plC,hpl,List.all_cons,List.all_nil,Option.isNone_none];refine⟨by rw[trOK_eq3];rfl,F _ _ ?_⟩;clear F K
  exact⟨rfl,s1.nx+12,rfl,by simp only[go_sem,hF],by(try simp only[St.put_adv,St.adv_adv,St.put_put,gI]);repeat (first | exact oM (ho.sub (List.sublist_cons_self _ _) (List.Sublist.refl _)) | refine oN ?_ | refine oP ?_ | refine oA ?_)⟩
 clear hF ho g0 hps hpl e s1 sc q120 q120' q122 q121
 rintro⟨e,ds,s1⟩ ⟨k12,rfl,hF,ho⟩
 simp only[Fs] at hF ho
 obtain⟨WN,hWN⟩:∃ WN,CS.foldl wV W=WN:=⟨_,rfl⟩
 refine Wc.seqA (fun y=>y.ds=[]∧Fs y.e 140 [(1,.v (.c (.ref 0 0))),(2,.v (.c (.ref 1 0))),(4,P' (pI x.bs.length)),(5,.v (.c (.ref k5 0))),(12,.v (.c (.ref k12 0)))]∧OA y.s.nx y.s [] ((k12,.cells [.p (.str WN.1),.p (pI WN.2)] false)::(k7,.cells xs false)::(k5,.cells [.p (pI x.bs.length),.p (pI b0.ft),.p (pI bl.lt),.p (pI (x.bs.foldl (fun m y=>minI m y.mn) b0.mn)),.p (pI (x.bs.foldl (fun m y=>maxI m y.mx) b0.mx)),.p (.int .u32 0),.p (.int .u32 0),.p (.int .u32 0),.p (.int .u32 0),.p (.int .u32 0),.p (.int .u32 0),.p (.int .u32 0),.p (.int .u32 0)] false)::[(1,.cells ([.p (pI 0),.nils]++zz0.map .p++[.p (.str [])]) false),(0,.cells (x.pd.map .p) false)])) ?_ ?_
 ·apply gS kG;refine Wc.block (Wc.loop (fun q y=>∃(j:Nat) (w:List UInt8×Int),q=9-j∧(j≤9∧w=(CS.take j).foldl wV W∧w.1.length≤41000*(j+1))∧y.ds=[]∧Fs y.e 140 [(1,.v (.c (.ref 0 0))),(2,.v (.c (.ref 1 0))),(4,P' (pI x.bs.length)),(5,.v (.c (.ref k5 0))),(7,.v (.c (.mt k7 0 9 1))),(12,.v (.c (.ref k12 0))),(13,P' (pI j))]∧OA y.s.nx y.s ([]++en xs CS) ((k12,.cells [.p (.str w.1),.p (pI w.2)] false)::(k7,.cells xs false)::(k5,.cells [.p (pI x.bs.length),.p (pI b0.ft),.p (pI bl.lt),.p (pI (x.bs.foldl (fun m y=>minI m y.mn) b0.mn)),.p (pI (x.bs.foldl (fun m y=>maxI m y.mx) b0.mx)),.p (.int .u32 0),.p (.int .u32 0),.p (.int .u32 0),.p (.int .u32 0),.p (.int .u32 0),.p (.int .u32 0),.p (.int .u32 0),.p (.int .u32 0)] false)::[(1,.cells ([.p (pI 0),.nils]++zz0.map .p++[.p (.str [])]) false),(0,.cells (x.pd.map .p) false)])) ?_ (k:=9) ⟨0,W,rfl,⟨kO,rfl,kO⟩,rfl,by simp only[go_sem,hF],oZ⟩);clear hF ho e s1;rintro q ⟨e,ds,s1⟩ ⟨j,w,rfl,⟨hj,hw1,hw2⟩,rfl,hF,ho⟩;simp only[Fs] at hF ho;refine gO ?_;apply gR kG;refine Wc.cond (t:=decide ((j:Int)<9)) kF (fun hc=>?_) (fun hc=>?_)
  ·have hjl:j<9:=gi hc
   obtain⟨c,hcx⟩:∃ c,xs[j]? = some c:=⟨xs[j],List.getElem?_eq_getElem kO⟩
   obtain⟨l,hcw⟩:∃ l,CS[j]? = some l:=⟨CS[j],List.getElem?_eq_getElem kO⟩
   have hlm:=gw hcw
   have hi7:=ixM ti176 rfl ti175 (r:=k7) (off:=0) (j:=j) (m:=9) (es:=1) hjl rfl
   have hdx:xs.drop j=c::xs.drop (j+1):=by
    obtain⟨a1,a2⟩:=List.getElem?_eq_some_iff.1 hcx
    rw[List.drop_eq_getElem_cons a1,a2]
   have hj0:(j≤9)=True:=by simp;omega
   have hj1:(j+1≤9)=True:=by simp;omega
   have g7:=ho.at_ (k7,.cells xs false) kS
   have g12:=ho.at_ (k12,.cells [.p (.str w.1),.p (pI w.2)] false) kS
   have hpc:=ho.purK hcx hcw
   have hpl:plainC c=true:=by
    have h2:=ho
    rw[en_at hcx hcw] at h2
    exact(h2.own (1,.v (.c c),l.length,l.map pI) kS).plain
   have q123:=pf123 w l kO (by have:=hCm l hlm;omega)
   refine Wc.skip (Wc.seq (Wc.block ?_));refine Wc.regT fun K F=>?_;simp only[go_sem,hF,hi7,g7,g12,hdx,hxs,hj0,hj1];refine wpCall.pf q123 kR kR rfl (purVs_wc hpc) ?_;simp only[go_sem,hF,o123,x123,plainD,plainV,plC,hpl,List.all_cons,List.all_nil,Option.isNone_none,g12];refine⟨by rw[trOK_eq3];rfl,F _ _ ?_⟩;clear F K
   have h5:=fun n m=>OA.set (M1:=[]) (o':=.cells [.p (.str (wV w l).1),.p (pI (wV w l).2)] false) (OA.adv (n:=m) (OA.adv (n:=n) ho)) rfl
   apply gR (by simp only[go_sem,hF,i64n j kO];rfl)
   refine⟨9-(j+1),kO,j+1,wV w l,rfl,⟨kO,?_,?_⟩,rfl,by simp only[go_sem,hF],OA.mono (h5 _ _).adv kY⟩
   ·rw[take_snoc hcw,List.foldl_append,← hw1];rfl
   ·have:=partW_len w (encV l).1 (encV l).2 (by have:=hEV l hlm;omega)
    have:=hEV l hlm
    unfold wV;omega
  ·have hjl:j=9:=by have:=of_decide_eq_false hc;omega
   subst hjl
   rw[List.take_of_length_le kO,hWN] at hw1
   subst hw1;exact Wc.exit ⟨rfl,rfl,by simp only[go_sem,hF],(by(try simp only[gI]);repeat (first | exact oM ho | refine oN ?_ | refine oA ?_):OA _ _ ([]++en xs CS) _).sub (List.nil_sublist _) (List.Sublist.refl _)⟩
 clear hF ho e s1
 rintro⟨e,ds,s1⟩ ⟨rfl,hF,ho⟩
 simp only[Fs] at hF ho
 have g0:=ho.at_ (0,.cells (x.pd.map .p) false) kS
 have g1:=ho.at_ (1,.cells ([.p (pI 0),.nils]++zz0.map .p++[.p (.str [])]) false) kS
 have g5:=ho.at_ (k5,.cells [.p (pI x.bs.length),.p (pI b0.ft),.p (pI bl.lt),.p (pI (x.bs.foldl (fun m y=>minI m y.mn) b0.mn)),.p (pI (x.bs.foldl (fun m y=>maxI m y.mx) b0.mx)),.p (.int .u32 0),.p (.int .u32 0),.p (.int .u32 0),.p (.int .u32 0),.p (.int .u32 0),.p (.int .u32 0),.p (.int .u32 0),.p (.int .u32 0)] false) kS
 have g12:=ho.at_ (k12,.cells [.p (.str WN.1),.p (pI WN.2)] false) kS
 simp only[List.map_cons,List.map_nil,List.cons_append,List.nil_append] at g0 g1
 have q124:=pf124 WN 6 x.lb.length (x.lb.flatMap lbP) (pI x.bs.length) (pI b0.ft) (pI bl.lt) (pI (x.bs.foldl (fun m y=>minI m y.mn) b0.mn)) (pI (x.bs.foldl (fun m y=>maxI m y.mx) b0.mx)) (.int .u32 0) (.int .u32 0) (.int .u32 0) (.int .u32 0) (.int .u32 0) (.int .u32 0) (.int .u32 0) (.int .u32 0)
 rw[hZ,← encC_w (w:=WN) kO hall (hfold WN hWN.symm)]
 refine Wc.seq ?_
 by_cases hb:WN.2≠0∨262144<WN.1.length
 ·rw[if_pos hb] at q124 ⊢
  refine gM fun K F=>?_;simp only[go_sem,hF,g0,g1,g5,g12];refine gP q124 ?_;simp only[go_sem,hF,g1];apply F;clear F K;exact wr (gV [.cell 2 96,.tmp 3] [.agg ([.p (pI 0),.p (.lst 0 [])]++zz0.map .p++[.p (.str [])]),.c (.p (pI 4))] kF)
 ·rw[if_neg hb] at q124 ⊢
  refine gM fun K F=>?_;simp only[go_sem,hF,g0,g1,g5,g12];refine gP q124 ?_;simp only[go_sem,hF,g1];apply F;clear F K;exact wr (gV [.cell 2 96,.tmp 3] [.agg [.p (pI 6),.p (.lst x.lb.length (x.lb.flatMap lbP)),.p (pI x.bs.length),.p (pI b0.ft),.p (pI bl.lt),.p (pI (x.bs.foldl (fun m y=>minI m y.mn) b0.mn)),.p (pI (x.bs.foldl (fun m y=>maxI m y.mx) b0.mx)),.p (.int .u32 0),.p (.int .u32 0),.p (.int .u32 0),.p (.int .u32 0),.p (.int .u32 0),.p (.int .u32 0),.p (.int .u32 0),.p (.int .u32 0),.p (.str WN.1)],.c (.p (pI 0))] kF)
end Go.Proofs.YtedcnhbblgmdnaaGreat.Ab
namespace Go.Proofs.YtedcnhbblgmdnaaGreat.Ab
def GF (x:C)(l:List Bkt)(G:List (Nat×Ob)):Prop:=(x=.nils∧l=[]∧G=[])∨∃ id,x=.gs l.length id 0 l.length 10∧G=[(id,.grow 10 l.length (cB l) true)]
theorem GF.pur {b:Nat}{s:St}{L:List (Nat×D×Nat×List Pd)}{M G:List (Nat×Ob)}{x:C}{l:List Bkt}(ho:OA b s L (G++M))(h:GF x l G):∃ s',purC s x=some (.lst l.length (l.flatMap Bkt.pd),s'):=by
 rcases h with ⟨rfl,rfl,rfl⟩|⟨id,rfl,rfl⟩
 ·exact⟨s,rfl⟩
 ·have g:s.get id=some (.grow 10 l.length (cB l) true):=ho.at_ (id,.grow 10 l.length (cB l) true) kS
  have hf:(l.flatMap Bkt.pd).length=l.length*10:=flat_len (k:=10) (fun _=>rfl) l
  refine⟨s.put id (.grow 10 l.length ((l.flatMap Bkt.pd).map .p) true),?_⟩
  simp only[purC,g,cB_all,true_and,Nat.zero_add,hf,Nat.le_refl,if_true,List.drop_zero]
  rw[List.take_of_length_le kO]
theorem pf32 (x:RSet)(id:Int)(hl:x.rs.length<2^20)(hz:∀ r∈x.rs,Rz r):Pf E0 32 [.agg (x.pd.map .p),.c (.p (pI id))] (resB (blkB x id) (blkE x id)):=by
 have hfl:=fRl x.rs
 obtain⟨d64,p64,er,rfl,her⟩:=pf64 x kO hz
 generalize hE:blkE x id=V;generalize hB:blkB x id=B;unfold blkB at hB
 rw[hE] at hB
 unfold blkE at hE;refine gQ (fn:=Tryz.f32) ?_;simp only[gL,Tryz.ntmps32,Nat.reduceSub,Nat.reduceAdd];refine gY ?_;refine gO ?_;cases hok:setOK x with
 |false =>
  rw[hok,if_pos rfl] at hE
  subst hE
  rw[if_neg kD] at hB
  subst hB
  have d0:(er != 0)=true:=by
   have:er≠0:=fun h=>by have:=her.1 h;rw[hok] at this;cases this
   simpa using this
  refine gM fun K F=>?_;simp only[go_sem];refine gP p64 ?_;simp only[go_sem,d0];apply F;clear F K;apply gT (by simp only[go_sem,d0]);refine gY ?_;exact wr (gU [.cell 4 67,.tmp 5] [.agg [.p (pI 0),.p (pI 0),.p (pI 0),.nils],.c (.p (pI 1))])
 |true =>
 rw[hok,if_neg kD] at hE
 have d0:(er != 0)=false:=by
  have:er=0:=her.2 hok
  simpa using this
 have hmem:∀ r∈x.rs,r.w=x.w∧rlpOK r=true:=by
  unfold setOK at hok
  rw[Bool.and_eq_true] at hok
  exact rsOK_mem hok.2
 refine gM fun K F=>?_;simp only[go_sem];refine gP p64 ?_;simp only[go_sem,d0];apply F;clear F K;apply gF (by simp only[go_sem,d0]);refine Wc.seqA (fun y=>∃ k6 xc,y.ds=[]∧Fs y.e 54 [(2,.v (.c (.ref 0 0))),(4,.v (.c (.ref 1 0))),(6,.v (.c (.ref k6 0)))]∧OA y.s.nx y.s [(16,.v (.c xc),0,[])] [(k6,.cells [.p (pI id),.p (pI x.w),.p (pI x.fr),xc] false),(1,.cells [.p (pI 0),.p (pI 0),.p (pI 0),.nils] false),(0,.cells (x.pd.map .p) false)]) ?_ ?_
 ·refine gZ ?_
  exact⟨rfl,12,.nils,rfl,by simp only[go_sem],OA.nil (by(try simp only[St.put_adv,St.adv_adv,St.put_put,gI]);repeat (first | exact oM s00_oa | refine oN ?_ | refine oP ?_ | refine oA ?_))⟩
 rintro⟨e,ds,s1⟩ ⟨k6,xc,rfl,hF,ho⟩
 simp only[Fs] at hF ho
 have hR0:(encAll (x.rs.drop 0)).map ([] ++ ·)=encAll x.rs:=by simp
 generalize encAll x.rs=R at hR0 hE hB;refine Wc.seqR (fun y=>∃ k6 xc T,(R=some T∧T.length≤x.rs.length∧∀ c∈T,Cz c)∧y.ds=[]∧Fs y.e 54 [(2,.v (.c (.ref 0 0))),(4,.v (.c (.ref 1 0))),(6,.v (.c (.ref k6 0)))]∧OA y.s.nx y.s [(16,.v (.c xc),T.length,T.flatMap Chk.pd)] [(k6,.cells [.p (pI id),.p (pI x.w),.p (pI x.fr),xc] false),(1,.cells [.p (pI 0),.p (pI 0),.p (pI 0),.nils] false),(0,.cells (x.pd.map .p) false)]) ?_ ?_
 ·apply gS kG;refine Wc.block (Wc.loop (fun k y=>∃(i k6:Nat) (xc:C) (T:List Chk),k=x.rs.length-i∧(i≤x.rs.length∧T.length=i∧(∀ c∈T,Cz c)∧(encAll (x.rs.drop i)).map (T ++ ·)=R)∧y.ds=[]∧Fs y.e 54 [(2,.v (.c (.ref 0 0))),(4,.v (.c (.ref 1 0))),(6,.v (.c (.ref k6 0))),(7,P' (pI i))]∧OA y.s.nx y.s [(16,.v (.c xc),T.length,T.flatMap Chk.pd)] [(k6,.cells [.p (pI id),.p (pI x.w),.p (pI x.fr),xc] false),(1,.cells [.p (pI 0),.p (pI 0),.p (pI 0),.nils] false),(0,.cells (x.pd.map .p) false)]) ?_ (k:=x.rs.length) ⟨0,k6,xc,[],rfl,⟨kO,rfl,fun c hc=>(by cases hc),hR0⟩,rfl,by simp only[go_sem,hF],oZ⟩);clear hF ho e s1 hR0 xc k6;rintro k ⟨e,ds,s1⟩ ⟨i,k6,xc,T,rfl,⟨hi,hTl,hTz,hR⟩,rfl,hF,ho⟩;simp only[Fs] at hF ho
  have g0:=ho.at_ (0,.cells (x.pd.map .p) false) kS
  simp only[gm] at g0;refine gO ?_;apply gR kC;refine Wc.cond (t:=decide ((i:Int)<x.rs.length)) kF (fun hc=>?_) (fun hc=>?_)
  ·have hil:i<x.rs.length:=gi hc
   obtain⟨c,hcc⟩:=gE hil
   have zc:=hz c (gw hcc)
   have okc:=(hmem c (gw hcc)).2
   have hR:=encAll_step hcc hR
   have hix:=ixA ti60 rfl ti31 (j:=i) (m:=x.rs.length) (cs:=x.rs.flatMap Rlp.pd) hil hfl kD
   have hca:=rpRl hcc
   have p65:=pf65 c zc
   have g1:=ho.at_ (1,.cells [.p (pI 0),.p (pI 0),.p (pI 0),.nils] false) kS
   refine Wc.skip (Wc.seq (Wc.block ?_))
   have hen:encCk c=(encLo c).map fun d=>⟨6,c.lb,(rlpZ c.bs).g,d⟩:=rfl
   cases he:encLo c with
   |none =>
    rw[he,Option.map_none] at hen
    rw[hen] at hR
    simp only at hR;subst hR
    rw[encR_none he,okc,if_pos rfl] at p65
    simp only at hE;subst hE
    rw[if_neg kD] at hB
    subst hB;refine gN fun K F=>?_;simp only[go_sem,hF,g0,hix,hca];refine gP p65 ?_;simp only[go_sem,hF];apply F;clear F K;refine gO ?_;apply gR (by simp only[go_sem,hF,b40];rfl);apply gT (by simp only[go_sem,hF,b40]);apply gS (by simp only[go_sem,hF,g1];rfl);exact wr (gV [.cell 4 67,.tmp 5] [.agg [.p (pI 0),.p (pI 0),.p (pI 0),.nils],.c (.p (pI 4))] kF)
   |some d =>
   rw[he,Option.map_some] at hen
   have zck:=encCk_z zc hen
   rw[hen] at hR
   simp only at hR
   rw[encR_some he] at p65
   refine Wc.seqA (fun y=>∃ k9,y.ds=[]∧Fs y.e 54 [(2,.v (.c (.ref 0 0))),(4,.v (.c (.ref 1 0))),(6,.v (.c (.ref k6 0))),(7,P' (pI i)),(8,.v (.c (.ref k9 0))),(9,P' (pI 0))]∧OA y.s.nx y.s [(16,.v (.c xc),T.length,T.flatMap Chk.pd)] ((k9,.cells ((Chk.mk 6 c.lb (rlpZ c.bs).g d).pd.map .p) false)::[(k6,.cells [.p (pI id),.p (pI x.w),.p (pI x.fr),xc] false),(1,.cells [.p (pI 0),.p (pI 0),.p (pI 0),.nils] false),(0,.cells (x.pd.map .p) false)])) ?_ ?_
   ·refine gM fun K F=>?_;simp only[go_sem,hF,g0,hix,hca];refine gP p65 ?_;simp only[go_sem,hF];apply F;clear F K
    exact⟨rfl,s1.nx+14,rfl,by simp only[go_sem,hF],by(try simp only[St.put_adv,St.adv_adv,St.put_put,gI]);repeat (first | exact oM ho | refine oN ?_ | refine oP ?_ | refine oA ?_)⟩
   generalize Chk.mk 6 c.lb (rlpZ c.bs).g d=ck at *;clear hF ho g0 g1 e s1 p65 hen
   rintro⟨e,ds,s1⟩ ⟨k9,rfl,hF,ho⟩
   simp only[Fs] at hF ho
   have g9:=ho.at_ (k9,.cells (ck.pd.map .p) false) kS
   have g6:=ho.at_ (k6,.cells [.p (pI id),.p (pI x.w),.p (pI x.fr),xc] false) kS
   simp only[gm] at g9;refine gO ?_;apply gR (by simp only[go_sem,hF,b00];rfl);apply gF (by simp only[go_sem,hF,b00]);refine gM fun K F=>?_;simp only[go_sem,hF,g6,g9];refine OA.app (L1:=[]) (L2:=[]) (by_:=120) (n:=T.length) (m:=1) (ys:=ck.pd) (cs:=T.flatMap Chk.pd) (b:=s1.nx+6) (M:=(k9,.cells (ck.pd.map .p) false)::[(k6,.cells [.p (pI id),.p (pI x.w),.p (pI x.fr),xc] false),(1,.cells [.p (pI 0),.p (pI 0),.p (pI 0),.nils] false),(0,.cells (x.pd.map .p) false)]) ?_ (Nat.le_refl _) ⟨_,ti65,rfl⟩ ti96 rfl rfl rfl kD kD kA rfl kO fun x' s3 hs hnx=>?_
   ·exact by(try simp only[gI]);repeat (first | exact oM ho | refine oN ?_ | refine oP ?_ | refine oA ?_)
   obtain⟨xc',rfl⟩:=(hs.own _ (List.mem_cons_self ..)).v
   have g6':=hs.at_ (k6,.cells [.p (pI id),.p (pI x.w),.p (pI x.fr),xc] false) kS
   simp only[go_sem,hF,g6'];apply F;clear F K
   have h5:=OA.set (M1:=[]) (o':=.cells [.p (pI id),.p (pI x.w),.p (pI x.fr),xc'] false) (OA.sub (M1:=[(k6,.cells [.p (pI id),.p (pI x.w),.p (pI x.fr),xc] false),(1,.cells [.p (pI 0),.p (pI 0),.p (pI 0),.nils] false),(0,.cells (x.pd.map .p) false)]) hs (List.Sublist.refl _) (List.sublist_cons_self _ _)) rfl
   simp only[St.nx_put,St.nx_adv] at hnx;apply gR kX
   refine⟨x.rs.length-(i+1),kO,i+1,k6,xc',T++[ck],rfl,⟨kO,by simp[hTl],fun c hc=>?_,hR⟩,rfl,by simp only[go_sem,hF],?_⟩
   ·rcases List.mem_append.1 hc with hc|hc
    ·exact hTz c hc
    ·rw[List.mem_singleton.1 hc];exact zck
   ·have e1:(T++[ck]).length=T.length+1:=by simp
    have e2:(T++[ck]).flatMap Chk.pd=T.flatMap Chk.pd++ck.pd:=by simp
    rw[e1,e2]
    exact OA.mono h5.adv kY
  ·have hil:i=x.rs.length:=by have:=of_decide_eq_false hc;omega
   rw[hil,List.drop_length] at hR
   refine Wc.exit ⟨k6,xc,T,⟨?_,kO,hTz⟩,rfl,by simp only[go_sem,hF],oZ⟩
   rw[← hR];simp[encAll]
 clear hF ho e s1 hR0 xc k6
 rintro⟨e,ds,s1⟩ ⟨k6,xc,T,⟨rfl,hTl,hTz⟩,rfl,hF,ho⟩
 simp only[Fs] at hF ho;simp only at hE hB
 have p63:=pf66 ⟨id,x.w,x.fr,T⟩ (by simp only;omega) hTz
 rw[hE] at p63
 have hpu:=(ho.own _ (List.mem_cons_self ..)).purS
 have g6:=ho.at_ (k6,.cells [.p (pI id),.p (pI x.w),.p (pI x.fr),xc] false) kS
 have g1:=ho.at_ (1,.cells [.p (pI 0),.p (pI 0),.p (pI 0),.nils] false) kS
 refine gO ?_;refine gM fun K F=>?_;simp only[go_sem,hF,g6];refine wpCall.pf p63 kR kR rfl (purVs_blk hpu _) ?_;simp only[go_sem,hF];apply F;clear F K;apply gS kG;refine Wc.cond (t:=V != 0) kF (fun hc=>?_) (fun hc=>?_)
 ·rw[if_neg (by simpa using hc)] at hB
  subst hB;apply gS (by simp only[go_sem,hF,g1];rfl);exact wr (gV [.cell 4 67,.tmp 5] [.agg [.p (pI 0),.p (pI 0),.p (pI 0),.nils],.c (.p (pI V))] kF)
 have h0:V=0:=by simpa using hc
 subst h0
 rw[if_pos rfl] at hB
 subst hB;refine Wc.skip (Wc.seq ?_);apply gR (by simp only[go_sem,hF,g6,g1];rfl);exact wr (Pf.ret [.cell 4 67,.tmp 5] [.agg [.p (pI id),.p (pI x.w),.p (pI x.fr),xc],.c (.p (pI 0))] rfl rfl kF (by simp only[packD,purD,purVs,purV,purCs,purC_S hpu,purC_p];rfl))
end Go.Proofs.YtedcnhbblgmdnaaGreat.Ab
