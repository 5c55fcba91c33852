/- A part of the proof. -/
import Derived.Test.YtedcnhbblgmdnaaGreatT14
set_option maxHeartbeats 8000000
set_option maxRecDepth 10000
set_option linter.unusedSimpArgs false
set_option linter.unusedVariables false
namespace Go.Proofs.YtedcnhbblgmdnaaGreat.Ab
def chk1:Option Int→List Int→Int
 |_,[]=>0
 |p,x::r=>if x<1∨1099511627776<x then 2 else match p with
  |some y=>if x≤y then 9 else chk1 (some x) r
  |none=>chk1 (some x) r
def chkT (l:List Int):Int:=if 20000<l.length then 4 else chk1 none l
def prev (l:List Int)(i:Nat):Option Int:=if i=0 then none else l[i-1]?
theorem chk1_step {l:List Int}{i:Nat}{x:Int}(h:l[i]? = some x):chk1 (prev l i) (l.drop i)=if x<1∨1099511627776<x then 2 else match prev l i with
  |some y=>if x≤y then 9 else chk1 (prev l (i+1)) (l.drop (i+1))
  |none=>chk1 (prev l (i+1)) (l.drop (i+1)):=by
 have hi:=(List.getElem?_eq_some_iff.1 h).1
 have hx:=(List.getElem?_eq_some_iff.1 h).2
 have hp:prev l (i+1)=some x:=by simp[prev,h]
 rw[List.drop_eq_getElem_cons hi,hx,hp]
 cases prev l i<;>rfl
theorem pf193 (l:List Int)(hl:l.length<2^40):Pf E0 193 [.c (.p (.lst l.length (l.map pI)))] (P' (.int .i64 (chkT l))):=by
 refine gQ (fn:=Tryz.f193) ?_;simp only[gL,Tryz.ntmps193,Nat.reduceSub,Nat.reduceAdd];refine gY ?_;refine gO ?_;refine gZ ?_;refine Wc.cond (t:=decide ((20000:Int)<l.length)) rfl (fun hc=>?_) (fun hc=>?_)
 ·have hc':(20000:Int)<l.length:=by simpa using hc
  have e:chkT l=4:=by unfold chkT;rw[if_pos kO]
  refine gY ?_
  rw[e]
  exact wr (gU [.tmp 2] [.c (.p (.int .i64 4))])
 have hc':¬ (20000:Int)<l.length:=by simpa using hc
 have e0:chkT l=chk1 (prev l 0) (l.drop 0):=by unfold chkT;rw[if_neg kO];rfl
 refine Wc.skip (Wc.seq (Wc.seq ?_));refine gZ ?_;refine Wc.block (Wc.loop (fun k y=>∃(i:Nat),k=l.length-i∧i≤l.length∧y.ds=[]∧y.e.length=39∧y.e.getD 0 .junk=P' (.lst l.length (l.map pI))∧y.e.getD 3 .junk=P' (.int .i64 i)∧chkT l=chk1 (prev l i) (l.drop i)) ?_ (k:=l.length) ?_)
 ·rintro k ⟨e,ds,s1⟩ ⟨i,rfl,hi,rfl,hlen,h0,h3,hch⟩;simp only at hlen h0 h3;refine gO ?_;apply gR (by simp only[go_sem,hlen,h0,h3];rfl);refine Wc.cond (t:=decide ((i:Int)<l.length)) kL (fun hc=>?_) (fun hc=>?_)
  ·have hil : i < l.length := by have : (i : Int) < l.length := by simpa using hc
                                 omega
   obtain⟨x,hx⟩:=gE hil
   have hix:=ixA ti175 rfl ti3 (j:=i) (m:=l.length) (cs:=l.map pI) hil kS kD
   have hca:=rpA (off:=i) (drop_map pI hx) (by simp;omega)
   rw[chk1_step hx] at hch
   refine Wc.skip (Wc.seq (Wc.block (Wc.seq (Wc.seq ?_))))
   have bad:(x<1∨1099511627776<x)→∀(e:List D) (s1:St),e.length=39→e.getD 2 .junk=P' (.int .i64 2)→True:=fun _ _ _ _ _=>trivial
   by_cases hlo:x<1
   ·rw[if_pos (.inl hlo)] at hch
    apply gR (by simp only[go_sem,hlen,h0,h3,hix,hca,hlo];rfl);refine Wc.cond (t:=true) kL (fun hc=>?_) (fun hc=>by cases hc);apply gS (by simp only[go_sem,hlen,h0,h3];rfl)
    rw[hch]
    exact wr (gV [.tmp 2] [.c (.p (.int .i64 2))] kL)
   ·apply gR (by simp only[go_sem,hlen,h0,h3,hix,hca,hlo];rfl);refine Wc.cond (t:=decide (1099511627776<x)) kL (fun hc=>?_) (fun hc=>?_)
    ·have hhi:1099511627776<x:=by simpa using hc
     rw[if_pos (.inr hhi)] at hch
     apply gS (by simp only[go_sem,hlen,h0,h3];rfl)
     rw[hch]
     exact wr (gV [.tmp 2] [.c (.p (.int .i64 2))] kL)
    ·have hhi:¬ 1099511627776<x:=by simpa using hc
     rw[if_neg kO] at hch
     refine Wc.skip (Wc.seq ?_)
     by_cases hi0:0<i
     ·obtain⟨y,hy⟩:∃ y,l[i-1]? = some y:=⟨l[i-1],List.getElem?_eq_getElem kO⟩
      have hiy:=ixA ti175 rfl ti3 (j:=i-1) (m:=l.length) (cs:=l.map pI) kO kS kD
      have hcb:=rpA (off:=i-1) (drop_map pI hy) (by simp;omega)
      have e1:IntKind.i64.wrap ((i:Int)-1)=((i-1:Nat):Int):=by rw[wi64];omega
      have hd:(0<(i:Int))=True:=by simp;omega
      have hpr:prev l i=some y:=by unfold prev;rw[if_neg kO];exact hy
      rw[hpr] at hch
      simp only at hch;refine Wc.regD fun K F=>?_;simp only[go_sem,hlen,h0,h3,hix,hca,hiy,hcb,e1,hd];apply F;clear F K;refine Wc.cond (t:=decide (x≤y)) (by simp only[go_sem,hlen,hd]) (fun hc=>?_) (fun hc=>?_)
      ·have hxy:x≤y:=by simpa using hc
       rw[if_pos hxy] at hch
       apply gS (by simp only[go_sem,hlen,h0,h3];rfl)
       rw[hch]
       exact wr (gV [.tmp 2] [.c (.p (.int .i64 9))] kL)
      ·have hxy:¬ x≤y:=by simpa using hc
       rw[if_neg hxy] at hch
       refine Wc.skip ?_;apply gR (by simp only[go_sem,hlen,h0,h3,i64n i kO];rfl)
       exact⟨l.length-(i+1),kO,i+1,rfl,kO,rfl,by simp only[go_sem,hlen],by simp only[go_sem,hlen,h0],by simp only[go_sem,hlen],hch⟩
     ·have hd:(0<(i:Int))=False:=by simp;omega
      have hpr:prev l i=none:=by unfold prev;rw[if_pos kO]
      rw[hpr] at hch
      simp only at hch;refine Wc.regD fun K F=>?_;simp only[go_sem,hlen,h0,h3,hd];apply F;clear F K;refine Wc.cond (t:=false) (by simp only[go_sem,hlen,hd]) (fun hc=>by cases hc) (fun hc=>?_);refine Wc.skip ?_;apply gR (by simp only[go_sem,hlen,h0,h3,i64n i kO];rfl)
      exact⟨l.length-(i+1),kO,i+1,rfl,kO,rfl,by simp only[go_sem,hlen],by simp only[go_sem,hlen,h0],by simp only[go_sem,hlen],hch⟩
  ·have hil : i = l.length := by have : ¬ (i : Int) < l.length := by simpa using hc
                                 omega
   rw[hil,List.drop_length] at hch
   have hch:chkT l=0:=by rw[hch];cases prev l l.length<;>rfl
   refine Wc.exit ?_;apply gS (by simp only[go_sem,hlen,h0,h3];rfl)
   rw[hch]
   exact wr (gV [.tmp 2] [.c (.p (.int .i64 0))] kL)
 ·exact⟨0,rfl,kO,rfl,rfl,rfl,rfl,e0⟩
def encT (l:List Int):List UInt8×Int:=if chkT l=0 then (vb l.length++first1 l++first1 (diffs l)++runE (diffs (diffs l)),0) else ([],chkT l)
theorem chk1_mem:∀ {l:List Int}{p:Option Int},chk1 p l=0→∀ x∈l,1≤x∧x≤1099511627776
 |[],_,_,x,hx=>by cases hx
 |y::r,p,h,x,hx=>by
  have h1:¬ (y<1∨1099511627776<y):=fun hb=>by
   cases p<;>simp only[chk1] at h<;>rw[if_pos hb] at h<;>cases h
  have h2:chk1 (some y) r=0:=by
   cases p with
   |none=>simp only[chk1] at h;rw[if_neg h1] at h;exact h
   |some z =>
    simp only[chk1] at h
    rw[if_neg h1] at h
    split at h
    ·cases h
    ·exact h
  rcases List.mem_cons.1 hx with rfl|hx
  ·omega
  ·exact chk1_mem h2 x hx
theorem chkT_ok {l:List Int}(h:chkT l=0):l.length≤20000∧∀ x∈l,1≤x∧x≤1099511627776:=by
 unfold chkT at h
 split at h
 ·cases h
 ·exact⟨kO,chk1_mem h⟩
theorem first1_len {l:List Int}(h:∀ x∈l,inR x=true):(first1 l).length≤10:=by
 cases l with
 |nil=>simp[first1]
 |cons x r=>exact vb_len10 (by have:=zz_lt (h x kS);omega)
theorem pf122 (l:List Int)(hl:l.length<2^40):Pf E0 122 [.c (.p (.lst l.length (l.map pI)))] (.tup [.c (.p (.str (encT l).1)),.c (.p (.int .i64 (encT l).2))]):=by
 refine gQ (fn:=Tryz.f122) ?_;simp only[gL,Tryz.ntmps122,Nat.reduceSub,Nat.reduceAdd];refine gY ?_;refine gO ?_;refine gM fun K F=>?_;simp only[go_sem];refine gP (pf193 l hl) ?_;simp only[go_sem];apply F;clear F K;refine gY ?_;refine Wc.cond (t:=(chkT l != 0)) rfl (fun hc=>?_) (fun hc=>?_)
 ·have hc':chkT l≠0:=by simpa using hc
  have e:encT l=([],chkT l):=by unfold encT;rw[if_neg hc']
  refine gY ?_
  rw[e]
  exact wr (gU [.tmp 2,.tmp 3] [.c (.p (.str [])),.c (.p (.int .i64 (chkT l)))])
 have hc':chkT l=0:=by simpa using hc
 have e0:encT l=(vb l.length++first1 l++first1 (diffs l)++runE (diffs (diffs l)),0):=by unfold encT;rw[if_pos hc']
 obtain⟨hl2,hV⟩:=chkT_ok hc'
 have hvl:=vb_len10 (n:=l.length) kO
 have hR:∀ x∈l,inR x=true:=fun x hx=>by have:=hV x hx;simp[inR];omega
 have hD:=diffs_mem hV
 have hDR:∀ x∈diffs l,inR x=true:=fun x hx=>by have:=hD x hx;simp[inR];omega
 have hDD:=diffs_mem hD
 have hDDR:(diffs (diffs l)).all inR=true:=List.all_eq_true.2 fun d hd=>by have:=hDD d hd;simp[inR];omega
 have hdl:=diffs_len l
 have hddl:=diffs_len (diffs l)
 have hrl:=runE_len _ (diffs (diffs l)) (Nat.le_refl _) hDDR kO
 have f1:=first1_len hR
 have f2:=first1_len hDR
 have ea:appV [] (l.length:Int)=(vb l.length,0):=by unfold appV;rw[if_neg kO,Int.toNat_natCast];rfl
 have one:∀(t:List UInt8) (m:List Int) (x:Int),m[0]? = some x→(∀ x∈m,inR x=true)→appS t x=(t++first1 m,0):=fun t m x hx hm=>by
  unfold appS
  rw[hm x (gw hx)]
  cases m with
  |nil=>simp at hx
  |cons y r=>simp at hx;subst hx;rfl
 refine Wc.skip (Wc.seq ?_);refine gM fun K F=>?_;simp only[go_sem];refine gP (pf192 [] (l.length:Int) kD) ?_;simp only[go_sem,ea];apply F;clear F K
 rw[e0]
 refine Wc.seqA (fun y=>y.ds=[]∧y.e.length=48∧y.e.getD 0 .junk=P' (.lst l.length (l.map pI))∧y.e.getD 5 .junk=P' (.str (vb l.length++first1 l))) ?_ ?_
 ·refine gY ?_;refine Wc.cond (t:=decide (0<(l.length:Int))) kA (fun hc=>?_) (fun hc=>?_)
  ·have hl0 : 0 < l.length := by have : 0 < (l.length : Int) := by simpa using hc
                                 omega
   obtain⟨x,hx⟩:=gE hl0
   have hix:=ixA ti175 rfl ti3 (j:=0) (m:=l.length) (cs:=l.map pI) hl0 kS kD
   rw[show((0:Nat):Int)=0 from rfl,Nat.zero_mul] at hix
   have hca:=rpA (off:=0) (drop_map pI hx) kS
   refine gM fun K F=>?_;simp only[go_sem,hix,hca,ea];refine gP (pf194 (vb l.length) x kO) ?_;simp only[go_sem,one _ _ _ hx hR];apply F;clear F K
   exact⟨rfl,rfl,rfl,by simp only[go_sem]⟩
  ·have hl0:l=[]:=by
    have:¬ 0<(l.length:Int):=by simpa using hc
    exact List.length_eq_zero_iff.1 kO
   refine Wc.skip ⟨rfl,rfl,rfl,?_⟩;subst hl0;simp only[go_sem,ea,first1]
 ·rintro⟨e,ds,s1⟩ ⟨rfl,hlen,h0,h5⟩
  simp only at hlen h0 h5;refine gN fun K F=>?_;simp only[go_sem,hlen,h0,h5];refine gP (pf195 l hl (fun x hx=>by have:=hV x hx;omega)) ?_;simp only[go_sem,hlen,h0,h5];apply F;clear F K;refine Wc.seqA (fun y=>y.ds=[]∧y.e.length=48∧y.e.getD 7 .junk=P' (.lst (diffs l).length ((diffs l).map pI))∧y.e.getD 5 .junk=P' (.str (vb l.length++first1 l++first1 (diffs l)))) ?_ ?_
  ·apply gS (by simp only[go_sem,hlen,h0,h5];rfl);refine Wc.cond (t:=decide (0<((diffs l).length:Int))) kL (fun hc=>?_) (fun hc=>?_)
   ·have hl0 : 0 < (diffs l).length := by have : 0 < ((diffs l).length : Int) := by simpa using hc
                                          omega
    obtain⟨x,hx⟩:∃ x,(diffs l)[0]? = some x:=⟨(diffs l)[0],List.getElem?_eq_getElem hl0⟩
    have hix:=ixA ti175 rfl ti3 (j:=0) (m:=(diffs l).length) (cs:=(diffs l).map pI) hl0 kS kD
    rw[show((0:Nat):Int)=0 from rfl,Nat.zero_mul] at hix
    have hca:=rpA (off:=0) (drop_map pI hx) kS
    refine gM fun K F=>?_;simp only[go_sem,hlen,h0,h5,hix,hca];refine gP (pf194 (vb l.length++first1 l) x (by simp;omega)) ?_;simp only[go_sem,hlen,h0,h5,one _ _ _ hx hDR];apply F;clear F K
    exact⟨rfl,by simp only[go_sem,hlen],by simp only[go_sem,hlen],by simp only[go_sem,hlen]⟩
   ·have hl0:diffs l=[]:=by
     have:¬ 0<((diffs l).length:Int):=by simpa using hc
     exact List.length_eq_zero_iff.1 kO
    refine Wc.skip ⟨rfl,by simp only[go_sem,hlen],by simp only[go_sem,hlen],?_⟩;simp only[go_sem,hlen,h5,hl0,first1]
  ·clear hlen h0 h5 e s1
   rintro⟨e,ds,s1⟩ ⟨rfl,hlen,h7,h5⟩
   simp only at hlen h7 h5;refine gN fun K F=>?_;simp only[go_sem,hlen,h7,h5];refine gP (pf195 (diffs l) kO (fun x hx=>by have:=hD x hx;omega)) ?_;simp only[go_sem,hlen,h7,h5];refine gP (pf196 (diffs (diffs l)) kO hDDR) ?_
   have hlt:¬ (9223372036854775807<(vb l.length++first1 l++first1 (diffs l)).length+(runE (diffs (diffs l))).length):=by simp;omega
   simp only[go_sem,hlen,h7,h5,hlt];apply F;clear F K;exact wr (gV [.tmp 2,.tmp 3] [.c (.p (.str (vb l.length++first1 l++first1 (diffs l)++runE (diffs (diffs l))))),.c (.p (.int .i64 0))] kL)
abbrev wR (t:List UInt8)(e:Int):V:=.agg [.p (.str t),.p (.int .i64 e)]
theorem pf120 (t:List UInt8)(e n:Int)(ht:t.length≤4611686018427387904):Pf E0 120 [wR t e,.c (.p (.int .i64 n))] (.v (wR (appV t n).1 e)):=by
 refine gQ (fn:=Tryz.f120) ?_;simp only[gL,Tryz.ntmps120,Nat.reduceSub,Nat.reduceAdd];refine gY ?_;refine gN fun K F=>?_;simp only[go_sem];refine gP (pf192 t n ht) ?_;simp only[go_sem];apply F;clear F K;refine gY ?_;exact wr (gU [.cell 4 178] [wR (appV t n).1 e])
def partW (w:List UInt8×Int)(t:List UInt8)(e:Int):List UInt8×Int:=if w.2≠0 then w else if e≠0 then ([],4) else ((appV w.1 t.length).1++t,0)
theorem pf121 (w:List UInt8×Int)(t:List UInt8)(e:Int)(hw:w.1.length≤2^60)(ht:t.length≤2^60):Pf E0 121 [wR w.1 w.2,.c (.p (.str t)),.c (.p (.int .i64 e))] (.v (wR (partW w t e).1 (partW w t e).2)):=by
 refine gQ (fn:=Tryz.f121) ?_;simp only[gL,Tryz.ntmps121,Nat.reduceSub,Nat.reduceAdd];refine gY ?_;refine gO ?_;refine gZ ?_;refine Wc.cond (t:=(w.2 != 0)) kA (fun hc=>?_) (fun hc=>?_)
 ·have hc':w.2≠0:=by simpa using hc
  have e1:partW w t e=w:=by unfold partW;rw[if_pos hc']
  rw[e1]
  refine gY ?_;exact wr (gU [.cell 6 178] [wR w.1 w.2])
 have hc':w.2=0:=by simpa using hc
 refine Wc.skip (Wc.seq (Wc.seq ?_));refine gZ ?_;refine Wc.cond (t:=(e != 0)) rfl (fun hd=>?_) (fun hd=>?_)
 ·have hd':e≠0:=by simpa using hd
  have e1:partW w t e=([],4):=by unfold partW;rw[if_neg (by simpa using hc'),if_pos hd']
  rw[e1]
  refine gY ?_;exact wr (gU [.cell 6 178] [wR [] 4])
 have hd':e=0:=by simpa using hd
 have e1:partW w t e=((appV w.1 t.length).1++t,0):=by unfold partW;rw[if_neg (by simpa using hc'),if_neg (by simpa using hd')]
 have hal:(appV w.1 t.length).1.length≤2^60+10:=by
  unfold appV
  split
  ·simp
  ·have:=vb_len10 (n:=(t.length:Int).toNat) kO
   simp at this ⊢;omega
 have hlt:¬ (9223372036854775807<(appV w.1 t.length).1.length+t.length):=kO
 rw[e1]
 refine Wc.skip (Wc.seq ?_);refine gM fun K F=>?_;simp only[go_sem];refine gP (pf120 w.1 w.2 t.length kO) ?_;simp only[go_sem];apply F;clear F K;apply gS (by simp only[go_sem,hlt];rfl);refine gY ?_;exact wr (gV [.cell 6 178] [wR ((appV w.1 t.length).1++t) 0] (by simp only[go_sem,hc']))
theorem o197:E0.opn 197=false:=by kernel_rfl
theorem x197:E0.xt 197=none:=by kernel_rfl
theorem o121:E0.opn 121=false:=by kernel_rfl
theorem x121:E0.xt 121=none:=by kernel_rfl
theorem encV_len (l:List Int)(hl:l.length<2^40):(encV l).1.length≤2^60:=by
 unfold encV
 split
 ·simp
 ·split
  ·rename_i h1 hall
   have hV:=inV_all hall
   have hdR:(diffs l).all inR=true:=List.all_eq_true.2 fun d hd=>by have:=diffs_mem hV d hd;simp[inR];omega
   have hdl:=diffs_len l
   have hrl:=runE_len _ (diffs l) (Nat.le_refl _) hdR kO
   have hvl:=vb_len10 (n:=l.length) kO
   have f1:=first1_len (l:=l) fun x hx=>inV_R (List.all_eq_true.1 hall x hx)
   simp;omega
  ·simp
theorem pf123 (w:List UInt8×Int)(l:List Int)(hw:w.1.length≤2^60)(hl:l.length<2^40):Pf E0 123 [wR w.1 w.2,.c (.p (.lst l.length (l.map pI)))] (.v (wR (partW w (encV l).1 (encV l).2).1 (partW w (encV l).1 (encV l).2).2)):=by
 refine gQ (fn:=Tryz.f123) ?_;simp only[gL,Tryz.ntmps123,Nat.reduceSub,Nat.reduceAdd];refine gY ?_;refine Wc.seq ?_;refine Wc.regT fun K F=>?_;simp only[go_sem];refine gP (pf197 l hl) ?_;simp only[go_sem];refine gP (pf121 w (encV l).1 (encV l).2 hw (encV_len l hl)) ?_;simp only[go_sem,o197,x197,o121,x121]
 refine⟨by rfl,F _ _ ?_⟩
 exact wr (gU [.cell 4 178] [wR (partW w (encV l).1 (encV l).2).1 (partW w (encV l).1 (encV l).2).2])
abbrev chV (sig:Int)(lab:Pd)(z:List Pd)(d:List UInt8):V:=.agg ([.p (pI sig),.p lab]++z.map .p++[.p (.str d)])
abbrev zz0:List Pd:=[pI 0,pI 0,pI 0,pI 0,pI 0,.int .u32 0,.int .u32 0,.int .u32 0,.int .u32 0,.int .u32 0,.int .u32 0,.int .u32 0,.int .u32 0]
abbrev noCh:V:=chV 0 (.lst 0 []) zz0 []
theorem pf124 (w:List UInt8×Int)(sig:Int)(n:Nat)(cs:List Pd)(z0 z1 z2 z3 z4 z5 z6 z7 z8 z9 z10 z11 z12:Pd):Pf E0 124 [wR w.1 w.2,.c (.p (pI sig)),.c (.p (.lst n cs)),.agg [.p z0,.p z1,.p z2,.p z3,.p z4,.p z5,.p z6,.p z7,.p z8,.p z9,.p z10,.p z11,.p z12]]
  (if w.2≠0∨262144<w.1.length then .tup [noCh,.c (.p (pI 4))] else .tup [chV sig (.lst n cs) [z0,z1,z2,z3,z4,z5,z6,z7,z8,z9,z10,z11,z12] w.1,.c (.p (pI 0))]):=by
 refine gQ (fn:=Tryz.f124) ?_;simp only[gL,Tryz.ntmps124,Nat.reduceSub,Nat.reduceAdd];refine gY ?_;refine gO ?_
 by_cases h2:w.2=0
 ·have hb:(w.2 != 0)=false:=by simpa using h2
  apply gR (by simp only[go_sem,hb];rfl);refine Wc.cond (t:=decide ((262144:Int)<w.1.length)) kA (fun hc=>?_) (fun hc=>?_)
  ·have hc' : 262144 < w.1.length := by have : (262144 : Int) < w.1.length := by simpa using hc
                                        omega
   rw[if_pos (.inr hc')]
   refine gY ?_;exact wr (gU [.cell 8 96,.tmp 9] [.agg ([.p (pI 0),.nils]++zz0.map .p++[.p (.str [])]),.c (.p (pI 4))])
  ·have hc' : ¬ 262144 < w.1.length := by have : ¬ (262144 : Int) < w.1.length := by simpa using hc
                                          omega
   rw[if_neg (by simp[h2];omega)]
   refine Wc.skip (Wc.seq ?_);refine gZ ?_;exact wr (gV [.cell 8 96,.tmp 9] [chV sig (.lst n cs) [z0,z1,z2,z3,z4,z5,z6,z7,z8,z9,z10,z11,z12] w.1,.c (.p (pI 0))] (by simp only[go_sem];try rfl))
 ·have hb:(w.2 != 0)=true:=by simpa using h2
  rw[if_pos (.inl h2)]
  apply gR (by simp only[go_sem,hb];rfl);refine Wc.cond (t:=true) kA (fun hc=>?_) (fun hc=>by cases hc);refine gY ?_;exact wr (gU [.cell 8 96,.tmp 9] [.agg ([.p (pI 0),.nils]++zz0.map .p++[.p (.str [])]),.c (.p (pI 4))])
def isT (n:Int):Bool:=decide (1≤n)&&decide (n≤1099511627776)
def isVl (n:Int):Bool:=decide (-1099511627776≤n)&&decide (n≤1099511627776)
theorem pf235 (n:Int):Pf E0 235 [.c (.p (.int .i64 n))] (P' (.bool (isT n))):=by
 refine gQ (fn:=Tryz.f235) ?_;simp only[gL,Tryz.ntmps235,Nat.reduceSub,Nat.reduceAdd];refine gY ?_;refine Wc.seq ?_
 by_cases h:1≤n
 ·apply gR kB;exact wr (gV [.tmp 2] [.c (.p (.bool (isT n)))] (by simp only[go_sem,isT,h,Bool.true_and]))
 ·apply gR kB;exact wr (gV [.tmp 2] [.c (.p (.bool (isT n)))] (by simp only[go_sem,isT,h,Bool.false_and]))
theorem pf236 (n:Int):Pf E0 236 [.c (.p (.int .i64 n))] (P' (.bool (isVl n))):=by
 refine gQ (fn:=Tryz.f236) ?_;simp only[gL,Tryz.ntmps236,Nat.reduceSub,Nat.reduceAdd];refine gY ?_;refine Wc.seq ?_
 by_cases h : -1099511627776≤n
 ·apply gR kB;exact wr (gV [.tmp 2] [.c (.p (.bool (isVl n)))] (by simp only[go_sem,isVl,h,Bool.true_and]))
 ·apply gR kB;exact wr (gV [.tmp 2] [.c (.p (.bool (isVl n)))] (by simp only[go_sem,isVl,h,Bool.false_and]))
abbrev zV (c t1 t2 v1 v2:Int):V:=.agg [.p (pI c),.p (pI t1),.p (pI t2),.p (pI v1),.p (pI v2),.p (.int .u32 0),.p (.int .u32 0),.p (.int .u32 0),.p (.int .u32 0),.p (.int .u32 0),.p (.int .u32 0),.p (.int .u32 0),.p (.int .u32 0)]
structure ZOk (c t1 t2 v1 v2:Int):Prop where
 c1:1≤c
 c2:c≤1152921504606846976
 a1:isT t1=true
 a2:isT t2=true
 a:t1≤t2
 b1:isVl v1=true
 b2:isVl v2=true
 b:v1≤v2
def mn (a b:Int):Int:=if b<a then b else a
def mx (a b:Int):Int:=if a<b then b else a
end Go.Proofs.YtedcnhbblgmdnaaGreat.Ab
namespace Go.Proofs.YtedcnhbblgmdnaaGreat.Ab
def wthn (n a b:Int):Bool:=decide (a≤n)&&decide (n≤b)
theorem pf238 (n a b:Int):Pf E0 238 [.c (.p (pI n)),.c (.p (pI a)),.c (.p (pI b))] (P' (.bool (wthn n a b))):=by
 refine gQ (fn:=Tryz.f238) ?_;simp only[gL,Tryz.ntmps238,Nat.reduceSub,Nat.reduceAdd];refine gY ?_;refine Wc.seq ?_
 by_cases h:a≤n
 ·apply gR kB;exact wr (gV [.tmp 6] [.c (.p (.bool (wthn n a b)))] (by simp only[go_sem,wthn,h,Bool.true_and]))
 ·apply gR kB;exact wr (gV [.tmp 6] [.c (.p (.bool (wthn n a b)))] (by simp only[go_sem,wthn,h,Bool.false_and]))
end Go.Proofs.YtedcnhbblgmdnaaGreat.Ab
namespace Go.Proofs.YtedcnhbblgmdnaaGreat.Ab
structure Zo where
 c:Int
 t1:Int
 t2:Int
 v1:Int
 v2:Int
abbrev Zo.V (z:Zo):Go.Proofs.YtedcnhbblgmdnaaGreat.Ab.V:=zV z.c z.t1 z.t2 z.v1 z.v2
def Zo.none:Zo:=⟨0,0,0,0,0⟩
def Zo.add (z:Zo)(t v:Int):Zo:=if z.c=0 then ⟨1,t,t,v,v⟩ else ⟨z.c+1,mn z.t1 t,mx z.t2 t,mn z.v1 v,mx z.v2 v⟩
def Zo.ok (z:Zo):Prop:=z=Zo.none∨ZOk z.c z.t1 z.t2 z.v1 z.v2
theorem ZOk.one {t v:Int}(ht:isT t=true)(hv:isVl v=true):ZOk 1 t t v v:=⟨by decide,by decide,ht,ht,Int.le_refl _,hv,hv,Int.le_refl _⟩
theorem stepK_elim {r:Option (D×St)}{k:D→St→Prop}(h:stepK r k):∃ d s',r=some (d,s')∧k d s':=by
 cases r with
 |none=>exact h.elim
 |some x=>exact⟨x.1,x.2,rfl,h⟩
def Tg (s:St)(b:C):Prop:=b=.nils∨∃ n cs id,b=.own n cs id∧(0<n∧n≤140737488355328)∧∃ m,s.get id=some (.front 1 m 5)
theorem Tg.adv {s:St}{b:C}(h:Tg s b)(n:Nat):Tg (s.adv n) b:=h
theorem Tg.put {s:St}{b:C}(h:Tg s b){k:Nat}{o:Ob}(hk:∀ m,s.get k≠some (.front 1 m 5)):Tg (s.put k o) b:=by
 rcases h with h|⟨n,cs,id,h1,h2,m,h3⟩
 ·exact .inl h
 ·refine .inr ⟨n,cs,id,h1,h2,m,?_⟩
  rw[St.get_put,if_neg];exact h3
  rintro rfl;exact hk _ h3
theorem appT_of {s s':St}{b:C}{n key:Nat}{cs:List Pd}{t:List UInt8}{d:D}(ho:Own s 1 (.v (.c b)) n cs)(htg:Tg s b)(hn:n+t.length≤140737488355328)
  (h:appendD E0 key [214,9] (.v (.c b)) (P' (.str t)) s=some (d,s')):∃ b',d=.v (.c b')∧Tg s' b':=by
 obtain⟨hl,h2⟩:=ho
 unfold appendD at h;simp only[ti214,ti5,srcD,ti9,P',List.length_map,Nat.mul_one,if_true] at h;rcases h2 with ⟨h2,rfl⟩|⟨id,h2,tg,hid⟩
 ·cases h2
  by_cases ht:t.length=0
  ·rw[if_pos ht] at h
   cases h
   exact⟨_,rfl,.inl rfl⟩
  ·rw[if_neg ht] at h
   have hgt:E0.gt 214=false:=by kernel_rfl
   simp only[hgt] at h
   rw[if_neg kS] at h
   split at h
   ·cases h
    exact⟨_,rfl,.inr ⟨_,_,_,rfl,⟨kO,kO⟩,_,St.get_put_same _ _ _⟩⟩
   ·cases h
 ·cases h2;rcases htg with htg|⟨n',cs',id',h1,h2,m,h3⟩
  ·cases htg
  ·cases h1
   rw[hid] at h3
   cases h3
   by_cases ht:t.length=0
   ·rw[if_pos ht] at h
    cases h
    exact⟨_,rfl,.inr ⟨_,_,_,rfl,h2,_,hid⟩⟩
   ·rw[if_neg ht] at h
    simp only[hid] at h
    split at h
    ·cases h
     exact⟨_,rfl,.inr ⟨_,_,_,rfl,⟨kO,hn⟩,n+t.length,by rw[St.get_put_same,if_pos trivial]⟩⟩
    ·cases h
theorem appT {bb key:Nat}{s:St}{L1 L2:List (Nat×D×Nat×List Pd)}{M:List (Nat×Ob)}{b:C}{n:Nat}{cs:List Pd}{t:List UInt8}{k:D→St→Prop}(h:OA bb s (L1++(1,.v (.c b),n,cs)::L2) M)(hkey:bb≤key)(htg:Tg s b)
  (hn:n+t.length≤140737488355328) (hk:∀ b' s',OA (key+1) s' (L1++(1,.v (.c b'),n+t.length,cs++t.map pdOfByte)::L2) M→s'.nx=s.nx→Tg s' b'→k (.v (.c b')) s'):stepK (appendD E0 key [214,9] (.v (.c b)) (.v (.c (.p (.str t)))) s) k:=by
 have ho:Own s 1 (.v (.c b)) n cs:=h.own (1,.v (.c b),n,cs) kS
 obtain⟨d,s1,hap,hoa,hnx⟩:=stepK_elim (OA.app (E:=E0) (key:=key) (t:=214) (u:=9) (e:=5) (by_:=1) (n:=n) (m:=t.length) (ys:=t.map pdOfByte) (y:=P' (.str t)) (k:=fun x' s'=>OA (key+1) s' (L1++(1,x',n+t.length,cs++t.map pdOfByte)::L2) M∧s'.nx=s.nx) h hkey ⟨_,ti214,rfl⟩ ti5 rfl rfl rfl kD kD (by simp only[srcD,ti9,P']) kS kO fun x' s' h1 h2=>⟨h1,h2⟩)
 obtain⟨b',rfl,hc⟩:=appT_of ho htg hn hap
 rw[show D.v (.c (.p (.str t)))=P' (.str t) from rfl,hap]
 exact hk b' s1 hoa hnx hc
theorem call258 {bb:Nat}{s:St}{L:List (Nat×D×Nat×List Pd)}{M1 M2:List (Nat×Ob)}{r:Nat}{a b:C}{K:D→St→Prop}(h:OA bb s L (M1++(r,.tc 245 [a,b])::M2))(ha:isOwner r 0 a=true)
  (F:∀ s',OA bb s' L (M1++(r,.tc 245 [.ref r 0,b])::M2)→s'.nx=s.nx→(∀ c,Tg s c→Tg s' c)→K (.tup []) s'):wpCall E0 (.v (.c (.p (.fnc 258)))) [.v (.c (.ref r 0))] s K:=by
 have hr:s.get r=some (.tc 245 [a,b]):=h.at_ (r,.tc 245 [a,b]) kS
 unfold isOwner at ha
 split at ha
 ·refine wpCall.xt (h:=bldK) kR rfl (s':=s.put r (.tc 245 [.ref r 0,b])) (d:=.tup []) (by simp only[bldK,hr,and_self,if_true]) (F _ (h.set rfl) rfl fun c hc=>hc.put fun m e=>?_)
  rw[hr] at e;cases e
 ·simp only[Bool.and_eq_true,beq_iff_eq] at ha
  obtain⟨rfl,rfl⟩:=ha
  exact wpCall.xt (h:=bldK) kR rfl (s':=s) (d:=.tup []) (by simp only[bldK,hr,and_self,if_true]) (F _ h rfl fun c hc=>hc)
 ·cases ha
theorem call228 {bb:Nat}{s:St}{L1 L2:List (Nat×D×Nat×List Pd)}{M1 M2:List (Nat×Ob)}{r:Nat}{a b:C}{n:Nat}{cs:List Pd}{t:List UInt8}{K:D→St→Prop}(h:OA bb s (L1++(1,.v (.c b),n,cs)::L2) (M1++(r,.tc 245 [a,b])::M2))(hbb:bb≤s.nx)(htg:Tg s b)(ha:isOwner r 0 a=true)(hn:n+t.length≤140737488355328)
  (F:∀ b' s',OA s'.nx s' (L1++(1,.v (.c b'),n+t.length,cs++t.map pdOfByte)::L2) (M1++(r,.tc 245 [.ref r 0,b'])::M2)→Tg s' b'→s.nx≤s'.nx→K (.tup [.c (.p (.int .i64 t.length)),.c (.p .nili)]) s') :
  wpCall E0 (.v (.c (.p (.fnc 228)))) [.v (.c (.ref r 0)),.v (.c (.p (.str t)))] s K:=by
 refine wpCall.opn (fn:=Tryz.f228) kR kR rfl kR rfl ?_;simp only[gL,Tryz.ntmps228,Nat.reduceSub,Nat.reduceAdd];refine gY ?_;refine gN fun K F=>?_;simp only[go_sem];refine call258 (h.adv.adv) ha fun s1 h1 hnx1 htg1=>?_
 have htg2:=htg1 b htg
 have hr:s1.get r=some (.tc 245 [.ref r 0,b]):=h1.at_ (r,.tc 245 [.ref r 0,b]) kS
 simp only[go_sem];apply F;clear F K;refine gN fun K F=>?_;simp only[go_sem,hr];refine appT (h1.adv (n:=10)) (by simp only[St.nx_adv] at hnx1;omega) htg2 hn fun b' s2 h2 hnx2 htg3=>?_
 have hr2:s2.get r=some (.tc 245 [.ref r 0,b]):=h2.at_ (r,.tc 245 [.ref r 0,b]) kS
 simp only[go_sem,hr2];apply F;clear F K;refine gY ?_;refine Wc.ret (Op.ret [.tmp 4,.tmp 5] [.c (.p (.int .i64 t.length)),.c (.p .nili)] rfl rfl kA (F b' _ ?_ ?_ ?_))
 ·refine OA.adv (OA.mono (OA.set h2 rfl) ?_);simp only[St.nx_put,St.nx_adv] at hnx1 hnx2 ⊢;omega
 ·exact(htg3.put fun m e=>by rw[hr2] at e;cases e).adv _
 ·simp only[St.nx_put,St.nx_adv] at hnx1 hnx2 ⊢;omega
theorem call230 {bb:Nat}{s:St}{L1 L2:List (Nat×D×Nat×List Pd)}{M1 M2:List (Nat×Ob)}{r:Nat}{a b:C}{n:Nat}{t:List UInt8}{K:D→St→Prop}(h:OA bb s (L1++(1,.v (.c b),n,t.map pdOfByte)::L2) (M1++(r,.tc 245 [a,b])::M2))(htg:Tg s b)
  (F:K (P' (.str t)) s):wpCall E0 (.v (.c (.p (.fnc 230)))) [.v (.c (.ref r 0))] s K:=by
 have hr:s.get r=some (.tc 245 [a,b]):=h.at_ (r,.tc 245 [a,b]) kS
 obtain⟨hl,h2⟩:=h.own (1,.v (.c b),n,t.map pdOfByte) kS
 simp only[List.length_map,Nat.mul_one] at hl;simp only[D.v.injEq,V.c.injEq] at h2;refine wpCall.xt (h:=bldS) kR rfl (s':=s) (d:=P' (.str t)) ?_ F;rcases h2 with ⟨h2,h3⟩|⟨id,h2,tg,hid⟩
 ·subst h2
  have:t=[]:=List.length_eq_zero_iff.1 kO
  subst this;simp only[bldS,hr,and_self,if_true]
 ·subst h2;rcases htg with htg|⟨n',cs',id',h1,h2,m,h3⟩
  ·cases htg
  ·cases h1
   rw[hid] at h3
   cases h3;simp only[bldS,hr,hid,allM_byteS_of,hl,h2.1,h2.2,and_self,if_true]
theorem call229 {bb:Nat}{s:St}{L1 L2:List (Nat×D×Nat×List Pd)}{M1 M2:List (Nat×Ob)}{r:Nat}{a b:C}{n:Nat}{cs:List Pd}{K:D→St→Prop}(h:OA bb s (L1++(1,.v (.c b),n,cs)::L2) (M1++(r,.tc 245 [a,b])::M2))
  (F:∀ m,K (P' (.int .i64 n)) (s.adv m)):wpCall E0 (.v (.c (.p (.fnc 229)))) [.v (.c (.ref r 0))] s K:=by
 have hr:s.get r=some (.tc 245 [a,b]):=h.at_ (r,.tc 245 [a,b]) kS
 obtain⟨hl,h2⟩:=h.own (1,.v (.c b),n,cs) kS
 simp only[D.v.injEq,V.c.injEq] at h2;refine wpCall.opn (fn:=Tryz.f229) kR kR rfl kR rfl ?_;simp only[gL,Tryz.ntmps229,Nat.reduceSub,Nat.reduceAdd];rcases h2 with ⟨h2,h3⟩|⟨id,h2,tg,hid⟩
 ·subst h2 h3;refine gY ?_;apply gS (by simp only[go_sem,hr];rfl);exact wr (Op.ret [.tmp 2] [.c (.p (.int .i64 0))] rfl rfl (by simp only[go_sem];try rfl) (F 7))
 ·subst h2;refine gY ?_;apply gS (by simp only[go_sem,hr];rfl);exact wr (Op.ret [.tmp 2] [.c (.p (.int .i64 n))] rfl rfl (by simp only[go_sem];try rfl) (F 7))
def IterC (g:Nat)(cap:List C)(H:St→Prop)(step:Nat→Nat→List V→Prop)(last:Nat):Prop :=
 ∃ fn c,E0.fn g=some fn∧fn.body=some c∧∀(l:Nat) (J:Nat→St→Prop),(∀ i s n,J i s→J i (s.adv n))→(∀ i s n k o,J i s→s.nx≤k→k<s.nx+n→J i ((s.adv n).put k o))→(∀ i s,J i s→H s) →
  (∀ i k a s,J i s→step i k a→wpCall E0 (.v (.c (.fn (.yield l) [] []))) (a.map .v) s (fun d s'=>d=P' (.bool true)∧J k s')) →
  ∀ s,J 0 s→∀ Q:D→St→Prop,(∀ d s',J last s'→Q d s') →
   Wc E0 none c { e:=(V.c (.fn (.yield l) [] [])::cap.map .c).map .v++List.replicate (fn.ntmps-(V.c (.fn (.yield l) [] [])::cap.map .c).length) (.tup []),ds:=[],s:=s } (bodyQ E0 fn Q)
theorem putL_put (l:List (Nat×Ob))(k:Nat)(o o':Ob):putL (putL l k o) k o'=putL l k o':=by
 induction l with
 |nil=>simp[putL]
 |cons x r ih =>
  obtain⟨j,y⟩:=x
  simp only[putL]
  by_cases h1:k<j
  ·simp[h1,putL]
  ·by_cases h2:j=k
   ·subst h2;simp[putL]
   ·simp[h1,h2,putL,ih]
theorem St.put_put (s:St)(k:Nat)(o o':Ob):(s.put k o).put k o'=s.put k o':=by simp only[St.put,putL_put]
theorem vs_map:∀ a:List V,vs? (a.map .v)=some a
 |[]=>rfl
 |x::r=>by simp only[List.map_cons,vs?,D.v?,vs_map r]
def Fk (s s':St):Prop:=∀ id es m tg,s.get id=some (.front es m tg)→s'.get id=some (.front es m tg)
theorem Fk.put {s:St}{k:Nat}{o o':Ob}(h:s.get k=some o)(hf:o.isFront=false):Fk s (s.put k o'):=fun id es m tg e=>by
 rw[St.get_put,if_neg];exact e
 rintro rfl
 rw[h] at e;cases e;cases hf
theorem Wc.iterS {g:Nat}{cap:List C}{H:St→Prop}{step:Nat→Nat→List V→Prop}{last:Nat}(hi:IterC g cap H step last){f:Operand}{ps:Array Nat}{assign body:Code}{x:Fr}{Q:Ex→Fr→Prop}{L:List (Nat×D×Nat×List Pd)}{M:List (Nat×Ob)}
  (R:Nat→List (Nat×D×Nat×List Pd)→List (Nat×Ob)→Prop) (S:List (Nat×D×Nat×List Pd)→St→Prop) (hS:∀ L s s',Fk s s'→S L s→S L s') (ht:opd x.e f=.v (.c (.fn (.func g) [] cap))) (ho:OA x.s.nx x.s L M) (h0:R 0 L M) (h0S:S L x.s) (hH:∀ i L M s,R i L M→(∀ y∈M,s.get y.1=some y.2)→H s) (hps:∀ i k a,step i k a→ps.toList.length=a.length)
  (hround : ∀ i k a (lp : LoopR) (s : St) L M, step i k a → R i L M → S L s → OA s.nx s L ((x.s.nx, .loop lp) :: (x.s.nx + 1, .defr) :: M) →
   Wc E0 (some x.s.nx) assign { e:=setAll x.e (ps.toList.zip a),ds:=[],s:=s } fun ex y=>ex=.normal∧∃ L1 M1,OA y.s.nx y.s L1 ((x.s.nx,.loop lp)::(x.s.nx+1,.defr)::M1)∧S L1 y.s ∧
    ∀(lq:LoopR) (s':St),OA s'.nx s' L1 ((x.s.nx,.loop lq)::(x.s.nx+1,.defr)::M1)→S L1 s'→Wc E0 (some x.s.nx) body { e:=y.e,ds:=[],s:=s' } fun ex z=>ex=.normal ∧
     ∃ L' M',OA z.s.nx z.s L' ((x.s.nx,.loop lq)::(x.s.nx+1,.defr)::M')∧R k L' M'∧S L' z.s)
  (hQ:∀ L M s',OA s'.nx s' L ((x.s.nx+1,.defr)::M)→R last L M→S L s'→Q .normal { e:=x.e,ds:=[x.s.nx+1]++x.ds,s:=s' }):Wc E0 none (.rangeFunc f ps assign body) x Q:=by
 obtain⟨fn,c,hf,hb,hi⟩:=hi
 refine Wc.range (g:=g) (cap:=cap.map .c) (ds:=[x.s.nx+1]) (s1:=({ x.s with nx:=x.s.nx+2 }:St).put (x.s.nx+1) .defr) (by rw[ht];rfl) rfl hf hb ?_
 have hc:=St.put_comm ({ x.s with nx:=x.s.nx+2 }:St) (k:=x.s.nx+1) (j:=x.s.nx) kO .defr
 rw[hc]
 have ho':OA x.s.nx ({ x.s with nx:=x.s.nx+2 }:St) L M:=ho.adv (n:=2)
 generalize hlp:(LoopR.mk .ready none x.e ps.toList assign body)=lp
 have h1:=(ho'.new (k:=x.s.nx) (o:=.loop lp) (Nat.le_refl _) rfl).new (k:=x.s.nx+1) (o:=.defr) (Nat.le_refl _) rfl
 have hl1:lp.st=.ready:=by rw[← hlp]
 have hl2:lp.ps=ps.toList:=by rw[← hlp]
 have hl3:lp.e=x.e:=by rw[← hlp]
 have hl4:lp.assign=assign:=by rw[← hlp]
 have hl5:lp.body=body:=by rw[← hlp]
 have hl6:lp.pend=none:=by rw[← hlp]
 refine hi x.s.nx (fun i s=>∃ L M,OA s.nx s L ((x.s.nx,.loop lp)::(x.s.nx+1,.defr)::M)∧R i L M∧S L s) ?_ ?_ ?_ ?_ _ ?_ _ ?_
 ·rintro i s n ⟨L,M,h,hr,hs⟩
  exact⟨L,M,(h.mono (Nat.le_add_right _ n)).adv,hr,hS _ s _ (fun _ _ _ _ e=>e) hs⟩
 ·rintro i s n k o ⟨L,M,h,hr,hs⟩ h1 h2
  refine⟨L,M,(OA.put (h.adv (n:=n)) h1).mono kY,hr,hS _ s _ (fun id es m tg e=>?_) hs⟩
  have:=h.lt e
  rw[St.get_put,if_neg kO];exact e
 ·rintro i s ⟨L,M,h,hr,hs⟩;exact hH i L M s hr fun y hy=>h.at_ y (by simp[hy])
 ·rintro i k a s ⟨L,M,h,hr,hs⟩ hst
  have hg:s.get x.s.nx=some (.loop lp):=h.at_ (x.s.nx,.loop lp) kS
  refine wpCall.yield (vs_map a) hg (by rw[hl2];exact hps _ _ _ hst) ?_
  rw[hl2,hl3,hl4]
  refine(hround i k a lp s L M hst hr hs h).mono ?_
  rintro ex y ⟨rfl,L1,M1,hy,hys,hbody⟩
  refine⟨rfl,lp,hy.at_ (x.s.nx,.loop lp) kS,hl1,?_⟩
  rw[← hl5] at hbody
  have hset:=hy.set (M1:=[]) (k:=x.s.nx) (o:=.loop lp) (o':=.loop { lp with st:=.busy }) rfl
  refine(hbody { lp with st:=.busy } _ hset (hS _ _ _ (Fk.put (hy.at_ (x.s.nx,.loop lp) kS) rfl) hys)).mono ?_
  rintro ex z ⟨rfl,L',M',hz,hr',hzs⟩
  refine⟨_,hz.at_ (x.s.nx,.loop { lp with st:=.busy }) kS,rfl,L',M',?_,hr',hS _ _ _ (Fk.put (hz.at_ (x.s.nx,.loop { lp with st:=.busy }) kS) rfl) hzs⟩
  have hset2:=hz.set (M1:=[]) (k:=x.s.nx) (o:=.loop { lp with st:=.busy }) (o':=.loop lp) rfl
  have e:({ ({ lp with st:=.busy }:LoopR) with st:=if (jumpOf .normal).isNone then .ready else .done,pend:=jumpOf .normal }:LoopR)=lp:=by
   obtain⟨a,b,c,d,e,f⟩:=lp
   simp only at hl1 hl6;subst hl1 hl6
   rfl
  rw[e]
  exact hset2
 ·refine⟨L,M,?_,h0,hS _ _ _ (fun id es m tg e=>?_) h0S⟩
  rotate_left
  ·have:=ho.lt e
   rw[St.get_put,if_neg kO,St.get_put,if_neg kO];exact e
  have:=h1.sub (L1:=L) (M1:=(x.s.nx+1,.defr)::(x.s.nx,.loop lp)::M) (List.Sublist.refl _) (List.Sublist.refl _)
  refine⟨this.free,this.own,this.dis,fun y hy=>this.at_ y (by simp at hy ⊢;rcases hy with h | h | h<;>simp[h]),fun y hy=>this.nof y (by simp at hy ⊢;rcases hy with h | h | h<;>simp[h]),?_⟩
  have hd:=this.dism
  simp only[List.pairwise_cons] at hd ⊢
  obtain⟨a1,a2,a3⟩:=hd
  refine⟨fun y hy=>?_,fun y hy=>a1 y (by simp[hy]),a3⟩
  rcases List.mem_cons.1 hy with rfl|hy
  ·simp
  ·exact a2 y hy
 ·rintro d s' ⟨L,M,h,hr,hs⟩
  have hg:s'.get x.s.nx=some (.loop lp):=h.at_ (x.s.nx,.loop lp) kS
  refine⟨none,s'.put x.s.nx (.loop { lp with st:=.exhausted }),?_,?_⟩
  ·simp only[endLoopD,hg,hl1,hl6]
   rfl
  ·have hset:=h.set (M1:=[]) (k:=x.s.nx) (o:=.loop lp) (o':=.loop { lp with st:=.exhausted }) rfl
   exact hQ L M _ (OA.sub (M:=[]++(x.s.nx,.loop { lp with st:=.exhausted })::(x.s.nx+1,.defr)::M) hset (List.Sublist.refl _) (List.sublist_cons_self _ _)) hr (hS _ _ _ (Fk.put hg rfl) hs)
theorem Wc.iter {g:Nat}{cap:List C}{H:St→Prop}{step:Nat→Nat→List V→Prop}{last:Nat}(hi:IterC g cap H step last){f:Operand}{ps:Array Nat}{assign body:Code}{x:Fr}{Q:Ex→Fr→Prop}{L:List (Nat×D×Nat×List Pd)}{M:List (Nat×Ob)}
  (R:Nat→List (Nat×D×Nat×List Pd)→List (Nat×Ob)→Prop) (ht:opd x.e f=.v (.c (.fn (.func g) [] cap))) (ho:OA x.s.nx x.s L M) (h0:R 0 L M) (hH:∀ i L M s,R i L M→(∀ y∈M,s.get y.1=some y.2)→H s) (hps:∀ i k a,step i k a→ps.toList.length=a.length)
  (hround : ∀ i k a (lp : LoopR) (s : St) L M, step i k a → R i L M → OA s.nx s L ((x.s.nx, .loop lp) :: (x.s.nx + 1, .defr) :: M) →
   Wc E0 (some x.s.nx) assign { e:=setAll x.e (ps.toList.zip a),ds:=[],s:=s } fun ex y=>ex=.normal∧∃ L1 M1,OA y.s.nx y.s L1 ((x.s.nx,.loop lp)::(x.s.nx+1,.defr)::M1) ∧
    ∀(lq:LoopR) (s':St),OA s'.nx s' L1 ((x.s.nx,.loop lq)::(x.s.nx+1,.defr)::M1)→Wc E0 (some x.s.nx) body { e:=y.e,ds:=[],s:=s' } fun ex z=>ex=.normal ∧
     ∃ L' M',OA z.s.nx z.s L' ((x.s.nx,.loop lq)::(x.s.nx+1,.defr)::M')∧R k L' M')
  (hQ:∀ L M s',OA s'.nx s' L ((x.s.nx+1,.defr)::M)→R last L M→Q .normal { e:=x.e,ds:=[x.s.nx+1]++x.ds,s:=s' }):Wc E0 none (.rangeFunc f ps assign body) x Q :=
 Wc.iterS hi R (fun _ _=>True) (fun _ _ _ _ _=>trivial) ht ho h0 trivial hH hps
  (fun i k a lp s L M hs hr _ ho=>(hround i k a lp s L M hs hr ho).mono fun ex y ⟨e,L1,M1,h1,h2⟩=>⟨e,L1,M1,h1,trivial,fun lq s' h3 _=>(h2 lq s' h3).mono fun ex z ⟨e,L',M',h4,h5⟩=>⟨e,L',M',h4,h5,trivial⟩⟩)
  (fun L M s' h1 h2 _=>hQ L M s' h1 h2)
theorem iter291 {r:Nat}{frz:Bool}{xs:List Int}(hl:xs.length<2^40):IterC 291 [.ref r 0] (fun s=>s.get r=some (.cells [.p (.lst xs.length (xs.map pI))] frz))
  (fun i k a=>∃ x,a=[.c (.p (pI x)),.c (.p (pI ((k-i:Nat):Int)))]∧i<k∧k≤xs.length∧(∀ j,i≤j→j<k→xs[j]? = some x)∧(∀ y,xs[k]? = some y→y≠x)) xs.length:=by
 refine⟨Tryz.f291,_,by kernel_rfl,rfl,fun l J hJ hJ2 hcap hy s h0 Q hQ=>?_⟩
 simp only[gL,Tryz.ntmps291,Nat.reduceSub,Nat.reduceAdd];refine gY ?_;refine Wc.block (Wc.loop (fun k y=>∃(i:Nat),k=xs.length-i∧i≤xs.length∧y.ds=[]∧y.e.length=39∧y.e.getD 0 .junk=.v (.c (.fn (.yield l) [] []))∧y.e.getD 1 .junk=.v (.c (.ref r 0))∧y.e.getD 3 .junk=P' (.int .i64 i)∧J i y.s) ?_ (k:=xs.length) ?_)
 ·rintro k ⟨e,ds,s1⟩ ⟨i,rfl,hi,rfl,hlen,h0,h1,h3,hj⟩;simp only at hlen h0 h1 h3 hj
  have hg:=hcap _ _ hj
  refine gO ?_;apply gR (by simp only[go_sem,hlen,h0,h1,h3,hg];rfl);refine Wc.cond (t:=decide ((i:Int)<xs.length)) kL (fun hc=>?_) (fun hc=>?_)
  ·have hil : i < xs.length := by have : (i : Int) < xs.length := by simpa using hc
                                  omega
   obtain⟨x,hx⟩:=gE hil
   have hix:=ixA ti175 rfl ti3 (j:=i) (m:=xs.length) (cs:=xs.map pI) hil kS kD
   have hca:=rpA (off:=i) (drop_map pI hx) (by simp;omega)
   refine Wc.skip (Wc.block (Wc.seq ?_));apply gR (by simp only[go_sem,hlen,h0,h1,h3,i64n i kO];rfl);refine Wc.seqA (fun y=>∃ k,i<k∧k≤xs.length∧(∀ j,i≤j→j<k→xs[j]? = some x)∧(∀ y,xs[k]? = some y→y≠x)∧y.ds=[]∧y.e.length=39∧y.e.getD 0 .junk=.v (.c (.fn (.yield l) [] []))∧y.e.getD 1 .junk=.v (.c (.ref r 0))∧y.e.getD 3 .junk=P' (.int .i64 i)∧y.e.getD 4 .junk=P' (.int .i64 k)∧J i y.s) ?_ ?_
   ·refine Wc.block (Wc.loop (fun q y=>∃(k:Nat),q=xs.length-k∧i<k∧k≤xs.length∧(∀ j,i≤j→j<k→xs[j]? = some x)∧y.ds=[]∧y.e.length=39∧y.e.getD 0 .junk=.v (.c (.fn (.yield l) [] []))∧y.e.getD 1 .junk=.v (.c (.ref r 0))∧y.e.getD 3 .junk=P' (.int .i64 i)∧y.e.getD 4 .junk=P' (.int .i64 k)∧J i y.s) ?_ (k:=xs.length-(i+1)) ?_)
    ·clear hlen h0 h1 h3 hj hg e s1;rintro q ⟨e,ds,s1⟩ ⟨k,rfl,hik,hkl,hall,rfl,hlen,h0,h1,h3,h4,hj⟩;simp only at hlen h0 h1 h3 h4 hj
     have hg:=hcap _ _ hj
     refine gO ?_
     by_cases hkl2:k<xs.length
     ·obtain⟨y,hy⟩:=gE hkl2
      have hiy:=ixA ti175 rfl ti3 (j:=k) (m:=xs.length) (cs:=xs.map pI) hkl2 kS kD
      have hcb:=rpA (off:=k) (drop_map pI hy) (by simp;omega)
      have hd:((k:Int)<(xs.length:Int))=True:=by simp;omega
      refine Wc.regD fun K F=>?_;simp only[go_sem,hlen,h0,h1,h3,h4,hg,hix,hca,hiy,hcb,hd];apply F;clear F K;refine Wc.cond (t:=(y==x)) (by simp only[go_sem,hlen,hd]) (fun hc=>?_) (fun hc=>?_)
      ·have hyx:y=x:=by simpa using hc
       refine Wc.skip (Wc.block ?_);apply gR (by simp only[go_sem,hlen,h0,h1,h3,h4,i64n k kO];rfl)
       refine⟨xs.length-(k+1),kO,k+1,rfl,kO,kO,fun j h1 h2=>?_,rfl,by simp only[go_sem,hlen],by simp only[go_sem,hlen,h0],by simp only[go_sem,hlen,h1],by simp only[go_sem,hlen,h3],by simp only[go_sem,hlen],hJ _ _ _ (hJ _ _ _ hj)⟩
       rcases Nat.lt_or_ge j k with h|h
       ·exact hall j h1 h
       ·have:j=k:=kO
        rw[this,hy,hyx]
      ·have hyx:y≠x:=by simpa using hc
       exact Wc.exit ⟨rfl,k,kO,hkl,hall,fun z hz=>(by rw[hy] at hz;cases hz;exact hyx),rfl,by simp only[go_sem,hlen],by simp only[go_sem,hlen,h0],by simp only[go_sem,hlen,h1],by simp only[go_sem,hlen,h3],by simp only[go_sem,hlen,h4],hJ _ _ _ hj⟩
     ·have hd:((k:Int)<(xs.length:Int))=False:=by simp;omega
      refine Wc.regD fun K F=>?_;simp only[go_sem,hlen,h0,h1,h3,h4,hg,hd];apply F;clear F K;refine Wc.cond (t:=false) (by simp only[go_sem,hlen,hd]) (fun hc=>by cases hc) (fun hc=>?_);exact Wc.exit ⟨rfl,k,kO,hkl,hall,fun z hz=>(by rw[List.getElem?_eq_none kO] at hz;cases hz),rfl,by simp only[go_sem,hlen],by simp only[go_sem,hlen,h0],by simp only[go_sem,hlen,h1],by simp only[go_sem,hlen,h3],by simp only[go_sem,hlen,h4],hJ _ _ _ hj⟩
    ·exact ⟨i + 1, rfl, by omega, by omega, fun j h1 h2 => (by have : j = i := by omega
                                                               rw [this, hx]), rfl, by simp only [go_sem, hlen], by simp only [go_sem, hlen, h0], by simp only [go_sem, hlen, h1], by simp only [go_sem, hlen, h3], by simp only [go_sem, hlen], hJ _ _ _ (hJ _ _ _ hj)⟩
   ·clear hlen h0 h1 h3 hj hg e s1
    rintro⟨e,ds,s1⟩ ⟨k,hik,hkl,hall,hend,rfl,hlen,h0,h1,h3,h4,hj⟩
    simp only at hlen h0 h1 h3 h4 hj
    have hg:=hcap _ _ hj
    have e1:IntKind.i64.wrap ((k:Int)-i)=((k-i:Nat):Int):=by rw[wi64];omega
    refine gO ?_;refine gM fun K F=>?_;simp only[go_sem,hlen,h0,h1,h3,h4,hg,hix,hca,e1]
    obtain⟨n,d,s2,hc1,hd,hj2⟩:=hy i k _ (s1.adv 10) (hJ _ _ _ hj) ⟨x,rfl,hik,hkl,hall,hend⟩
    subst hd
    refine⟨n,_,s2,hc1,?_⟩
    simp only[go_sem,hlen,h0,h1,h3,h4];apply F;clear F K;apply gF kL;apply gR (by simp only[go_sem,hlen,h0,h1,h3,h4];rfl)
    exact⟨xs.length-k,kO,k,rfl,hkl,rfl,by simp only[go_sem,hlen],by simp only[go_sem,hlen,h0],by simp only[go_sem,hlen,h1],by simp only[go_sem,hlen],hJ _ _ _ hj2⟩
  ·have hil : i = xs.length := by have : ¬ (i : Int) < xs.length := by simpa using hc
                                  omega
   refine Wc.exit ?_;subst hil;exact bodyQ.normal (vs:=[]) rfl rfl (hQ _ _ (hJ _ _ _ hj))
 ·exact⟨0,rfl,kO,rfl,rfl,rfl,rfl,rfl,hJ _ _ _ h0⟩
end Go.Proofs.YtedcnhbblgmdnaaGreat.Ab
