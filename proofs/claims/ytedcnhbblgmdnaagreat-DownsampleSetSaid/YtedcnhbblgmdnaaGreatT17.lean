/- A part of the proof. -/
import Derived.Test.YtedcnhbblgmdnaaGreatT16
import Derived.KernelRfl
set_option maxHeartbeats 8000000
set_option maxRecDepth 10000
set_option linter.unusedSimpArgs false
set_option linter.unusedVariables false
namespace Go.Proofs.YtedcnhbblgmdnaaGreat.Ab
def nbs (s:List UInt8):Bool:=s.all fun b=>nb b.toNat
def digit (s:List UInt8):Bool:=match s with
 |[]=>false
 |b::_=>decide (48≤b.toNat∧b.toNat≤57)
def nameOK (s:List UInt8):Bool:=decide (1≤s.length∧s.length≤60) && !digit s&&nbs s
theorem digit_at {s:List UInt8}{b:UInt8}(h:s[0]? = some b):digit s=decide (48≤b.toNat∧b.toNat≤57):=by
 cases s with
 |nil=>simp at h
 |cons a r=>simp at h;subst h;rfl
theorem nbs_bad {s:List UInt8}{b:UInt8}{i:Nat}(h:s[i]? = some b)(hb:nb b.toNat=false):nbs s=false:=by
 rw[Bool.eq_false_iff]
 intro hs
 have:=List.all_eq_true.1 hs b (gw h)
 rw[hb] at this;cases this
theorem nbs_take {s:List UInt8}{b:UInt8}{i:Nat}(h:s[i]? = some b)(hb:nb b.toNat=true)(ht:nbs (s.take i)=true):nbs (s.take (i+1))=true:=by
 unfold nbs at *
 rw[take_snoc h,List.all_append,ht];simp[hb]
theorem pf208 (s:List UInt8):Pf E0 208 [.c (.p (.str s))] (P' (.bool (nameOK s))):=by
 refine gQ (fn:=Tryz.f208) ?_;simp only[gL,Tryz.ntmps208,Nat.reduceSub,Nat.reduceAdd];refine gY ?_;refine Wc.seqR (fun y=>(1≤s.length∧s.length≤60∧digit s=false)∧y.ds=[]∧y.e.length=33∧y.e.getD 0 .junk=P' (.str s)) ?_ ?_
 ·have bad:¬ (1≤s.length∧s.length≤60∧digit s=false)→nameOK s=false:=fun h=>by
   unfold nameOK
   rw[Bool.and_eq_false_iff,Bool.and_eq_false_iff,decide_eq_false_iff_not]
   by_cases h1:1≤s.length∧s.length≤60
   ·cases hd:digit s with
    |true=>exact .inl (.inr rfl)
    |false=>exact absurd ⟨h1.1,h1.2,hd⟩ h
   ·exact .inl (.inl h1)
  refine Wc.seq ?_
  by_cases h1:s.length<1
  ·have f1:((s.length:Int)<1)=True:=by simp only[eq_iff_iff,iff_true];omega
   apply gR (by simp only[go_sem,f1];rfl);apply gT (by simp only[go_sem,f1]);refine gY ?_
   rw[bad (by omega)]
   exact wr (gU [.tmp 2] [.c (.p (.bool false))])
  have f1:((s.length:Int)<1)=False:=by simp only[eq_iff_iff,iff_false];omega
  by_cases h2:60<s.length
  ·have f2:(60<(s.length:Int))=True:=by simp only[eq_iff_iff,iff_true];omega
   apply gR (by simp only[go_sem,f1,f2];rfl);apply gT (by simp only[go_sem,f1,f2]);refine gY ?_
   rw[bad (by omega)]
   exact wr (gU [.tmp 2] [.c (.p (.bool false))])
  have f2:(60<(s.length:Int))=False:=by simp only[eq_iff_iff,iff_false];omega
  obtain⟨b,hb⟩:∃ b,s[0]? = some b:=⟨s[0],List.getElem?_eq_getElem (by omega)⟩
  have hd:=digit_at hb
  by_cases h3:48≤b.toNat
  ·have f3:((48:Int)≤(b.toNat:Int))=True:=by simp only[eq_iff_iff,iff_true];omega
   apply gR (by simp only[go_sem,f1,f2,f3,hb,pdOfByte];rfl);refine Wc.cond (t:=decide ((b.toNat:Int)≤57)) (by simp only[go_sem,f1,f2,f3]) (fun hc=>?_) (fun hc=>?_)
   ·have h4:(b.toNat:Int)≤57:=by simpa using hc
    refine gY ?_
    rw[bad (by rw[hd];simp;omega)]
    exact wr (gU [.tmp 2] [.c (.p (.bool false))])
   ·have h4:¬ (b.toNat:Int)≤57:=by simpa using hc
    exact Wc.skip ⟨⟨by omega,by omega,by rw[hd];simp;omega⟩,rfl,rfl,rfl⟩
  ·have f3:((48:Int)≤(b.toNat:Int))=False:=by simp only[eq_iff_iff,iff_false];omega
   apply gR (by simp only[go_sem,f1,f2,f3,hb,pdOfByte];rfl);apply gX (by simp only[go_sem,f1,f2,f3]);exact Wc.skip ⟨⟨by omega,by omega,by rw[hd];simp;omega⟩,rfl,rfl,rfl⟩
 ·rintro⟨e,ds,s1⟩ ⟨⟨h1,h2,h3⟩,rfl,hlen,h0⟩
  simp only at hlen h0
  have e0:nameOK s=nbs s:=by unfold nameOK;rw[h3];simp[h1,h2]
  rw[e0]
  refine gO ?_;apply gR (by simp only[go_sem,hlen,h0];rfl);refine Wc.block (Wc.loop (fun k y=>∃ i:Nat,k=s.length-i∧i≤s.length∧y.ds=[]∧y.e.length=33∧y.e.getD 0 .junk=P' (.str s)∧y.e.getD 3 .junk=P' (pI i)∧nbs (s.take i)=true) ?_ (k:=s.length) ?_)
  ·clear hlen h0 e s1;rintro k ⟨e,ds,s1⟩ ⟨i,rfl,hi,rfl,hlen,h0,h3,hn⟩;simp only at hlen h0 h3;refine gO ?_;apply gR (by simp only[go_sem,hlen,h0,h3];rfl);refine Wc.cond (t:=decide ((i:Int)<s.length)) (by simp only[go_sem,hlen]) (fun hc=>?_) (fun hc=>?_)
   ·have hil : i < s.length := by have : (i : Int) < s.length := by simpa using hc
                                  omega
    obtain⟨b,hb⟩:=gE hil
    refine Wc.skip (Wc.seq (Wc.block (Wc.seq ?_)));refine gM fun K F=>?_;simp only[go_sem,hlen,h0,h3,hb,pdOfByte];refine gP (pf246 b.toNat) ?_;simp only[go_sem,hlen,h0,h3];apply F;clear F K;refine Wc.cond (t:=!(nb b.toNat)) (by simp only[go_sem,hlen]) (fun hc=>?_) (fun hc=>?_)
    ·have hbf:nb b.toNat=false:=by simpa using hc
     apply gS (by simp only[go_sem,hlen];rfl)
     rw[nbs_bad hb hbf]
     exact wr (gV [.tmp 2] [.c (.p (.bool false))] (by simp only[go_sem,hlen]))
    ·have hbt:nb b.toNat=true:=by simpa using hc
     refine Wc.skip ?_;apply gR (by simp only[go_sem,hlen,h0,h3,i64n i (by omega)];rfl)
     exact⟨s.length-(i+1),by omega,i+1,rfl,by omega,rfl,by simp only[go_sem,hlen],by simp only[go_sem,hlen,h0],by simp only[go_sem,hlen],nbs_take hb hbt hn⟩
   ·have hil : i = s.length := by have : ¬ (i : Int) < s.length := by simpa using hc
                                  omega
    subst hil
    rw[List.take_length] at hn
    refine Wc.exit (Wc.seq ?_);apply gR (by simp only[go_sem,hlen];rfl)
    rw[hn]
    exact wr (gV [.tmp 2] [.c (.p (.bool true))] (by simp only[go_sem,hlen]))
  ·exact⟨0,rfl,by omega,rfl,by simp only[go_sem,hlen],by simp only[go_sem,hlen,h0],by simp only[go_sem,hlen];try rfl,rfl⟩
theorem pf149 (s:List UInt8)(hs:s.length<2^60):Pf E0 149 [.c (.p (.str s))] (P' (.bool (nameOK s))):=by
 refine gQ (fn:=Tryz.f149) ?_;simp only[gL,Tryz.ntmps149,Nat.reduceSub,Nat.reduceAdd];refine gY ?_;refine Wc.seqR (fun y=>nbs s=true∧y.ds=[]∧y.e.length=33∧y.e.getD 0 .junk=P' (.str s)) ?_ ?_
 ·refine gY ?_;refine Wc.block (Wc.loop (fun k y=>∃ i:Nat,k=s.length-i∧i≤s.length∧y.ds=[]∧y.e.length=33∧y.e.getD 0 .junk=P' (.str s)∧y.e.getD 3 .junk=P' (pI i)∧nbs (s.take i)=true) ?_ (k:=s.length) ?_)
  ·rintro k ⟨e,ds,s1⟩ ⟨i,rfl,hi,rfl,hlen,h0,h3,hn⟩;simp only at hlen h0 h3;refine gO ?_;apply gR (by simp only[go_sem,hlen,h0,h3];rfl);refine Wc.cond (t:=decide ((i:Int)<s.length)) (by simp only[go_sem,hlen]) (fun hc=>?_) (fun hc=>?_)
   ·have hil : i < s.length := by have : (i : Int) < s.length := by simpa using hc
                                  omega
    obtain⟨b,hb⟩:=gE hil
    refine Wc.skip (Wc.seq (Wc.block (Wc.seq ?_)));refine gM fun K F=>?_;simp only[go_sem,hlen,h0,h3,hb,pdOfByte];refine gP (pf220 b.toNat) ?_;simp only[go_sem,hlen,h0,h3];apply F;clear F K;refine Wc.cond (t:=!(nb b.toNat)) (by simp only[go_sem,hlen]) (fun hc=>?_) (fun hc=>?_)
    ·have hbf:nb b.toNat=false:=by simpa using hc
     apply gS (by simp only[go_sem,hlen];rfl)
     have e:nameOK s=false:=by unfold nameOK;rw[nbs_bad hb hbf];simp
     rw[e]
     exact wr (gV [.tmp 2] [.c (.p (.bool false))] (by simp only[go_sem,hlen]))
    ·have hbt:nb b.toNat=true:=by simpa using hc
     refine Wc.skip ?_;apply gR (by simp only[go_sem,hlen,h0,h3,i64n i (by omega)];rfl)
     exact⟨s.length-(i+1),by omega,i+1,rfl,by omega,rfl,by simp only[go_sem,hlen],by simp only[go_sem,hlen,h0],by simp only[go_sem,hlen],nbs_take hb hbt hn⟩
   ·have hil : i = s.length := by have : ¬ (i : Int) < s.length := by simpa using hc
                                  omega
    subst hil
    rw[List.take_length] at hn
    exact Wc.exit ⟨hn,rfl,by simp only[go_sem,hlen],by simp only[go_sem,hlen,h0]⟩
  ·exact⟨0,rfl,by omega,rfl,rfl,rfl,rfl,rfl⟩
 ·rintro⟨e,ds,s1⟩ ⟨hn,rfl,hlen,h0⟩
  simp only at hlen h0
  have e0:nameOK s=(decide (1≤s.length∧s.length≤60) && !digit s):=by unfold nameOK;rw[hn];simp
  rw[e0]
  refine Wc.seq ?_
  by_cases h1:s.length<1
  ·have f1:(0<(s.length:Int))=False:=by simp only[eq_iff_iff,iff_false];omega
   apply gR (by simp only[go_sem,hlen,h0,f1];rfl)
   rw[show(decide (1≤s.length∧s.length≤60) && !digit s)=false by simp;omega]
   exact wr (gV [.tmp 2] [.c (.p (.bool false))] (by simp only[go_sem,hlen,f1]))
  have f1:(0<(s.length:Int))=True:=by simp only[eq_iff_iff,iff_true];omega
  by_cases h2:60<s.length
  ·have f2:((s.length:Int)≤60)=False:=by simp only[eq_iff_iff,iff_false];omega
   apply gR (by simp only[go_sem,hlen,h0,f1,f2];rfl)
   rw[show(decide (1≤s.length∧s.length≤60) && !digit s)=false by simp;omega]
   exact wr (gV [.tmp 2] [.c (.p (.bool false))] (by simp only[go_sem,hlen,f1,f2]))
  have f2:((s.length:Int)≤60)=True:=by simp only[eq_iff_iff,iff_true];omega
  obtain⟨b,hb⟩:∃ b,s[0]? = some b:=⟨s[0],List.getElem?_eq_getElem (by omega)⟩
  have hd:=digit_at hb
  have e1:(decide (1≤s.length∧s.length≤60) && !digit s) = !decide (48≤b.toNat∧b.toNat≤57):=by rw[hd,decide_eq_true (by omega),Bool.true_and]
  rw[e1]
  by_cases h3:b.toNat<48
  ·have f3:((b.toNat:Int)<48)=True:=by simp only[eq_iff_iff,iff_true];omega
   apply gR (by simp only[go_sem,hlen,h0,f1,f2,f3,hb,pdOfByte];rfl)
   rw[show(!decide (48≤b.toNat∧b.toNat≤57))=true by simp;omega]
   exact wr (gV [.tmp 2] [.c (.p (.bool true))] (by simp only[go_sem,hlen,f1,f2,f3]))
  ·have f3:((b.toNat:Int)<48)=False:=by simp only[eq_iff_iff,iff_false];omega
   apply gR (by simp only[go_sem,hlen,h0,f1,f2,f3,hb,pdOfByte];rfl)
   rw[show(!decide (48≤b.toNat∧b.toNat≤57))=decide ((57:Int)<b.toNat) by rw[Bool.eq_iff_iff];simp;omega]
   exact wr (gV [.tmp 2] [.c (.p (.bool (decide ((57:Int)<b.toNat))))] (by simp only[go_sem,hlen,f1,f2,f3]))
abbrev Lb:=List UInt8×List UInt8
abbrev lbP (x:Lb):List Pd:=[.str x.1,.str x.2]
def leB (x y:List UInt8):Bool:=Op.bytesLess x y || x==y
def lck:Option (List UInt8)→List Lb→Int
 |_,[]=>0
 |p,x::r=>if nameOK x.1=false then 5 else if x.2=[] then 1 else if 200<x.2.length then 4 else match p with
  |some y=>if leB x.1 y=true then 9 else lck (some x.1) r
  |none=>lck (some x.1) r
def lckA (l:List Lb):Int:=if 16<l.length then 4 else lck none l
def prevL (l:List Lb)(i:Nat):Option (List UInt8):=if i=0 then none else (l[i-1]?).map (·.1)
theorem lck_step {l:List Lb}{i:Nat}{x:Lb}(h:l[i]? = some x):lck (prevL l i) (l.drop i)=if nameOK x.1=false then 5 else if x.2=[] then 1 else if 200<x.2.length then 4 else match prevL l i with
  |some y=>if leB x.1 y=true then 9 else lck (prevL l (i+1)) (l.drop (i+1))
  |none=>lck (prevL l (i+1)) (l.drop (i+1)):=by
 have hi:=(List.getElem?_eq_some_iff.1 h).1
 have hx:=(List.getElem?_eq_some_iff.1 h).2
 have hp:prevL l (i+1)=some x.1:=by simp[prevL,h]
 rw[List.drop_eq_getElem_cons hi,hx,hp]
 cases prevL l i<;>rfl
theorem lck_end (p:Option (List UInt8)):lck p []=0:=by cases p<;>rfl
theorem pf134 (l:List Lb)(hl:l.length<2^40)(hs:∀ x∈l,x.1.length<2^50∧x.2.length<2^50):Pf E0 134 [.c (.p (.lst l.length (l.flatMap lbP)))] (P' (pI (lckA l))):=by
 have hfl:(l.flatMap lbP).length=l.length*2:=flat_len (k:=2) (fun _=>rfl) l
 refine gQ (fn:=Tryz.f134) ?_;simp only[gL,Tryz.ntmps134,Nat.reduceSub,Nat.reduceAdd];refine gY ?_;refine gO ?_;refine gZ ?_;refine Wc.cond (t:=decide ((16:Int)<l.length)) (by simp only[go_sem]) (fun hc=>?_) (fun hc=>?_)
 ·have hc' : 16 < l.length := by have : (16 : Int) < l.length := by simpa using hc
                                 omega
  refine gY ?_
  have e:lckA l=4:=by unfold lckA;rw[if_pos hc']
  rw[e]
  exact wr (gU [.tmp 2] [.c (.p (pI 4))])
 have hc' : ¬ 16 < l.length := by have : ¬ (16 : Int) < l.length := by simpa using hc
                                  omega
 have e0:lckA l=lck (prevL l 0) (l.drop 0):=by unfold lckA;rw[if_neg hc'];rfl
 refine Wc.skip (Wc.seqR (fun y=>lckA l=0∧y.ds=[]∧y.e.length=44) ?_ ?_)
 ·refine gY ?_;refine Wc.block (Wc.loop (fun k y=>∃ i:Nat,k=l.length-i∧i≤l.length∧y.ds=[]∧y.e.length=44∧y.e.getD 0 .junk=P' (.lst l.length (l.flatMap lbP))∧y.e.getD 8 .junk=P' (.lst l.length (l.flatMap lbP))∧y.e.getD 9 .junk=P' (pI l.length)∧y.e.getD 10 .junk=P' (pI i)∧lckA l=lck (prevL l i) (l.drop i)) ?_ (k:=l.length) ?_)
  ·rintro k ⟨e,ds,s1⟩ ⟨i,rfl,hi,rfl,hlen,h0,h8,h9,h10,hch⟩;simp only at hlen h0 h8 h9 h10;apply gS (by simp only[go_sem,hlen,h0,h8,h9,h10];rfl);refine Wc.seq (Wc.cond (t:=decide ((i:Int)<l.length)) (by simp only[go_sem,hlen]) (fun hc=>?_) (fun hc=>?_))
   ·have hil : i < l.length := by have : (i : Int) < l.length := by simpa using hc
                                  omega
    obtain⟨x,hx⟩:=gE hil
    have hxs:=hs x (gw hx)
    have hix:=ixA ti22 rfl ti117 (j:=i) (m:=l.length) (cs:=l.flatMap lbP) hil hfl (by decide)
    have hca:=rpA (off:=i*2) (drop_flat (f:=lbP) (k:=2) (fun _=>rfl) hx) (by rw[hfl];omega)
    rw[lck_step hx] at hch
    refine Wc.skip (Wc.seq (Wc.block (Wc.seq ?_)));apply gR (by simp only[go_sem,hlen,h0,h8,h9,h10,hix,hca];rfl);refine Wc.block (Wc.seq ?_);refine gM fun K F=>?_;simp only[go_sem,hlen,h0,h8,h9,h10];refine gP (pf208 x.1) ?_;simp only[go_sem,hlen,h0,h8,h9,h10];apply F;clear F K;refine Wc.cond (t:=!(nameOK x.1)) (by simp only[go_sem,hlen]) (fun hc=>?_) (fun hc=>?_)
    ·have hn:nameOK x.1=false:=by simpa using hc
     rw[if_pos hn] at hch
     apply gS (by simp only[go_sem,hlen];rfl)
     rw[hch]
     exact wr (gV [.tmp 2] [.c (.p (pI 5))] (by simp only[go_sem,hlen]))
    have hn:¬ nameOK x.1=false:=by simpa using hc
    rw[if_neg hn] at hch
    apply gS (by simp only[go_sem,hlen,h0,h8,h9,h10];rfl);refine Wc.cond (t:=(x.2==[])) (by simp only[go_sem,hlen]) (fun hc=>?_) (fun hc=>?_)
    ·have hv:x.2=[]:=by simpa using hc
     rw[if_pos hv] at hch
     apply gS (by simp only[go_sem,hlen];rfl)
     rw[hch]
     exact wr (gV [.tmp 2] [.c (.p (pI 1))] (by simp only[go_sem,hlen]))
    have hv:¬ x.2=[]:=by simpa using hc
    rw[if_neg hv] at hch
    apply gS (by simp only[go_sem,hlen,h0,h8,h9,h10];rfl);refine Wc.cond (t:=decide ((200:Int)<x.2.length)) (by simp only[go_sem,hlen]) (fun hc=>?_) (fun hc=>?_)
    ·have hv2 : 200 < x.2.length := by have : (200 : Int) < x.2.length := by simpa using hc
                                       omega
     rw[if_pos hv2] at hch
     apply gS (by simp only[go_sem,hlen];rfl)
     rw[hch]
     exact wr (gV [.tmp 2] [.c (.p (pI 4))] (by simp only[go_sem,hlen]))
    have hv2 : ¬ 200 < x.2.length := by have : ¬ (200 : Int) < x.2.length := by simpa using hc
                                        omega
    rw[if_neg hv2] at hch
    refine Wc.seq ?_
    by_cases hi0:0<i
    ·obtain⟨y,hy⟩:∃ y,l[i-1]? = some y:=⟨l[i-1],List.getElem?_eq_getElem (by omega)⟩
     have hiy:=ixA ti22 rfl ti117 (j:=i-1) (m:=l.length) (cs:=l.flatMap lbP) (by omega) hfl (by decide)
     have hcb:=rpA (off:=(i-1)*2) (drop_flat (f:=lbP) (k:=2) (fun _=>rfl) hy) (by rw[hfl];omega)
     have e1:IntKind.i64.wrap ((i:Int)-1)=((i-1:Nat):Int):=by rw[wi64];omega
     have hd:(0<(i:Int))=True:=by simp;omega
     have hpr:prevL l i=some y.1:=by unfold prevL;rw[if_neg (by omega),hy];rfl
     rw[hpr] at hch
     simp only at hch;refine Wc.regD fun K F=>?_;simp only[go_sem,hlen,h0,h8,h9,h10,hiy,hcb,e1,hd];apply F;clear F K;refine Wc.cond (t:=leB x.1 y.1) (by simp only[go_sem,hlen,hd];try rfl) (fun hc=>?_) (fun hc=>?_)
     ·rw[if_pos hc] at hch
      apply gS (by simp only[go_sem,hlen];rfl)
      rw[hch]
      exact wr (gV [.tmp 2] [.c (.p (pI 9))] (by simp only[go_sem,hlen]))
     ·rw[if_neg (by rw[hc];decide)] at hch
      refine Wc.skip ?_;apply gR (by simp only[go_sem,hlen,h0,h8,h9,h10,i64n i (by omega)];rfl)
      exact⟨l.length-(i+1),by omega,i+1,rfl,by omega,rfl,by simp only[go_sem,hlen],by simp only[go_sem,hlen,h0],by simp only[go_sem,hlen,h8],by simp only[go_sem,hlen,h9],by simp only[go_sem,hlen],hch⟩
    ·have hd:(0<(i:Int))=False:=by simp;omega
     have hpr:prevL l i=none:=by unfold prevL;rw[if_pos (by omega)]
     rw[hpr] at hch
     simp only at hch;refine Wc.regD fun K F=>?_;simp only[go_sem,hlen,h0,h8,h9,h10,hd];apply F;clear F K;refine Wc.cond (t:=false) (by simp only[go_sem,hlen,hd]) (fun hc=>by cases hc) (fun hc=>?_);refine Wc.skip ?_;apply gR (by simp only[go_sem,hlen,h0,h8,h9,h10,i64n i (by omega)];rfl)
     exact⟨l.length-(i+1),by omega,i+1,rfl,by omega,rfl,by simp only[go_sem,hlen],by simp only[go_sem,hlen,h0],by simp only[go_sem,hlen,h8],by simp only[go_sem,hlen,h9],by simp only[go_sem,hlen],hch⟩
   ·have hil : i = l.length := by have : ¬ (i : Int) < l.length := by simpa using hc
                                  omega
    rw[hil,List.drop_length,lck_end] at hch
    exact Wc.exit ⟨hch,rfl,by simp only[go_sem,hlen]⟩
  ·exact⟨0,rfl,by omega,rfl,rfl,rfl,rfl,rfl,rfl,e0⟩
 ·rintro⟨e,ds,s1⟩ ⟨hch,rfl,hlen⟩
  simp only at hlen
  rw[hch]
  apply gS (by simp only[go_sem,hlen];rfl);exact wr (gV [.tmp 2] [.c (.p (pI 0))] (by simp only[go_sem,hlen]))
theorem pf92 (l:List Lb)(hl:l.length<2^40)(hs:∀ x∈l,x.1.length<2^50∧x.2.length<2^50):Pf E0 92 [.c (.p (.lst l.length (l.flatMap lbP)))] (P' (pI (lckA l))):=by
 have hfl:(l.flatMap lbP).length=l.length*2:=flat_len (k:=2) (fun _=>rfl) l
 refine gQ (fn:=Tryz.f92) ?_;simp only[gL,Tryz.ntmps92,Nat.reduceSub,Nat.reduceAdd];refine gY ?_;refine gO ?_;refine gZ ?_;refine Wc.cond (t:=decide ((16:Int)<l.length)) (by simp only[go_sem]) (fun hc=>?_) (fun hc=>?_)
 ·have hc' : 16 < l.length := by have : (16 : Int) < l.length := by simpa using hc
                                 omega
  refine gY ?_
  have e:lckA l=4:=by unfold lckA;rw[if_pos hc']
  rw[e]
  exact wr (gU [.tmp 2] [.c (.p (pI 4))])
 have hc' : ¬ 16 < l.length := by have : ¬ (16 : Int) < l.length := by simpa using hc
                                  omega
 have e0:lckA l=lck (prevL l 0) (l.drop 0):=by unfold lckA;rw[if_neg hc'];rfl
 refine Wc.skip (Wc.seqR (fun y=>lckA l=0∧y.ds=[]∧y.e.length=49) ?_ ?_)
 ·refine gY ?_;refine Wc.block (Wc.loop (fun k y=>∃ i:Nat,k=l.length-i∧i≤l.length∧y.ds=[]∧y.e.length=49∧y.e.getD 0 .junk=P' (.lst l.length (l.flatMap lbP))∧y.e.getD 3 .junk=P' (pI i)∧lckA l=lck (prevL l i) (l.drop i)) ?_ (k:=l.length) ?_)
  ·rintro k ⟨e,ds,s1⟩ ⟨i,rfl,hi,rfl,hlen,h0,h3,hch⟩;simp only at hlen h0 h3;refine gO ?_;apply gR (by simp only[go_sem,hlen,h0,h3];rfl);refine Wc.cond (t:=decide ((i:Int)<l.length)) (by simp only[go_sem,hlen]) (fun hc=>?_) (fun hc=>?_)
   ·have hil : i < l.length := by have : (i : Int) < l.length := by simpa using hc
                                  omega
    obtain⟨x,hx⟩:=gE hil
    have hxs:=hs x (gw hx)
    have hix:=ixA ti22 rfl ti117 (j:=i) (m:=l.length) (cs:=l.flatMap lbP) hil hfl (by decide)
    have hca:=rpA (off:=i*2) (drop_flat (f:=lbP) (k:=2) (fun _=>rfl) hx) (by rw[hfl];omega)
    have hcc:=rpA (off:=i*2+1) (cs:=l.flatMap lbP) (pre:=[.str x.2]) (rest:=(l.drop (i+1)).flatMap lbP) (by rw[← List.drop_drop,drop_flat (f:=lbP) (k:=2) (fun _=>rfl) hx];rfl) (by rw[hfl];omega)
    rw[lck_step hx] at hch
    refine Wc.skip (Wc.seq (Wc.block (Wc.seq (Wc.seq ?_))));refine gM fun K F=>?_;simp only[go_sem,hlen,h0,h3,hix,hca];refine gP (pf149 x.1 (by omega)) ?_;simp only[go_sem,hlen,h0,h3];apply F;clear F K;refine Wc.cond (t:=!(nameOK x.1)) (by simp only[go_sem,hlen]) (fun hc=>?_) (fun hc=>?_)
    ·have hn:nameOK x.1=false:=by simpa using hc
     rw[if_pos hn] at hch
     apply gS (by simp only[go_sem,hlen];rfl)
     rw[hch]
     exact wr (gV [.tmp 2] [.c (.p (pI 5))] (by simp only[go_sem,hlen]))
    have hn:¬ nameOK x.1=false:=by simpa using hc
    rw[if_neg hn] at hch
    refine Wc.skip (Wc.seq (Wc.seq ?_));apply gR (by simp only[go_sem,hlen,h0,h3,hix,hcc];rfl);refine Wc.cond (t:=(x.2==[])) (by simp only[go_sem,hlen]) (fun hc=>?_) (fun hc=>?_)
    ·have hv:x.2=[]:=by simpa using hc
     rw[if_pos hv] at hch
     apply gS (by simp only[go_sem,hlen];rfl)
     rw[hch]
     exact wr (gV [.tmp 2] [.c (.p (pI 1))] (by simp only[go_sem,hlen]))
    have hv:¬ x.2=[]:=by simpa using hc
    rw[if_neg hv] at hch
    refine Wc.skip (Wc.seq (Wc.seq ?_));apply gR (by simp only[go_sem,hlen,h0,h3,hix,hcc];rfl);refine Wc.cond (t:=decide ((200:Int)<x.2.length)) (by simp only[go_sem,hlen]) (fun hc=>?_) (fun hc=>?_)
    ·have hv2 : 200 < x.2.length := by have : (200 : Int) < x.2.length := by simpa using hc
                                       omega
     rw[if_pos hv2] at hch
     apply gS (by simp only[go_sem,hlen];rfl)
     rw[hch]
     exact wr (gV [.tmp 2] [.c (.p (pI 4))] (by simp only[go_sem,hlen]))
    have hv2 : ¬ 200 < x.2.length := by have : ¬ (200 : Int) < x.2.length := by simpa using hc
                                        omega
    rw[if_neg hv2] at hch
    refine Wc.skip (Wc.seq ?_)
    by_cases hi0:0<i
    ·obtain⟨y,hy⟩:∃ y,l[i-1]? = some y:=⟨l[i-1],List.getElem?_eq_getElem (by omega)⟩
     have hiy:=ixA ti22 rfl ti117 (j:=i-1) (m:=l.length) (cs:=l.flatMap lbP) (by omega) hfl (by decide)
     have hcb:=rpA (off:=(i-1)*2) (drop_flat (f:=lbP) (k:=2) (fun _=>rfl) hy) (by rw[hfl];omega)
     have e1:IntKind.i64.wrap ((i:Int)-1)=((i-1:Nat):Int):=by rw[wi64];omega
     have hd:(0<(i:Int))=True:=by simp;omega
     have hpr:prevL l i=some y.1:=by unfold prevL;rw[if_neg (by omega),hy];rfl
     rw[hpr] at hch
     simp only at hch;refine Wc.regD fun K F=>?_;simp only[go_sem,hlen,h0,h3,hix,hca,hiy,hcb,e1,hd];apply F;clear F K;refine Wc.cond (t:=leB x.1 y.1) (by simp only[go_sem,hlen,hd];try rfl) (fun hc=>?_) (fun hc=>?_)
     ·rw[if_pos hc] at hch
      apply gS (by simp only[go_sem,hlen];rfl)
      rw[hch]
      exact wr (gV [.tmp 2] [.c (.p (pI 9))] (by simp only[go_sem,hlen]))
     ·rw[if_neg (by rw[hc];decide)] at hch
      refine Wc.skip ?_;apply gR (by simp only[go_sem,hlen,h0,h3,i64n i (by omega)];rfl)
      exact⟨l.length-(i+1),by omega,i+1,rfl,by omega,rfl,by simp only[go_sem,hlen],by simp only[go_sem,hlen,h0],by simp only[go_sem,hlen],hch⟩
    ·have hd:(0<(i:Int))=False:=by simp;omega
     have hpr:prevL l i=none:=by unfold prevL;rw[if_pos (by omega)]
     rw[hpr] at hch
     simp only at hch;refine Wc.regD fun K F=>?_;simp only[go_sem,hlen,h0,h3,hd];apply F;clear F K;refine Wc.cond (t:=false) (by simp only[go_sem,hlen,hd]) (fun hc=>by cases hc) (fun hc=>?_);refine Wc.skip ?_;apply gR (by simp only[go_sem,hlen,h0,h3,i64n i (by omega)];rfl)
     exact⟨l.length-(i+1),by omega,i+1,rfl,by omega,rfl,by simp only[go_sem,hlen],by simp only[go_sem,hlen,h0],by simp only[go_sem,hlen],hch⟩
   ·have hil : i = l.length := by have : ¬ (i : Int) < l.length := by simpa using hc
                                  omega
    rw[hil,List.drop_length,lck_end] at hch
    exact Wc.exit ⟨hch,rfl,by simp only[go_sem,hlen]⟩
  ·exact⟨0,rfl,by omega,rfl,rfl,rfl,rfl,e0⟩
 ·rintro⟨e,ds,s1⟩ ⟨hch,rfl,hlen⟩
  simp only at hlen
  rw[hch]
  apply gS (by simp only[go_sem,hlen];rfl);exact wr (gV [.tmp 2] [.c (.p (pI 0))] (by simp only[go_sem,hlen]))
def smpOK (x:I2):Bool:=isT x.1&&isVl x.2
theorem pf209 (x:I2):Pf E0 209 [.agg ((p2 x).map .p)] (P' (.bool (smpOK x))):=by
 refine gQ (fn:=Tryz.f209) ?_;simp only[gL,Tryz.ntmps209,Nat.reduceSub,Nat.reduceAdd];refine gY ?_;refine Wc.seq ?_
 by_cases h1:1≤x.1
 ·by_cases h2:x.1≤1099511627776
  ·by_cases h3 : -1099511627776≤x.2
   ·apply gR (by simp only[go_sem,h1,h2,h3];rfl);exact wr (gV [.tmp 2] [.c (.p (.bool (smpOK x)))] (by simp only[go_sem,smpOK,isT,isVl,h1,h2,h3]))
   ·apply gR (by simp only[go_sem,h1,h2,h3];rfl);exact wr (gV [.tmp 2] [.c (.p (.bool (smpOK x)))] (by simp only[go_sem,smpOK,isT,isVl,h1,h2,h3]))
  ·apply gR (by simp only[go_sem,h1,h2];rfl);exact wr (gV [.tmp 2] [.c (.p (.bool (smpOK x)))] (by simp only[go_sem,smpOK,isT,isVl,h1,h2]))
 ·apply gR (by simp only[go_sem,h1];rfl);exact wr (gV [.tmp 2] [.c (.p (.bool (smpOK x)))] (by simp only[go_sem,smpOK,isT,isVl,h1]))
theorem pf150 (x:I2):Pf E0 150 [.agg ((p2 x).map .p)] (P' (.bool (smpOK x))):=by
 refine gQ (fn:=Tryz.f150) ?_;simp only[gL,Tryz.ntmps150,Nat.reduceSub,Nat.reduceAdd];refine gY ?_;refine Wc.seq ?_
 by_cases h1:1≤x.1
 ·by_cases h2:x.1≤1099511627776
  ·by_cases h3 : -1099511627776≤x.2
   ·apply gR (by simp only[go_sem,h1,h2,h3];rfl);exact wr (gV [.tmp 2] [.c (.p (.bool (smpOK x)))] (by simp only[go_sem,smpOK,isT,isVl,h1,h2,h3]))
   ·apply gR (by simp only[go_sem,h1,h2,h3];rfl);exact wr (gV [.tmp 2] [.c (.p (.bool (smpOK x)))] (by simp only[go_sem,smpOK,isT,isVl,h1,h2,h3]))
  ·apply gR (by simp only[go_sem,h1,h2];rfl);exact wr (gV [.tmp 2] [.c (.p (.bool (smpOK x)))] (by simp only[go_sem,smpOK,isT,isVl,h1,h2]))
 ·apply gR (by simp only[go_sem,h1];rfl);exact wr (gV [.tmp 2] [.c (.p (.bool (smpOK x)))] (by simp only[go_sem,smpOK,isT,isVl,h1]))
def sck (k:Int):Option Int→List I2→Int
 |_,[]=>0
 |p,x::r=>if smpOK x=false∨(k=2∧x.2<0) then 2 else match p with
  |some y=>if x.1≤y then 9 else sck k (some x.1) r
  |none=>sck k (some x.1) r
def sckA (k:Int)(l:List I2):Int:=if k≠1∧k≠2 then 8 else if 2000<l.length then 4 else sck k none l
def prevT (l:List I2)(i:Nat):Option Int:=if i=0 then none else (l[i-1]?).map (·.1)
theorem sck_step {k:Int}{l:List I2}{i:Nat}{x:I2}(h:l[i]? = some x):sck k (prevT l i) (l.drop i)=if smpOK x=false∨(k=2∧x.2<0) then 2 else match prevT l i with
  |some y=>if x.1≤y then 9 else sck k (prevT l (i+1)) (l.drop (i+1))
  |none=>sck k (prevT l (i+1)) (l.drop (i+1)):=by
 have hi:=(List.getElem?_eq_some_iff.1 h).1
 have hx:=(List.getElem?_eq_some_iff.1 h).2
 have hp:prevT l (i+1)=some x.1:=by simp[prevT,h]
 rw[List.drop_eq_getElem_cons hi,hx,hp]
 cases prevT l i<;>rfl
theorem sck_end (k:Int)(p:Option Int):sck k p []=0:=by cases p<;>rfl
def sB (k:Int)(x:I2):Bool:=!(smpOK x) || ((k==2)&&decide (x.2<0))
theorem sB_iff {k:Int}{x:I2}:sB k x=true ↔ (smpOK x=false∨(k=2∧x.2<0)):=by simp[sB]
theorem pf135 (k:Int)(l:List I2)(hl:l.length<2^40):Pf E0 135 [.c (.p (pI k)),.c (.p (.lst l.length (l.flatMap p2)))] (P' (pI (sckA k l))):=by
 have hfl:(l.flatMap p2).length=l.length*2:=flat_len (k:=2) (fun _=>rfl) l
 refine gQ (fn:=Tryz.f135) ?_;simp only[gL,Tryz.ntmps135,Nat.reduceSub,Nat.reduceAdd];refine gY ?_;refine Wc.seqR (fun y=>(k=1∨k=2)∧y.ds=[]∧y.e.length=51∧y.e.getD 0 .junk=P' (pI k)∧y.e.getD 1 .junk=P' (.lst l.length (l.flatMap p2))) ?_ ?_
 ·refine Wc.seq ?_
  by_cases h1:k=1
  ·have b1:(k != 1)=false:=by simpa using h1
   apply gR (by simp only[go_sem,b1];rfl);refine Wc.cond (t:=false) (by simp only[go_sem,b1]) (fun hc=>by cases hc) (fun _=>Wc.skip ⟨.inl h1,rfl,rfl,rfl,rfl⟩)
  ·have b1:(k != 1)=true:=by simpa using h1
   apply gR (by simp only[go_sem,b1];rfl);refine Wc.cond (t:=(k != 2)) (by simp only[go_sem,b1]) (fun hc=>?_) (fun hc=>?_)
   ·have h2:k≠2:=by simpa using hc
    refine gY ?_
    have e:sckA k l=8:=by unfold sckA;rw[if_pos ⟨h1,h2⟩]
    rw[e]
    exact wr (gU [.tmp 4] [.c (.p (pI 8))])
   ·have h2:k=2:=by simpa using hc
    exact Wc.skip ⟨.inr h2,rfl,rfl,rfl,rfl⟩
 rintro⟨e,ds,s1⟩ ⟨hk,rfl,hlen,h0,h1⟩
 simp only at hlen h0 h1
 have eK:sckA k l=if 2000<l.length then 4 else sck k none l:=by unfold sckA;rw[if_neg (by omega)]
 refine gO ?_;apply gR (by simp only[go_sem,hlen,h0,h1];rfl);refine Wc.cond (t:=decide ((2000:Int)<l.length)) (by simp only[go_sem,hlen]) (fun hc=>?_) (fun hc=>?_)
 ·have hc' : 2000 < l.length := by have : (2000 : Int) < l.length := by simpa using hc
                                   omega
  apply gS (by simp only[go_sem,hlen];rfl)
  rw[eK,if_pos hc']
  exact wr (gV [.tmp 4] [.c (.p (pI 4))] (by simp only[go_sem,hlen]))
 have hc' : ¬ 2000 < l.length := by have : ¬ (2000 : Int) < l.length := by simpa using hc
                                    omega
 rw[if_neg hc'] at eK
 have e0:sckA k l=sck k (prevT l 0) (l.drop 0):=eK
 refine Wc.skip (Wc.seqR (fun y=>sckA k l=0∧y.ds=[]∧y.e.length=51) ?_ ?_)
 ·apply gS (by simp only[go_sem,hlen,h0,h1];rfl);refine Wc.block (Wc.loop (fun q y=>∃ i:Nat,q=l.length-i∧i≤l.length∧y.ds=[]∧y.e.length=51∧y.e.getD 0 .junk=P' (pI k)∧y.e.getD 1 .junk=P' (.lst l.length (l.flatMap p2))∧y.e.getD 16 .junk=P' (.lst l.length (l.flatMap p2))∧y.e.getD 17 .junk=P' (pI l.length)∧y.e.getD 18 .junk=P' (pI i)∧sckA k l=sck k (prevT l i) (l.drop i)) ?_ (k:=l.length) ?_)
  ·clear hlen h0 h1 e s1;rintro q ⟨e,ds,s1⟩ ⟨i,rfl,hi,rfl,hlen,h0,h1,h16,h17,h18,hch⟩;simp only at hlen h0 h1 h16 h17 h18;apply gS (by simp only[go_sem,hlen,h0,h1,h16,h17,h18];rfl);refine Wc.seq (Wc.cond (t:=decide ((i:Int)<l.length)) (by simp only[go_sem,hlen]) (fun hc=>?_) (fun hc=>?_))
   ·have hil : i < l.length := by have : (i : Int) < l.length := by simpa using hc
                                  omega
    obtain⟨x,hx⟩:=gE hil
    have hix:=ixA ti23 rfl ti39 (j:=i) (m:=l.length) (cs:=l.flatMap p2) hil hfl (by decide)
    have hca:=rpA (off:=i*2) (drop_flat (f:=p2) (k:=2) (fun _=>rfl) hx) (by rw[hfl];omega)
    rw[sck_step hx] at hch
    have bad:(smpOK x=false∨(k=2∧x.2<0))→sckA k l=2:=fun h=>by rw[hch,if_pos h]
    refine Wc.skip (Wc.seq (Wc.block (Wc.seq ?_)));apply gR (by simp only[go_sem,hlen,h0,h1,h16,h17,h18,hix,hca];rfl);refine Wc.block (Wc.seqA (fun y=>y.ds=[]∧y.e.length=51∧y.e.getD 0 .junk=P' (pI k)∧y.e.getD 1 .junk=P' (.lst l.length (l.flatMap p2))∧y.e.getD 16 .junk=P' (.lst l.length (l.flatMap p2))∧y.e.getD 17 .junk=P' (pI l.length)∧y.e.getD 18 .junk=P' (pI i)∧y.e.getD 5 .junk=P' (pI i)∧y.e.getD 6 .junk=.v (.c (.ref (s1.nx+4) 0))∧y.s.get (s1.nx+4)=some (.cells ((p2 x).map .p) false)∧y.e.getD 23 .junk=P' (.bool (sB k x))) ?_ ?_)
    ·refine gM fun K F=>?_;simp only[go_sem,hlen,h0,h1,h16,h17,h18];refine gP (pf209 x) ?_;cases hsm:smpOK x with
     |false =>
      have hk2:True:=trivial
      simp only[go_sem,hlen,h0,h1,h16,h17,h18];apply F;clear F K
      exact⟨rfl,rfl,by simp only[go_sem,hlen],by simp only[go_sem,hlen,h0],by simp only[go_sem,hlen,h1],by simp only[go_sem,hlen,h16],by simp only[go_sem,hlen,h17],by simp only[go_sem,hlen,h18],by simp only[go_sem,hlen],by simp only[go_sem,hlen],by simp only[go_sem],by simp only[go_sem,hlen,sB,hsm,hk2,Bool.true_or,Bool.false_or,Bool.or_self]⟩
     |true =>
      by_cases hk3:k=2
      ·have hk2:(k==2)=true:=by simpa using hk3
       simp only[go_sem,hlen,h0,h1,h16,h17,h18,hk2];apply F;clear F K
       exact⟨rfl,rfl,by simp only[go_sem,hlen],by simp only[go_sem,hlen,h0],by simp only[go_sem,hlen,h1],by simp only[go_sem,hlen,h16],by simp only[go_sem,hlen,h17],by simp only[go_sem,hlen,h18],by simp only[go_sem,hlen],by simp only[go_sem,hlen],by simp only[go_sem],by simp only[go_sem,hlen,sB,hsm,hk2,Bool.true_or,Bool.false_or,Bool.or_self]⟩
      ·have hk2:(k==2)=false:=by simpa using hk3
       simp only[go_sem,hlen,h0,h1,h16,h17,h18,hk2];apply F;clear F K
       exact⟨rfl,rfl,by simp only[go_sem,hlen],by simp only[go_sem,hlen,h0],by simp only[go_sem,hlen,h1],by simp only[go_sem,hlen,h16],by simp only[go_sem,hlen,h17],by simp only[go_sem,hlen,h18],by simp only[go_sem,hlen],by simp only[go_sem,hlen],by simp only[go_sem],by simp only[go_sem,hlen,sB,hsm,hk2,Bool.true_or,Bool.false_or,Bool.or_self]⟩
    ·rintro⟨e,ds,s2⟩ ⟨rfl,hlen,h0,h1,h16,h17,h18,h5,h6,hg,h23⟩
     simp only at hlen h0 h1 h16 h17 h18 h5 h6 hg h23;refine Wc.cond (t:=sB k x) (by simp only[go_sem,h23]) (fun hc=>?_) (fun hc=>?_)
     ·apply gS (by simp only[go_sem,hlen];rfl)
      rw[bad (sB_iff.1 hc)]
      exact wr (gV [.tmp 4] [.c (.p (pI 2))] (by simp only[go_sem,hlen]))
     rw[if_neg (fun h=>by rw[sB_iff.2 h] at hc;cases hc)] at hch
     refine Wc.seq ?_
     by_cases hi0:0<i
     ·obtain⟨y,hy⟩:∃ y,l[i-1]? = some y:=⟨l[i-1],List.getElem?_eq_getElem (by omega)⟩
      have hiy:=ixA ti23 rfl ti39 (j:=i-1) (m:=l.length) (cs:=l.flatMap p2) (by omega) hfl (by decide)
      have hcb:=rpA (off:=(i-1)*2) (drop_flat (f:=p2) (k:=2) (fun _=>rfl) hy) (by rw[hfl];omega)
      have e1:IntKind.i64.wrap ((i:Int)-1)=((i-1:Nat):Int):=by rw[wi64];omega
      have hd:(0<(i:Int))=True:=by simp;omega
      have hpr:prevT l i=some y.1:=by unfold prevT;rw[if_neg (by omega),hy];rfl
      rw[hpr] at hch
      simp only[gm] at hch hg;refine Wc.regD fun K F=>?_;simp only[go_sem,hlen,h0,h1,h16,h17,h18,h5,h6,hg,hiy,hcb,e1,hd];apply F;clear F K;refine Wc.cond (t:=decide (x.1≤y.1)) (by simp only[go_sem,hlen,hd]) (fun hc=>?_) (fun hc=>?_)
      ·have hxy:x.1≤y.1:=by simpa using hc
       rw[if_pos hxy] at hch
       apply gS (by simp only[go_sem,hlen];rfl)
       rw[hch]
       exact wr (gV [.tmp 4] [.c (.p (pI 9))] (by simp only[go_sem,hlen]))
      ·have hxy:¬ x.1≤y.1:=by simpa using hc
       rw[if_neg hxy] at hch
       refine Wc.skip ?_;apply gR (by simp only[go_sem,hlen,h0,h1,h16,h17,h18,i64n i (by omega)];rfl)
       exact⟨l.length-(i+1),by omega,i+1,rfl,by omega,rfl,by simp only[go_sem,hlen],by simp only[go_sem,hlen,h0],by simp only[go_sem,hlen,h1],by simp only[go_sem,hlen,h16],by simp only[go_sem,hlen,h17],by simp only[go_sem,hlen],hch⟩
     ·have hd:(0<(i:Int))=False:=by simp;omega
      have hpr:prevT l i=none:=by unfold prevT;rw[if_pos (by omega)]
      rw[hpr] at hch
      simp only at hch;refine Wc.regD fun K F=>?_;simp only[go_sem,hlen,h0,h1,h16,h17,h18,h5,hd];apply F;clear F K;refine Wc.cond (t:=false) (by simp only[go_sem,hlen,hd]) (fun hc=>by cases hc) (fun hc=>?_);refine Wc.skip ?_;apply gR (by simp only[go_sem,hlen,h0,h1,h16,h17,h18,i64n i (by omega)];rfl)
      exact⟨l.length-(i+1),by omega,i+1,rfl,by omega,rfl,by simp only[go_sem,hlen],by simp only[go_sem,hlen,h0],by simp only[go_sem,hlen,h1],by simp only[go_sem,hlen,h16],by simp only[go_sem,hlen,h17],by simp only[go_sem,hlen],hch⟩
   ·have hil : i = l.length := by have : ¬ (i : Int) < l.length := by simpa using hc
                                  omega
    rw[hil,List.drop_length,sck_end] at hch
    exact Wc.exit ⟨hch,rfl,by simp only[go_sem,hlen]⟩
  ·exact⟨0,rfl,by omega,rfl,by simp only[go_sem,hlen],by simp only[go_sem,hlen,h0],by simp only[go_sem,hlen,h1],by simp only[go_sem,hlen,h1],by simp only[go_sem,hlen,h1],by simp only[go_sem,hlen];try rfl,e0⟩
 ·rintro⟨e,ds,s1⟩ ⟨hch,rfl,hlen⟩
  simp only at hlen
  rw[hch]
  apply gS (by simp only[go_sem,hlen];rfl);exact wr (gV [.tmp 4] [.c (.p (pI 0))] (by simp only[go_sem,hlen]))
theorem pf93 (k:Int)(l:List I2)(hl:l.length<2^40):Pf E0 93 [.c (.p (pI k)),.c (.p (.lst l.length (l.flatMap p2)))] (P' (pI (sckA k l))):=by
 have hfl:(l.flatMap p2).length=l.length*2:=flat_len (k:=2) (fun _=>rfl) l
 refine gQ (fn:=Tryz.f93) ?_;simp only[gL,Tryz.ntmps93,Nat.reduceSub,Nat.reduceAdd];refine gY ?_;refine Wc.seqR (fun y=>(k=1∨k=2)∧y.ds=[]∧y.e.length=55∧y.e.getD 0 .junk=P' (pI k)∧y.e.getD 1 .junk=P' (.lst l.length (l.flatMap p2))) ?_ ?_
 ·refine Wc.seq ?_
  by_cases h1:k=1
  ·have b1:(k != 1)=false:=by simpa using h1
   apply gR (by simp only[go_sem,b1];rfl);refine Wc.cond (t:=false) (by simp only[go_sem,b1]) (fun hc=>by cases hc) (fun _=>Wc.skip ⟨.inl h1,rfl,rfl,rfl,rfl⟩)
  ·have b1:(k != 1)=true:=by simpa using h1
   apply gR (by simp only[go_sem,b1];rfl);refine Wc.cond (t:=(k != 2)) (by simp only[go_sem,b1]) (fun hc=>?_) (fun hc=>?_)
   ·have h2:k≠2:=by simpa using hc
    refine gY ?_
    have e:sckA k l=8:=by unfold sckA;rw[if_pos ⟨h1,h2⟩]
    rw[e]
    exact wr (gU [.tmp 4] [.c (.p (pI 8))])
   ·have h2:k=2:=by simpa using hc
    exact Wc.skip ⟨.inr h2,rfl,rfl,rfl,rfl⟩
 rintro⟨e,ds,s1⟩ ⟨hk,rfl,hlen,h0,h1⟩
 simp only at hlen h0 h1
 have eK:sckA k l=if 2000<l.length then 4 else sck k none l:=by unfold sckA;rw[if_neg (by omega)]
 refine gO ?_;apply gR (by simp only[go_sem,hlen,h0,h1];rfl);refine Wc.cond (t:=decide ((2000:Int)<l.length)) (by simp only[go_sem,hlen]) (fun hc=>?_) (fun hc=>?_)
 ·have hc' : 2000 < l.length := by have : (2000 : Int) < l.length := by simpa using hc
                                   omega
  apply gS (by simp only[go_sem,hlen];rfl)
  rw[eK,if_pos hc']
  exact wr (gV [.tmp 4] [.c (.p (pI 4))] (by simp only[go_sem,hlen]))
 have hc' : ¬ 2000 < l.length := by have : ¬ (2000 : Int) < l.length := by simpa using hc
                                    omega
 rw[if_neg hc'] at eK
 have e0:sckA k l=sck k (prevT l 0) (l.drop 0):=eK
 refine Wc.skip (Wc.seqR (fun y=>sckA k l=0∧y.ds=[]∧y.e.length=55) ?_ ?_)
 ·apply gS (by simp only[go_sem,hlen,h0,h1];rfl);refine Wc.block (Wc.loop (fun q y=>∃ i:Nat,q=l.length-i∧i≤l.length∧y.ds=[]∧y.e.length=55∧y.e.getD 0 .junk=P' (pI k)∧y.e.getD 1 .junk=P' (.lst l.length (l.flatMap p2))∧y.e.getD 5 .junk=P' (pI i)∧sckA k l=sck k (prevT l i) (l.drop i)) ?_ (k:=l.length) ?_)
  ·clear hlen h0 h1 e s1;rintro q ⟨e,ds,s1⟩ ⟨i,rfl,hi,rfl,hlen,h0,h1,h5,hch⟩;simp only at hlen h0 h1 h5;refine gO ?_;apply gR (by simp only[go_sem,hlen,h0,h1,h5];rfl)
   refine(Wc.cond (t:=decide ((i:Int)<l.length)) (by simp only[go_sem,hlen]) (fun hc=>?_) (fun hc=>?_))
   ·have hil : i < l.length := by have : (i : Int) < l.length := by simpa using hc
                                  omega
    obtain⟨x,hx⟩:=gE hil
    have hix:=ixA ti23 rfl ti39 (j:=i) (m:=l.length) (cs:=l.flatMap p2) hil hfl (by decide)
    have hca:=rpA (off:=i*2) (drop_flat (f:=p2) (k:=2) (fun _=>rfl) hx) (by rw[hfl];omega)
    have hce:=rpA (off:=i*2+1) (cs:=l.flatMap p2) (pre:=[pI x.2]) (rest:=(l.drop (i+1)).flatMap p2) (by rw[← List.drop_drop,drop_flat (f:=p2) (k:=2) (fun _=>rfl) hx];rfl) (by rw[hfl];omega)
    rw[sck_step hx] at hch
    have bad:(smpOK x=false∨(k=2∧x.2<0))→sckA k l=2:=fun h=>by rw[hch,if_pos h]
    refine Wc.skip (Wc.seq (Wc.block (Wc.seq ?_)))
    refine(Wc.seqA (fun y=>y.ds=[]∧y.e.length=55∧y.e.getD 0 .junk=P' (pI k)∧y.e.getD 1 .junk=P' (.lst l.length (l.flatMap p2))∧y.e.getD 5 .junk=P' (pI i)∧y.e.getD 38 .junk=P' (.bool (sB k x))) ?_ ?_)
    ·refine gM fun K F=>?_;simp only[go_sem,hlen,h0,h1,h5,hix,hca];refine gP (pf150 x) ?_;cases hsm:smpOK x with
     |false =>
      have hk2:True:=trivial
      simp only[go_sem,hlen,h0,h1,h5];apply F;clear F K
      exact⟨rfl,rfl,by simp only[go_sem,hlen],by simp only[go_sem,hlen,h0],by simp only[go_sem,hlen,h1],by simp only[go_sem,hlen,h5],by simp only[go_sem,hlen,sB,hsm,hk2,Bool.true_or,Bool.false_or,Bool.or_self]⟩
     |true =>
      by_cases hk3:k=2
      ·have hk2:(k==2)=true:=by simpa using hk3
       simp only[go_sem,hlen,h0,h1,h5,hk2,hix,hce];apply F;clear F K
       exact⟨rfl,rfl,by simp only[go_sem,hlen],by simp only[go_sem,hlen,h0],by simp only[go_sem,hlen,h1],by simp only[go_sem,hlen,h5],by simp only[go_sem,hlen,sB,hsm,hk2,Bool.true_or,Bool.false_or,Bool.or_self]⟩
      ·have hk2:(k==2)=false:=by simpa using hk3
       simp only[go_sem,hlen,h0,h1,h5,hk2,hix,hce];apply F;clear F K
       exact⟨rfl,rfl,by simp only[go_sem,hlen],by simp only[go_sem,hlen,h0],by simp only[go_sem,hlen,h1],by simp only[go_sem,hlen,h5],by simp only[go_sem,hlen,sB,hsm,hk2,Bool.true_or,Bool.false_or,Bool.or_self]⟩
    ·rintro⟨e,ds,s2⟩ ⟨rfl,hlen,h0,h1,h5,h23⟩
     simp only at hlen h0 h1 h5 h23;refine Wc.cond (t:=sB k x) (by simp only[go_sem,h23]) (fun hc=>?_) (fun hc=>?_)
     ·apply gS (by simp only[go_sem,hlen];rfl)
      rw[bad (sB_iff.1 hc)]
      exact wr (gV [.tmp 4] [.c (.p (pI 2))] (by simp only[go_sem,hlen]))
     rw[if_neg (fun h=>by rw[sB_iff.2 h] at hc;cases hc)] at hch
     refine Wc.skip (Wc.seq ?_)
     by_cases hi0:0<i
     ·obtain⟨y,hy⟩:∃ y,l[i-1]? = some y:=⟨l[i-1],List.getElem?_eq_getElem (by omega)⟩
      have hiy:=ixA ti23 rfl ti39 (j:=i-1) (m:=l.length) (cs:=l.flatMap p2) (by omega) hfl (by decide)
      have hcb:=rpA (off:=(i-1)*2) (drop_flat (f:=p2) (k:=2) (fun _=>rfl) hy) (by rw[hfl];omega)
      have e1:IntKind.i64.wrap ((i:Int)-1)=((i-1:Nat):Int):=by rw[wi64];omega
      have hd:(0<(i:Int))=True:=by simp;omega
      have hpr:prevT l i=some y.1:=by unfold prevT;rw[if_neg (by omega),hy];rfl
      rw[hpr] at hch
      simp only at hch;refine Wc.regD fun K F=>?_;simp only[go_sem,hlen,h0,h1,h5,hix,hca,hiy,hcb,e1,hd];apply F;clear F K;refine Wc.cond (t:=decide (x.1≤y.1)) (by simp only[go_sem,hlen,hd]) (fun hc=>?_) (fun hc=>?_)
      ·have hxy:x.1≤y.1:=by simpa using hc
       rw[if_pos hxy] at hch
       apply gS (by simp only[go_sem,hlen];rfl)
       rw[hch]
       exact wr (gV [.tmp 4] [.c (.p (pI 9))] (by simp only[go_sem,hlen]))
      ·have hxy:¬ x.1≤y.1:=by simpa using hc
       rw[if_neg hxy] at hch
       refine Wc.skip ?_;apply gR (by simp only[go_sem,hlen,h0,h1,h5,i64n i (by omega)];rfl)
       exact⟨l.length-(i+1),by omega,i+1,rfl,by omega,rfl,by simp only[go_sem,hlen],by simp only[go_sem,hlen,h0],by simp only[go_sem,hlen,h1],by simp only[go_sem,hlen],hch⟩
     ·have hd:(0<(i:Int))=False:=by simp;omega
      have hpr:prevT l i=none:=by unfold prevT;rw[if_pos (by omega)]
      rw[hpr] at hch
      simp only at hch;refine Wc.regD fun K F=>?_;simp only[go_sem,hlen,h0,h1,h5,hd];apply F;clear F K;refine Wc.cond (t:=false) (by simp only[go_sem,hlen,hd]) (fun hc=>by cases hc) (fun hc=>?_);refine Wc.skip ?_;apply gR (by simp only[go_sem,hlen,h0,h1,h5,i64n i (by omega)];rfl)
      exact⟨l.length-(i+1),by omega,i+1,rfl,by omega,rfl,by simp only[go_sem,hlen],by simp only[go_sem,hlen,h0],by simp only[go_sem,hlen,h1],by simp only[go_sem,hlen],hch⟩
   ·have hil : i = l.length := by have : ¬ (i : Int) < l.length := by simpa using hc
                                  omega
    rw[hil,List.drop_length,sck_end] at hch
    exact Wc.exit ⟨hch,rfl,by simp only[go_sem,hlen]⟩
  ·exact⟨0,rfl,by omega,rfl,by simp only[go_sem,hlen],by simp only[go_sem,hlen,h0],by simp only[go_sem,hlen,h1],by simp only[go_sem,hlen];try rfl,e0⟩
 ·rintro⟨e,ds,s1⟩ ⟨hch,rfl,hlen⟩
  simp only at hlen
  rw[hch]
  apply gS (by simp only[go_sem,hlen];rfl);exact wr (gV [.tmp 4] [.c (.p (pI 0))] (by simp only[go_sem,hlen]))
end Go.Proofs.YtedcnhbblgmdnaaGreat.Ab
/- Histograms' buckets: the plain law of their bounds. -/
namespace Go.Proofs.YtedcnhbblgmdnaaGreat.Ab
def blen (v:Nat):Nat:=if v=0 then 0 else v.log2+1
theorem blen_iff {v m:Nat}:blen v=m+1 ↔ 2 ^ m≤v∧v<2 ^ (m+1):=by
 unfold blen
 by_cases h:v=0
 ·subst h;simp only[if_true]
  constructor
  ·intro h;omega
  ·rintro⟨h1,_⟩
   have:=Nat.two_pow_pos m
   omega
 ·rw[if_neg h,Nat.add_right_cancel_iff]
  exact Nat.log2_eq_iff h
theorem blen_pos {v:Nat}(h:0<v):∃ m,blen v=m+1∧2 ^ m≤v∧v<2 ^ (m+1):=by
 refine⟨v.log2,?_,?_⟩
 ·unfold blen;rw[if_neg (by omega)]
 ·exact(Nat.log2_eq_iff (by omega)).1 rfl
theorem blen_shift {v n:Nat}(h:2 ^ n≤v):blen v=n+blen (v / 2 ^ n):=by
 have hp:=Nat.two_pow_pos n
 obtain⟨m,h1,h2,h3⟩:=blen_pos (Nat.div_pos h hp)
 rw[h1,← Nat.add_assoc]
 refine blen_iff.2 ⟨?_,?_⟩
 ·rw[Nat.pow_add,Nat.mul_comm]
  exact(Nat.le_div_iff_mul_le hp).1 h2
 ·rw[Nat.add_assoc,Nat.pow_add,Nat.mul_comm]
  exact(Nat.div_lt_iff_lt_mul hp).1 h3
def ix (q v:Nat):Nat:=if v<2 ^ (q+1) then v else 2 ^ q+ix q (v / 2)
termination_by v
decreasing_by
 have:=Nat.two_pow_pos (q+1)
 omega
theorem ix_lt {q v:Nat}(h:v<2 ^ (q+1)):ix q v=v:=by rw[ix,if_pos h]
theorem ix_ge {q v:Nat}(h:2 ^ (q+1)≤v):ix q v=2 ^ q+ix q (v / 2):=by rw[ix,if_neg (by omega)]
theorem ix_closed (q:Nat):∀ k v,2 ^ (q+k)≤v→v<2 ^ (q+k+1)→ix q v=k*2 ^ q+v / 2 ^ k
 |0,v,h1,h2=>by rw[ix_lt (by simpa using h2)];simp
 |k+1,v,h1,h2=>by
  have e1:2 ^ (q+(k+1))=2 ^ (q+k)*2:=by rw[← Nat.add_assoc,Nat.pow_succ]
  have e2:2 ^ (q+(k+1)+1)=2 ^ (q+k+1)*2:=by rw[Nat.pow_succ,← Nat.add_assoc]
  have h3:2 ^ (q+1)≤v:=Nat.le_trans (Nat.pow_le_pow_right (by decide) (by omega)) h1
  rw[ix_ge h3,ix_closed q k (v / 2) (by omega) (by omega),Nat.div_div_eq_div_mul,Nat.add_mul,Nat.pow_succ,Nat.mul_comm 2]
  omega
def kf (q i:Nat):Nat:=i / 2 ^ q-1
def lo (q i:Nat):Nat:=(i-kf q i*2 ^ q)*2 ^ kf q i
def hiU (q i:Nat):Nat:=lo q i+2 ^ kf q i-1
def hi (q i:Nat):Nat:=min (hiU q i) 1099511627776
theorem kf_of {q k r:Nat}(h1:2 ^ q≤r)(h2:r<2 ^ q*2):kf q (k*2 ^ q+r)=k:=by
 have hp:=Nat.two_pow_pos q
 unfold kf
 have:(k*2 ^ q+r) / 2 ^ q=k+1:=by
  rw[Nat.div_eq_iff hp]
  rw[Nat.add_mul]
  omega
 omega
theorem lo_of {q k r:Nat}(h1:2 ^ q≤r)(h2:r<2 ^ q*2):lo q (k*2 ^ q+r)=r*2 ^ k:=by
 unfold lo;rw[kf_of h1 h2,Nat.add_sub_cancel_left]
theorem lo_small {q i:Nat}(h:i<2 ^ q):lo q i=i∧kf q i=0:=by
 have:kf q i=0:=by unfold kf;rw[Nat.div_eq_of_lt h]
 exact⟨by unfold lo;rw[this];simp,this⟩
theorem ix_form (q i:Nat):i<2 ^ q∨∃ k r,i=k*2 ^ q+r∧2 ^ q≤r∧r<2 ^ q*2:=by
 have hp:=Nat.two_pow_pos q
 rcases Nat.lt_or_ge i (2 ^ q) with h|h
 ·exact .inl h
 ·refine .inr ⟨i / 2 ^ q-1,2 ^ q+i % 2 ^ q,?_,by omega,by have:=Nat.mod_lt i hp;omega⟩
  have h1:1≤i / 2 ^ q:=(Nat.le_div_iff_mul_le hp).2 (by omega)
  have h2:=Nat.div_add_mod i (2 ^ q)
  have h3:(i / 2 ^ q-1)*2 ^ q+2 ^ q=2 ^ q*(i / 2 ^ q):=by
   rw[Nat.sub_mul,Nat.one_mul,Nat.mul_comm (2 ^ q)]
   have:1*2 ^ q≤i / 2 ^ q*2 ^ q:=Nat.mul_le_mul_right _ h1
   omega
  omega
theorem hiU_succ (q i:Nat):hiU q i+1=lo q (i+1):=by
 have hp:=Nat.two_pow_pos q
 rcases ix_form q i with h|⟨k,r,rfl,h1,h2⟩
 ·obtain⟨h3,h4⟩:=lo_small h
  have:lo q (i+1)=i+1:=by
   rcases Nat.lt_or_ge (i+1) (2 ^ q) with h5|h5
   ·exact(lo_small h5).1
   ·have h6:i+1=0*2 ^ q+2 ^ q:=by omega
    rw[h6,lo_of (Nat.le_refl _) (by omega)];simp
  unfold hiU
  rw[h3,h4,this];simp
 ·have hk:=Nat.two_pow_pos k
  have e:hiU q (k*2 ^ q+r)+1=(r+1)*2 ^ k:=by
   unfold hiU;rw[lo_of h1 h2,kf_of h1 h2,Nat.add_mul];omega
  rw[e]
  rcases Nat.lt_or_ge (r+1) (2 ^ q*2) with h5|h5
  ·rw[Nat.add_assoc,lo_of (by omega) h5]
  ·have h6:k*2 ^ q+r+1=(k+1)*2 ^ q+2 ^ q:=by rw[Nat.add_mul];omega
   have h7:r+1=2 ^ q*2:=by omega
   rw[h6,lo_of (Nat.le_refl _) (by omega),h7,Nat.pow_succ,Nat.mul_assoc,Nat.mul_comm 2]
theorem lo_hiU (q i:Nat):lo q i≤hiU q i:=by
 have:=Nat.two_pow_pos (kf q i)
 unfold hiU;omega
theorem lo_mono {q i j:Nat}(h:i≤j):lo q i≤lo q j:=by
 induction h with
 |refl=>exact Nat.le_refl _
 |step _ ih=>have:=hiU_succ q;rename_i m _;have h1:=this m;have h2:=lo_hiU q m;simp only[Nat.succ_eq_add_one];omega
theorem hiU_lt_lo {q i j:Nat}(h:i<j):hiU q i<lo q j:=by
 have h1:=hiU_succ q i
 have h2:=lo_mono (q:=q) (i:=i+1) (j:=j) h
 omega
theorem lo_ix (q v:Nat):lo q (ix q v)≤v∧v≤hiU q (ix q v):=by
 have hp:=Nat.two_pow_pos q
 rcases Nat.lt_or_ge v (2 ^ q) with h|h
 ·rw[ix_lt (by rw[Nat.pow_succ];omega)]
  obtain⟨h3,h4⟩:=lo_small h
  unfold hiU
  rw[h3,h4];simp
 ·obtain⟨m,_,h1,h2⟩:=blen_pos (v:=v) (by omega)
  have hqm:q≤m:=by
   rcases Nat.lt_or_ge m q with h3|h3
   ·exfalso
    have:2 ^ (m+1)≤2 ^ q:=Nat.pow_le_pow_right (by decide) h3
    omega
   ·exact h3
  obtain⟨k,rfl⟩:=Nat.exists_eq_add_of_le hqm
  have hk:=Nat.two_pow_pos k
  rw[ix_closed q k v h1 h2]
  have a1:2 ^ q≤v / 2 ^ k:=(Nat.le_div_iff_mul_le hk).2 (by rw[← Nat.pow_add];exact h1)
  have a2:v / 2 ^ k<2 ^ q*2:=by
   rw[Nat.div_lt_iff_lt_mul hk,← Nat.pow_succ,← Nat.pow_add]
   have e:q.succ+k=q+k+1:=by omega
   rw[e];exact h2
  unfold hiU
  rw[lo_of a1 a2,kf_of a1 a2]
  have:=Nat.div_add_mod v (2 ^ k)
  have h5:=Nat.mod_lt v hk
  rw[Nat.mul_comm (v / 2 ^ k)]
  omega
theorem ix_last:∀ q,q≤8→ix q 1099511627776=(41-q)*2 ^ q:=by
 intro q hq
 have e1:q+(40-q)=40:=by omega
 have h:=ix_closed q (40-q) 1099511627776 (by rw[e1];decide) (by rw[e1];decide)
 rw[h]
 have:q=0∨q=1∨q=2∨q=3∨q=4∨q=5∨q=6∨q=7∨q=8:=by omega
 rcases this with rfl|rfl|rfl|rfl|rfl|rfl|rfl|rfl|rfl<;>decide
theorem lo_last {q i:Nat}(hq:q≤8)(h:i≤(41-q)*2 ^ q):lo q i≤1099511627776:=by
 refine Nat.le_trans (lo_mono h) ?_
 rw[← ix_last q hq]
 exact(lo_ix q 1099511627776).1
end Go.Proofs.YtedcnhbblgmdnaaGreat.Ab
