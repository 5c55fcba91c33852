/- A part of the proof. -/
import Derived.Test.YtedcnhbblgmdnaaGreatT10
set_option maxHeartbeats 8000000
set_option maxRecDepth 10000
set_option linter.unusedSimpArgs false
set_option linter.unusedVariables false
namespace Go.Proofs.YtedcnhbblgmdnaaGreat.Ab
theorem pf237 (n:Int)(h:0≤n)(h2:n<2^63):Pf E0 237 [.c (.p (.int .i64 n))] (P' (.str (vb n.toNat))):=by
 refine gQ (fn:=Tryz.f237) ?_;simp only[gL,Tryz.ntmps237,List.replicate];refine gY ?_;refine gY ?_;refine Wc.seq (Wc.block ?_)
 refine Wc.loop (fun k x => ∃ (m : Int) (b : D) (i : Nat) (cs : List UInt8), k = m.toNat ∧ 0 ≤ m ∧ m < 2^63 ∧ x.ds = [] ∧ x.e.length = 22 ∧ x.e.getD 0 .junk = P' (.int .i64 m) ∧ x.e.getD 3 .junk = b ∧
  OA x.s.nx x.s [(1,b,i,cs.map pdOfByte)] []∧cs++vb m.toNat=vb n.toNat∧i=cs.length) ?_ (k:=n.toNat) ?_
 ·rintro k ⟨e,ds,s⟩ ⟨m,b,i,cs,rfl,hm0,hm1,rfl,hlen,h0,h3,hb,hcs,hi⟩;simp only at hlen h0 h3 hb
  have hl10:i+(vb m.toNat).length≤10:=by rw[hi,← List.length_append,hcs];exact vb_len10 kO
  refine gO ?_;apply gR (by simp only[go_sem,hlen,h0,h3];rfl);refine Wc.cond (t:=decide (128≤m)) (by simp only[go_sem,hlen,h0,h3]) (fun hc=>?_) (fun hc=>?_)
  ·have hc':128≤m:=by simpa using hc
   have e1:m.tmod 128=m % 128:=Int.tmod_eq_emod_of_nonneg hm0
   have e2:m.tdiv 128=m / 128:=Int.tdiv_eq_ediv_of_nonneg hm0
   have e3:IntKind.i64.wrap (m / 128)=m / 128:=by rw[wi64];omega
   have e4:IntKind.u8.wrap (IntKind.i64.wrap (m % 128+128))=m % 128+128:=by rw[wi64,wu8];omega
   refine Wc.skip (Wc.block (Wc.seq ?_));refine gM fun K F=>?_;simp only[go_sem,hlen,h0,h3,e1,e2,e3,e4];refine OA.app (L1:=[]) (L2:=[]) (by_:=1) (n:=i) (m:=1) (ys:=[.int .u8 (m % 128+128)]) (OA.put (hb.adv.adv) kO) kO ⟨_,ti214,rfl⟩ ti5 rfl rfl rfl kD kD kA rfl kO fun b' s' hb' hnx=>?_;simp only[go_sem,hlen,h0,h3,e1,e2,e3,e4];apply F;clear F K;apply gR (by simp only[go_sem,hlen,h0,h3,e1,e2,e3,e4];rfl)
   refine⟨(m / 128).toNat,kO,m / 128,b',i+1,cs++[UInt8.ofNat (m.toNat % 128+128)],rfl,kO,kO,rfl,by simp only[go_sem,hlen],by simp only[go_sem,hlen,h0,h3],by simp only[go_sem,hlen,h0,h3],?_,?_,by simp[hi]⟩
   ·have:=(hb'.mono (b':=s'.nx) (by rw[hnx];simp only[St.nx_put,St.nx_adv];omega)).adv (n:=3)
    rw[pdb _ kO kO] at this
    have e5:(m % 128+128).toNat=m.toNat % 128+128:=kO
    rw[e5] at this
    simpa[St.nx_adv] using this.mono (Nat.le_add_right _ 3)
   ·rw[List.append_assoc,← hcs,vb_ge (n:=m.toNat) kO]
    have:(m / 128).toNat=m.toNat / 128:=kO
    rw[this];rfl
  ·have hc':m<128:=by simpa using hc
   refine Wc.exit ?_
   have e4:IntKind.u8.wrap m=m:=by rw[wu8];omega
   refine gN fun K F=>?_;simp only[go_sem,hlen,h0,h3,e4];refine OA.app (L1:=[]) (L2:=[]) (by_:=1) (n:=i) (m:=1) (ys:=[.int .u8 m]) (OA.put (hb.adv.adv) kO) kO ⟨_,ti214,rfl⟩ ti5 rfl rfl rfl kD kD kA rfl kO fun b' s' hb' hnx=>?_
   have hl:=(hb'.own _ (List.mem_append_right _ (List.mem_singleton.2 rfl))).listOf
   have hcs2:List.map pdOfByte cs++[.int .u8 m]=(vb n.toNat).map pdOfByte:=by
    rw[← hcs,vb_lt (n:=m.toNat) kO,pdb _ hm0 kO];simp
   simp only[hcs2] at hl
   have hlen2:(vb n.toNat).length=i+1:=by rw[← hcs,hi,vb_lt (n:=m.toNat) kO];simp
   simp only[go_sem,hlen,h0,h3,e4,hl,allM_bytes,hlen2];apply F;clear F K;exact wr (gV [.tmp 2] [.c (.p (.str (vb n.toNat)))] kL)
 ·exact⟨n,_,0,[],rfl,h,h2,rfl,rfl,rfl,rfl,((s00_oa.adv.adv).front (es:=1) (n:=0) (cs:=[]) kO rfl).mono (b':=3) kO,rfl,rfl⟩
def inR (n:Int):Bool:=decide (-1152921504606846976≤n)&&decide (n≤1152921504606846976)
theorem pf256 (n:Int):Pf E0 256 [.c (.p (.int .i64 n))] (P' (.bool (inR n))):=by
 refine gQ (fn:=Tryz.f256) ?_;simp only[gL,Tryz.ntmps256,Nat.reduceSub,Nat.reduceAdd];refine gY ?_;refine Wc.seq ?_
 by_cases h : -1152921504606846976≤n
 ·apply gR kB;exact wr (gV [.tmp 2] [.c (.p (.bool (inR n)))] (by simp only[go_sem,inR,h,Bool.true_and]))
 ·apply gR kB;exact wr (gV [.tmp 2] [.c (.p (.bool (inR n)))] (by simp only[go_sem,inR,h,Bool.false_and]))
def zz (n:Int):Nat:=if 0≤n then (2*n).toNat else (-2*n-1).toNat
theorem pf257 (n:Int)(h:inR n=true):Pf E0 257 [.c (.p (.int .i64 n))] (P' (.int .u64 (zz n))):=by
 simp only[inR,Bool.and_eq_true,decide_eq_true_eq] at h;refine gQ (fn:=Tryz.f257) ?_;simp only[gL,Tryz.ntmps257,Nat.reduceSub,Nat.reduceAdd];refine gY ?_;refine gO ?_;refine gZ ?_;refine Wc.cond (t:=decide (0≤n)) rfl (fun hc=>?_) (fun hc=>?_)
 ·have hc':0≤n:=by simpa using hc
  refine Wc.seq ?_
  have e1:IntKind.u64.wrap (2*IntKind.u64.wrap n)=(zz n:Int):=by rw[wu64,wu64,zz,if_pos hc'];omega
  apply gR (by simp only[go_sem,e1];rfl);exact wr (gU [.tmp 2] [.c (.p (.int .u64 (zz n)))])
 ·have hc':¬ 0≤n:=by simpa using hc
  refine Wc.skip (Wc.seq ?_)
  have e1:IntKind.u64.wrap (IntKind.u64.wrap (2*IntKind.u64.wrap (IntKind.i64.wrap (0-n)))-1)=(zz n:Int):=by rw[wu64,wu64,wu64,wi64,zz,if_neg hc'];omega
  apply gR (by simp only[go_sem,e1];rfl);exact wr (gU [.tmp 2] [.c (.p (.int .u64 (zz n)))])
theorem and127 (k:Nat)(h:k<2^64):andI .u64 (k:Int) 127=((k % 128:Nat):Int):=by
 have:(BitVec.ofInt 64 (k:Int) &&& BitVec.ofInt 64 127).toNat=k % 128:=by
  rw[BitVec.ofInt_natCast,BitVec.toNat_and,BitVec.toNat_ofNat,Nat.mod_eq_of_lt h]
  exact Nat.and_two_pow_sub_one_eq_mod k 7
 show IntKind.u64.wrap ((BitVec.ofInt 64 (k:Int) &&& BitVec.ofInt 64 127).toNat:Int)=_
 rw[this,wu64];omega
theorem or128':∀ v:Nat,v<128→(BitVec.ofInt 8 (v:Int) ||| BitVec.ofInt 8 128).toNat=v+128:=by decide
theorem or128 (v:Nat)(h:v<128):orI .u8 (v:Int) 128=((v+128:Nat):Int):=by
 show IntKind.u8.wrap ((BitVec.ofInt 8 (v:Int) ||| BitVec.ofInt 8 128).toNat:Int)=_
 rw[or128' v h,wu8];omega
theorem fdiv128 (k:Nat):shrI .u64 (k:Int) 7=((k / 128:Nat):Int):=by
 show(k:Int).fdiv (2 ^ (min (Int.toNat 7) 64))=_
 rw[Int.fdiv_eq_ediv_of_nonneg _ kD];rfl
theorem pdbn (n:Nat)(h:n<256):Pd.int .u8 (n:Int)=pdOfByte (UInt8.ofNat n):=pdb n kO kO
theorem call177 {bb:Nat}{s:St}{L1 L2:List (Nat×D×Nat×List Pd)}{M:List (Nat×Ob)}{x:D}{i0:Nat}{cs0:List Pd}{n:Nat}{K:D→St→Prop}(h:OA bb s (L1++(1,x,i0,cs0)::L2) M)(hbb:bb≤s.nx)(hn:n<2^64)(hi0:i0≤2^46)
  (F:∀ x' s',OA s'.nx s' (L1++(1,x',i0+(vb n).length,cs0++(vb n).map pdOfByte)::L2) M→s.nx≤s'.nx→K x' s'):wpCall E0 (.v (.c (.p (.fnc 177)))) [x,.v (.c (.p (.int .u64 n)))] s K:=by
 obtain⟨c,rfl⟩:=(h.own (1,x,i0,cs0) kS).v
 refine wpCall.opn (fn:=Tryz.f177) kR kR rfl kR rfl ?_;simp only[gL,Tryz.ntmps177,Nat.reduceSub,Nat.reduceAdd];refine gY ?_;refine Wc.seq (Wc.block ?_)
 refine Wc.loop (fun k y => ∃ (m : Nat) (b : D) (i : Nat) (cs : List UInt8), k = m ∧ m < 2^64 ∧ y.ds = [] ∧ y.e.length = 21 ∧ y.e.getD 1 .junk = P' (.int .u64 m) ∧ y.e.getD 0 .junk = b ∧
  OA y.s.nx y.s (L1++(1,b,i,cs0++cs.map pdOfByte)::L2) M∧cs++vb m=vb n∧i=i0+cs.length∧s.nx≤y.s.nx) ?_ (k:=n) ?_
 ·rintro k ⟨e,ds,s1⟩ ⟨m,b,i,cs,rfl,hm1,rfl,hlen,h1,h0,hb,hcs,hi,hnx0⟩;simp only at hlen h0 h1 hb hnx0
  have hl10:cs.length+(vb k).length≤10:=by rw[← List.length_append,hcs];exact vb_len10 hn
  refine gO ?_;apply gR (by simp only[go_sem,hlen,h0,h1];rfl);refine Wc.cond (t:=decide ((128:Int)≤k)) (by simp only[go_sem,hlen,h0,h1]) (fun hc=>?_) (fun hc=>?_)
  ·have hc' : 128 ≤ k := by have : (128 : Int) ≤ k := by simpa using hc
                            omega
   have e4:orI .u8 (IntKind.u8.wrap (andI .u64 (k:Int) 127)) 128=((k % 128+128:Nat):Int):=by
    rw[and127 k hm1,wu8]
    have:((k % 128:Nat):Int) % 256=((k % 128:Nat):Int):=kO
    rw[this,or128 _ kO]
   refine Wc.skip (Wc.block (Wc.seq ?_));refine gM fun K F=>?_;simp only[go_sem,hlen,h0,h1,e4];refine OA.app (by_:=1) (n:=i) (m:=1) (ys:=[.int .u8 ((k % 128+128:Nat):Int)]) (OA.put (hb.adv.adv) kO) kO ⟨_,ti214,rfl⟩ ti5 rfl rfl rfl kD kD (by simp only[go_sem,e4]) rfl kO fun b' s' hb' hnx=>?_;simp only[go_sem,hlen,h0,h1,e4];apply F;clear F K;apply gR (by simp only[go_sem,hlen,h0,h1,e4,fdiv128];rfl)
   refine⟨k / 128,kO,k / 128,b',i+1,cs++[UInt8.ofNat (k % 128+128)],rfl,kO,rfl,by simp only[go_sem,hlen],by simp only[go_sem,hlen,h0,h1],by simp only[go_sem,hlen,h0,h1],?_,?_,by simp[hi];omega,?_⟩
   ·have:=(hb'.mono (b':=s'.nx) (by rw[hnx];simp only[St.nx_put,St.nx_adv];omega)).adv (n:=3)
    rw[pdbn _ kO,List.append_assoc] at this
    have:=this.mono (Nat.le_add_right s'.nx 3)
    simpa only[St.nx_adv,List.map_append,List.map_cons,List.map_nil] using this
   ·rw[List.append_assoc,← hcs,vb_ge (n:=k) kO];rfl
   ·simp only[St.nx_adv,hnx,St.nx_put];omega
  ·have hc' : k < 128 := by have : ¬ (128 : Int) ≤ k := by simpa using hc
                            omega
   refine Wc.exit ?_
   have e4:IntKind.u8.wrap (k:Int)=k:=by rw[wu8];omega
   refine gN fun K F=>?_;simp only[go_sem,hlen,h0,h1,e4];refine OA.app (by_:=1) (n:=i) (m:=1) (ys:=[.int .u8 k]) (OA.put (hb.adv.adv) kO) kO ⟨_,ti214,rfl⟩ ti5 rfl rfl rfl kD kD (by simp only[go_sem,e4]) rfl kO fun b' s' hb' hnx=>?_
   obtain⟨c',rfl⟩:=(hb'.own (1,b',i+1,_) (List.mem_append_right _ (List.mem_cons_self ..))).v
   simp only[go_sem,hlen,h0,h1,e4];apply F;clear F K;refine Wc.ret (Op.ret [.tmp 4] [.c c'] rfl rfl kL (F _ _ ?_ ?_))
   ·have hcs2:cs0++List.map pdOfByte cs++[.int .u8 (k:Int)]=cs0++(vb n).map pdOfByte:=by
     rw[← hcs,vb_lt (n:=k) kO,pdb _ kO kO];simp
    have hl2:i+1=i0+(vb n).length:=by rw[← hcs,vb_lt (n:=k) kO,hi];simp;omega
    rw[hcs2,hl2] at hb'
    exact hb'.mono (by rw[hnx];simp only[St.nx_put,St.nx_adv];omega)
   ·rw[hnx];simp only[St.nx_put,St.nx_adv];omega
 ·exact⟨n,_,i0,[],rfl,hn,rfl,rfl,rfl,rfl,by simpa using h.adv.mono (by simp only[St.nx_adv];omega),rfl,rfl,by simp only[St.nx_adv];omega⟩
def appV (s:List UInt8)(n:Int):List UInt8×Int:=if n<0∨1152921504606846976<n then ([],2) else (s++vb n.toNat,0)
theorem pf100 (t:List UInt8)(n:Int)(ht:t.length≤4611686018427387904):Pf E0 100 [.c (.p (.str t)),.c (.p (.int .i64 n))] (.tup [.c (.p (.str (appV t n).1)),.c (.p (.int .i64 (appV t n).2))]):=by
 refine gQ (fn:=Tryz.f100) ?_;simp only[gL,Tryz.ntmps100,Nat.reduceSub,Nat.reduceAdd];refine gY ?_;refine gO ?_
 by_cases h:n<0
 ·apply gR kB;refine Wc.cond (t:=true) rfl (fun _=>?_) (fun h=>by cases h);apply gS kB
  have e:appV t n=([],2):=by unfold appV;rw[if_pos (.inl h)]
  rw[e]
  exact wr (gU [.tmp 4,.tmp 5] [.c (.p (.str [])),.c (.p (.int .i64 2))])
 ·apply gR kB;refine Wc.cond (t:=decide (1152921504606846976<n)) rfl (fun hc=>?_) (fun hc=>?_)
  ·have hc':1152921504606846976<n:=by simpa using hc
   apply gS kB
   have e:appV t n=([],2):=by unfold appV;rw[if_pos (.inr hc')]
   rw[e]
   exact wr (gU [.tmp 4,.tmp 5] [.c (.p (.str [])),.c (.p (.int .i64 2))])
  ·have hc':¬ 1152921504606846976<n:=by simpa using hc
   have e:appV t n=(t++vb n.toNat,0):=by unfold appV;rw[if_neg kO]
   have e1:IntKind.u64.wrap n=(n.toNat:Int):=by rw[wu64];omega
   have hl:=vb_len10 (n:=n.toNat) kO
   refine Wc.skip (Wc.seq ?_);refine gM fun K F=>?_;simp only[go_sem,e1];refine call177 (L1:=[]) (L2:=[]) (M:=[]) (OA.nil (s00_oa.adv.adv.adv)) kO kO kO fun x' s' hx hnx=>?_
   have hlo:=(hx.own _ (List.mem_cons_self ..)).listOf
   simp only[List.nil_append,Nat.zero_add] at hlo
   have hlt:¬ (9223372036854775807<t.length+(vb n.toNat).length):=kO
   simp only[go_sem,hlo,allM_bytes,hlt];apply F;clear F K
   rw[e]
   exact wr (gU [.tmp 4,.tmp 5] [.c (.p (.str (t++vb n.toNat))),.c (.p (.int .i64 0))])
theorem pf192 (t:List UInt8)(n:Int)(ht:t.length≤4611686018427387904):Pf E0 192 [.c (.p (.str t)),.c (.p (.int .i64 n))] (.tup [.c (.p (.str (appV t n).1)),.c (.p (.int .i64 (appV t n).2))]):=by
 refine gQ (fn:=Tryz.f192) ?_;simp only[gL,Tryz.ntmps192,Nat.reduceSub,Nat.reduceAdd];refine gY ?_;refine gO ?_
 by_cases h:n<0
 ·apply gR kB;refine Wc.cond (t:=true) rfl (fun _=>?_) (fun h=>by cases h);apply gS kB
  have e:appV t n=([],2):=by unfold appV;rw[if_pos (.inl h)]
  rw[e]
  exact wr (gU [.tmp 4,.tmp 5] [.c (.p (.str [])),.c (.p (.int .i64 2))])
 ·apply gR kB;refine Wc.cond (t:=decide (1152921504606846976<n)) rfl (fun hc=>?_) (fun hc=>?_)
  ·have hc':1152921504606846976<n:=by simpa using hc
   apply gS kB
   have e:appV t n=([],2):=by unfold appV;rw[if_pos (.inr hc')]
   rw[e]
   exact wr (gU [.tmp 4,.tmp 5] [.c (.p (.str [])),.c (.p (.int .i64 2))])
  ·have hc':¬ 1152921504606846976<n:=by simpa using hc
   have e:appV t n=(t++vb n.toNat,0):=by unfold appV;rw[if_neg kO]
   have hl:=vb_len10 (n:=n.toNat) kO
   refine Wc.skip (Wc.seq ?_);refine gM fun K F=>?_;simp only[go_sem];refine gP (pf237 n kO kO) ?_
   have hlt:¬ (9223372036854775807<t.length+(vb n.toNat).length):=kO
   simp only[go_sem,hlt];apply F;clear F K
   rw[e]
   exact wr (gU [.tmp 4,.tmp 5] [.c (.p (.str (t++vb n.toNat))),.c (.p (.int .i64 0))])
abbrev pI (n:Int):Pd:=.int .i64 n
def encL (l:List Int):List UInt8:=l.flatMap fun n=>vb (zz n)
def encI (l:List Int):List UInt8×Int:=if 20000<l.length then ([],4) else if l.all inR then (vb l.length++encL l,0) else ([],2)
theorem zz_lt {n:Int}(h:inR n=true):zz n<2^62:=by
 simp only[inR,Bool.and_eq_true,decide_eq_true_eq] at h;unfold zz;split<;>omega
theorem i64n (n:Nat)(h:n<2^62):IntKind.i64.wrap ((n:Int)+1)=((n+1:Nat):Int):=by rw[wi64];omega
theorem take_snoc {α:Type}{l:List α}{i:Nat}{x:α}(h:l[i]? = some x):l.take (i+1)=l.take i++[x]:=by
 rw[List.take_add_one,h];rfl
theorem encL_take {l:List Int}{i:Nat}{x:Int}(h:l[i]? = some x):encL (l.take (i+1))=encL (l.take i)++vb (zz x):=by
 rw[take_snoc h];simp[encL]
theorem pf227 (l:List Int)(hl:l.length<2^40):Pf E0 227 [.c (.p (.lst l.length (l.map pI)))] (.tup [.c (.p (.str (encI l).1)),.c (.p (.int .i64 (encI l).2))]):=by
 refine gQ (fn:=Tryz.f227) ?_;simp only[gL,Tryz.ntmps227,Nat.reduceSub,Nat.reduceAdd];refine gY ?_;refine gO ?_;refine gZ ?_;refine Wc.cond (t:=decide ((20000:Int)<l.length)) rfl (fun hc=>?_) (fun hc=>?_)
 ·have hc':(20000:Int)<l.length:=by simpa using hc
  have e:encI l=([],4):=by unfold encI;rw[if_pos kO]
  refine gY ?_
  rw[e]
  exact wr (gU [.tmp 2,.tmp 3] [.c (.p (.str [])),.c (.p (.int .i64 4))])
 have hc':¬ (20000:Int)<l.length:=by simpa using hc
 have e0:encI l=if l.all inR then (vb l.length++encL l,0) else ([],2):=by unfold encI;rw[if_neg kO]
 have e1:IntKind.u64.wrap (l.length:Int)=l.length:=by rw[wu64];omega
 have hvl:=vb_len10 (n:=l.length) kO
 refine Wc.skip (Wc.seq ?_);refine gM fun K F=>?_;simp only[go_sem,e1];refine call177 (L1:=[]) (L2:=[]) (M:=[]) (OA.nil (s00_oa.adv.adv.adv)) kO kO kO fun b0 s0 hb0 hnx0=>?_;simp only[go_sem];apply F;clear F K;refine gO ?_;refine gZ ?_
 refine Wc.block (Wc.loop (fun k y => ∃ (i : Nat) (b : D) (ib : Nat), k = l.length - i ∧ i ≤ l.length ∧ y.ds = [] ∧ y.e.length = 30 ∧ y.e.getD 14 .junk = P' (.lst l.length (l.map pI)) ∧ y.e.getD 15 .junk = P' (.int .i64 l.length) ∧ y.e.getD 16 .junk = P' (.int .i64 i) ∧ y.e.getD 4 .junk = b ∧
  OA y.s.nx y.s [(1,b,ib,(vb l.length++encL (l.take i)).map pdOfByte)] []∧ib≤10+10*i∧(l.take i).all inR=true) ?_ (k:=l.length) ?_)
 ·rintro k ⟨e,ds,s1⟩ ⟨i,b,ib,rfl,hi,rfl,hlen,h14,h15,h16,h4,hb,hib,hall⟩;simp only at hlen h14 h15 h16 h4 hb;apply gS (by simp only[go_sem,hlen,h14,h15,h16,h4];rfl);refine Wc.seq ?_;refine Wc.cond (t:=decide ((i:Int)<l.length)) kL (fun hc=>?_) (fun hc=>?_)
  ·have hil : i < l.length := by have : (i : Int) < l.length := by simpa using hc
                                 omega
   obtain⟨x,hx⟩:=gE hil
   have hix:=ixA ti175 rfl ti3 (j:=i) (m:=l.length) (cs:=l.map pI) hil kS kD
   have hca:=rpA (off:=i) (drop_map pI hx) (by simp;omega)
   refine Wc.skip (Wc.seq (Wc.block (Wc.seq ?_)));apply gR (by simp only[go_sem,hlen,h14,h15,h16,h4,hix,hca];rfl);refine gO ?_;refine gM fun K F=>?_;simp only[go_sem,hlen,h14,h15,h16,h4];refine gP (pf256 x) ?_;simp only[go_sem,hlen,h14,h15,h16,h4];apply F;clear F K;refine Wc.cond (t:=!inR x) kL (fun hc=>?_) (fun hc=>?_)
   ·have hx2:inR x=false:=by simpa using hc
    have e:encI l=([],2):=by
     rw[e0,if_neg]
     intro h
     rw[List.all_eq_true] at h
     have:=h x (gw hx)
     rw[hx2] at this;cases this
    apply gS (by simp only[go_sem,hlen,h14,h15,h16,h4];rfl)
    rw[e]
    exact wr (gV [.tmp 2,.tmp 3] [.c (.p (.str [])),.c (.p (.int .i64 2))] kL)
   ·have hx2:inR x=true:=by simpa using hc
    have hz:=zz_lt hx2
    refine Wc.skip ?_;refine gM fun K F=>?_;simp only[go_sem,hlen,h14,h15,h16,h4];refine gP (pf257 x hx2) ?_;simp only[go_sem,hlen,h14,h15,h16,h4];refine call177 (L1:=[]) (L2:=[]) (M:=[]) (OA.adv (OA.adv (OA.adv (OA.adv hb)))) (by simp only[St.nx_adv];omega) kO kO fun b' s' hb' hnx=>?_;simp only[go_sem,hlen,h14,h15,h16,h4];apply F;clear F K;apply gR (by simp only[go_sem,hlen,h14,h15,h16,h4,i64n i kO];rfl)
    have hz10:=vb_len10 (n:=zz x) kO
    refine⟨l.length-(i+1),kO,i+1,b',ib+(vb (zz x)).length,rfl,kO,rfl,by simp only[go_sem,hlen],by simp only[go_sem,hlen,h14,h15,h16,h4],by simp only[go_sem,hlen,h14,h15,h16,h4],by simp only[go_sem,hlen,h14,h15,h16,h4],by simp only[go_sem,hlen,h14,h15,h16,h4],?_,kO,?_⟩
    ·rw[encL_take hx,← List.append_assoc,List.map_append]
     simpa only[St.nx_adv,List.nil_append] using(hb'.adv (n:=2)).mono (Nat.le_add_right _ 2)
    ·rw[take_snoc hx,List.all_append,hall];simp[hx2]
  ·have hil : i = l.length := by have : ¬ (i : Int) < l.length := by simpa using hc
                                 omega
   subst hil
   rw[List.take_length] at hb hall
   refine Wc.exit ?_;refine Wc.seq ?_
   have hlo:=(hb.own _ (List.mem_cons_self ..)).lo
   have e:encI l=(vb l.length++encL l,0):=by rw[e0,if_pos hall]
   have hle:(vb l.length++encL l).length=ib:=by
    have:=(hb.own _ (List.mem_cons_self ..)).1
    simpa using this
   apply gR (by simp only[go_sem,hlen,h14,h15,h16,h4,hlo,allM_bytes,hle];rfl)
   rw[e]
   exact wr (gV [.tmp 2,.tmp 3] [.c (.p (.str (vb l.length++encL l))),.c (.p (.int .i64 0))] kL)
 ·refine⟨0,b0,(vb l.length).length,rfl,kO,rfl,rfl,rfl,rfl,rfl,rfl,?_,kO,rfl⟩
  simpa[encL,St.nx_adv] using(hb0.adv (n:=3)).mono (Nat.le_add_right _ 3)
def appS (t:List UInt8)(n:Int):List UInt8×Int:=if inR n then (t++vb (zz n),0) else ([],2)
theorem pf194 (t:List UInt8)(n:Int)(ht:t.length≤4611686018427387904):Pf E0 194 [.c (.p (.str t)),.c (.p (.int .i64 n))] (.tup [.c (.p (.str (appS t n).1)),.c (.p (.int .i64 (appS t n).2))]):=by
 refine gQ (fn:=Tryz.f194) ?_;simp only[gL,Tryz.ntmps194,Nat.reduceSub,Nat.reduceAdd];refine gY ?_;refine gO ?_
 by_cases h:n < -1152921504606846976
 ·apply gR kB;refine Wc.cond (t:=true) rfl (fun _=>?_) (fun h=>by cases h);apply gS kB
  have e:appS t n=([],2):=by unfold appS;rw[if_neg];simp[inR];omega
  rw[e]
  exact wr (gU [.tmp 4,.tmp 5] [.c (.p (.str [])),.c (.p (.int .i64 2))])
 ·apply gR kB;refine Wc.cond (t:=decide (1152921504606846976<n)) rfl (fun hc=>?_) (fun hc=>?_)
  ·have hc':1152921504606846976<n:=by simpa using hc
   apply gS kB
   have e:appS t n=([],2):=by unfold appS;rw[if_neg];simp[inR];omega
   rw[e]
   exact wr (gU [.tmp 4,.tmp 5] [.c (.p (.str [])),.c (.p (.int .i64 2))])
  ·have hc':¬ 1152921504606846976<n:=by simpa using hc
   have hr:inR n=true:=by simp[inR];omega
   have e:appS t n=(t++vb (zz n),0):=by unfold appS;rw[if_pos hr]
   have hz:=zz_lt hr
   have hl:=vb_len10 (n:=zz n) kO
   have hlt:¬ (9223372036854775807<t.length+(vb (zz n)).length):=kO
   refine Wc.skip (Wc.seq (Wc.seq ?_));apply gR kB;refine Wc.cond (t:=decide (n<0)) rfl (fun hc=>?_) (fun hc=>?_)
   ·have hn:n<0:=by simpa using hc
    have e1:IntKind.i64.wrap (IntKind.i64.wrap (-2*n)-1)=(zz n:Int):=by rw[wi64,wi64];unfold zz;rw[if_neg kO];omega
    refine gN fun K F=>?_;simp only[go_sem,h,e1]
    have hp:=pf237 (zz n:Int) kO kO
    rw[Int.toNat_natCast] at hp
    refine gP hp ?_;simp only[go_sem,hlt];apply F;clear F K
    rw[e]
    exact wr (gU [.tmp 4,.tmp 5] [.c (.p (.str (t++vb (zz n)))),.c (.p (.int .i64 0))])
   ·have hn:¬ n<0:=by simpa using hc
    have e1:IntKind.i64.wrap (2*n)=(zz n:Int):=by rw[wi64];unfold zz;rw[if_pos kO];omega
    refine Wc.skip (Wc.seq ?_);refine gM fun K F=>?_;simp only[go_sem,h,e1]
    have hp:=pf237 (zz n:Int) kO kO
    rw[Int.toNat_natCast] at hp
    refine gP hp ?_;simp only[go_sem,hlt];apply F;clear F K
    rw[e]
    exact wr (gU [.tmp 4,.tmp 5] [.c (.p (.str (t++vb (zz n)))),.c (.p (.int .i64 0))])
theorem encL_len (l:List Int)(h:l.all inR=true):(encL l).length≤10*l.length:=by
 induction l with
 |nil=>simp[encL]
 |cons x r ih =>
  simp only[List.all_cons,Bool.and_eq_true] at h
  have:=ih h.2
  have h2:=vb_len10 (n:=zz x) (by have:=zz_lt h.1;omega)
  simp only[encL,List.flatMap_cons,List.length_append,List.length_cons] at this ⊢;omega
def diffs:List Int→List Int
 |x::y::r=>(y-x)::diffs (y::r)
 |_=>[]
theorem diffs_take:∀ {l:List Int}{i:Nat}{x y:Int},1≤i→l[i]? = some x→l[i-1]? = some y→diffs (l.take (i+1))=diffs (l.take i)++[x-y]
 |[],i,x,y,h1,hx,hy=>by simp at hx
 |a::r,1,x,y,h1,hx,hy=>by
  simp at hx hy;subst hy;cases r with
  |nil=>simp at hx
  |cons b r=>simp at hx;subst hx;simp[diffs]
 |a::r,i+2,x,y,h1,hx,hy=>by
  cases r with
  |nil=>simp at hx
  |cons b r =>
   have:=diffs_take (l:=b::r) (i:=i+1) kO (by simpa using hx) (by simpa using hy)
   simp only[List.take_succ_cons,diffs,List.cons_append] at this ⊢
   rw[this]
theorem pf255 (l:List Int)(hl:l.length<2^40)(hb:∀ x∈l,-2305843009213693952≤x∧x≤2305843009213693952):Pf E0 255 [.c (.p (.lst l.length (l.map pI)))] (P' (.lst (diffs l).length ((diffs l).map pI))):=by
 refine gQ (fn:=Tryz.f255) ?_;simp only[gL,Tryz.ntmps255,Nat.reduceSub,Nat.reduceAdd];refine gY ?_;refine gY ?_;refine gO ?_;refine gZ ?_
 refine Wc.block (Wc.loop (fun k y => ∃ (i : Nat) (b : D), k = l.length - i ∧ 1 ≤ i ∧ (i ≤ l.length ∨ i = 1) ∧ y.ds = [] ∧ y.e.length = 25 ∧ y.e.getD 0 .junk = P' (.lst l.length (l.map pI)) ∧ y.e.getD 4 .junk = P' (.int .i64 i) ∧ y.e.getD 3 .junk = b ∧
  OA y.s.nx y.s [(1,b,i-1,(diffs (l.take i)).map pI)] []) ?_ (k:=l.length-1) ?_)
 ·rintro k ⟨e,ds,s1⟩ ⟨i,b,rfl,hi1,hi,rfl,hlen,h0,h4,h3,hb0⟩;simp only at hlen h0 h4 h3 hb0;refine gO ?_;apply gR (by simp only[go_sem,hlen,h0,h4,h3];rfl);refine Wc.cond (t:=decide ((i:Int)<l.length)) kL (fun hc=>?_) (fun hc=>?_)
  ·have hil : i < l.length := by have : (i : Int) < l.length := by simpa using hc
                                 omega
   obtain⟨x,hx⟩:=gE hil
   obtain⟨y,hy⟩:∃ y,l[i-1]? = some y:=⟨l[i-1],List.getElem?_eq_getElem kO⟩
   have hbx:=hb x (gw hx)
   have hby:=hb y (gw hy)
   have hix:=ixA ti175 rfl ti3 (j:=i) (m:=l.length) (cs:=l.map pI) hil kS kD
   have hca:=rpA (off:=i) (drop_map pI hx) (by simp;omega)
   have hiy:=ixA ti175 rfl ti3 (j:=i-1) (m:=l.length) (cs:=l.map pI) kO kS kD
   have hcb:=rpA (off:=i-1) (drop_map pI hy) (by simp;omega)
   have e1:IntKind.i64.wrap ((i:Int)-1)=((i-1:Nat):Int):=by rw[wi64];omega
   have e2:IntKind.i64.wrap (x-y)=x-y:=by rw[wi64];omega
   refine Wc.skip (Wc.seq (Wc.block ?_));refine Wc.regD fun K F=>?_;simp only[go_sem,hlen,h0,h4,h3,hix,hca,hiy,hcb,e1,e2];refine OA.app (L1:=[]) (L2:=[]) (by_:=8) (n:=i-1) (m:=1) (ys:=[pI (x-y)]) (OA.put (hb0.adv.adv) kO) kO ⟨_,ti175,rfl⟩ ti3 rfl rfl rfl kD kD kA rfl kO fun b' s' hb' hnx=>?_;simp only[go_sem,hlen,h0,h4,h3];apply F;clear F K;apply gR (by simp only[go_sem,hlen,h0,h4,h3,i64n i kO];rfl)
   refine⟨l.length-(i+1),kO,i+1,b',rfl,kO,.inl kO,rfl,by simp only[go_sem,hlen],by simp only[go_sem,hlen,h0,h4,h3],by simp only[go_sem,hlen,h0,h4,h3],by simp only[go_sem,hlen,h0,h4,h3],?_⟩
   have e3:i-1+1=i+1-1:=kO
   have e4:(diffs (l.take (i+1))).map pI=(diffs (l.take i)).map pI++[pI (x-y)]:=by rw[diffs_take hi1 hx hy];simp
   rw[e4,← e3]
   have:=(hb'.mono (b':=s'.nx) (by rw[hnx];simp only[St.nx_put,St.nx_adv];omega)).adv (n:=3)
   simpa only[St.nx_adv,List.nil_append] using this.mono (Nat.le_add_right _ 3)
  ·have hil : l.length ≤ i := by have : ¬ (i : Int) < l.length := by simpa using hc
                                 omega
   rw[List.take_of_length_le hil] at hb0
   have hl2:(diffs l).length=i-1:=by
    have:=(hb0.own _ (List.mem_cons_self ..)).1
    simpa using this
   obtain⟨c,rfl⟩:=(hb0.own _ (List.mem_cons_self ..)).v
   refine Wc.exit ?_;apply gS (by simp only[go_sem,hlen,h0,h4,h3];rfl)
   rw[hl2]
   exact wr (Pf.retO [.tmp 2] c rfl rfl kL (((hb0.adv (n:=1)).adv (n:=1)).own _ (List.mem_cons_self ..)))
 ·refine⟨1,_,rfl,kO,.inr rfl,rfl,rfl,rfl,rfl,rfl,?_⟩
  have:diffs (l.take 1)=[]:=by cases l<;>rfl
  rw[this]
  exact(s00_oa.adv.adv.adv).nil.mono (Nat.le_of_ble_eq_true rfl)
theorem pf195 (l:List Int)(hl:l.length<2^40)(hb:∀ x∈l,-2305843009213693952≤x∧x≤2305843009213693952):Pf E0 195 [.c (.p (.lst l.length (l.map pI)))] (P' (.lst (diffs l).length ((diffs l).map pI))):=by
 refine gQ (fn:=Tryz.f195) ?_;simp only[gL,Tryz.ntmps195,Nat.reduceSub,Nat.reduceAdd];refine gY ?_;refine gY ?_;refine gO ?_;refine gZ ?_
 refine Wc.block (Wc.loop (fun k y => ∃ (i : Nat) (b : D), k = l.length - i ∧ 1 ≤ i ∧ (i ≤ l.length ∨ i = 1) ∧ y.ds = [] ∧ y.e.length = 26 ∧ y.e.getD 0 .junk = P' (.lst l.length (l.map pI)) ∧ y.e.getD 4 .junk = P' (.int .i64 i) ∧ y.e.getD 3 .junk = b ∧
  OA y.s.nx y.s [(1,b,i-1,(diffs (l.take i)).map pI)] []) ?_ (k:=l.length-1) ?_)
 ·rintro k ⟨e,ds,s1⟩ ⟨i,b,rfl,hi1,hi,rfl,hlen,h0,h4,h3,hb0⟩;simp only at hlen h0 h4 h3 hb0;refine gO ?_;apply gR (by simp only[go_sem,hlen,h0,h4,h3];rfl);refine Wc.cond (t:=decide ((i:Int)<l.length)) kL (fun hc=>?_) (fun hc=>?_)
  ·have hil : i < l.length := by have : (i : Int) < l.length := by simpa using hc
                                 omega
   obtain⟨x,hx⟩:=gE hil
   obtain⟨y,hy⟩:∃ y,l[i-1]? = some y:=⟨l[i-1],List.getElem?_eq_getElem kO⟩
   have hbx:=hb x (gw hx)
   have hby:=hb y (gw hy)
   have hix:=ixA ti175 rfl ti3 (j:=i) (m:=l.length) (cs:=l.map pI) hil kS kD
   have hca:=rpA (off:=i) (drop_map pI hx) (by simp;omega)
   have hiy:=ixA ti175 rfl ti3 (j:=i-1) (m:=l.length) (cs:=l.map pI) kO kS kD
   have hcb:=rpA (off:=i-1) (drop_map pI hy) (by simp;omega)
   have e1:IntKind.i64.wrap ((i:Int)-1)=((i-1:Nat):Int):=by rw[wi64];omega
   have e2:IntKind.i64.wrap (x-y)=x-y:=by rw[wi64];omega
   refine Wc.skip (Wc.seq (Wc.block ?_));refine Wc.regD fun K F=>?_;simp only[go_sem,hlen,h0,h4,h3,hix,hca,hiy,hcb,e1,e2];refine OA.app (L1:=[]) (L2:=[]) (by_:=8) (n:=i-1) (m:=1) (ys:=[pI (x-y)]) (OA.put (hb0.adv.adv) kO) kO ⟨_,ti175,rfl⟩ ti3 rfl rfl rfl kD kD kA rfl kO fun b' s' hb' hnx=>?_;simp only[go_sem,hlen,h0,h4,h3];apply F;clear F K;apply gR (by simp only[go_sem,hlen,h0,h4,h3,i64n i kO];rfl)
   refine⟨l.length-(i+1),kO,i+1,b',rfl,kO,.inl kO,rfl,by simp only[go_sem,hlen],by simp only[go_sem,hlen,h0,h4,h3],by simp only[go_sem,hlen,h0,h4,h3],by simp only[go_sem,hlen,h0,h4,h3],?_⟩
   have e3:i-1+1=i+1-1:=kO
   have e4:(diffs (l.take (i+1))).map pI=(diffs (l.take i)).map pI++[pI (x-y)]:=by rw[diffs_take hi1 hx hy];simp
   rw[e4,← e3]
   have:=(hb'.mono (b':=s'.nx) (by rw[hnx];simp only[St.nx_put,St.nx_adv];omega)).adv (n:=3)
   simpa only[St.nx_adv,List.nil_append] using this.mono (Nat.le_add_right _ 3)
  ·have hil : l.length ≤ i := by have : ¬ (i : Int) < l.length := by simpa using hc
                                 omega
   rw[List.take_of_length_le hil] at hb0
   have hl2:(diffs l).length=i-1:=by
    have:=(hb0.own _ (List.mem_cons_self ..)).1
    simpa using this
   obtain⟨c,rfl⟩:=(hb0.own _ (List.mem_cons_self ..)).v
   refine Wc.exit ?_;apply gS (by simp only[go_sem,hlen,h0,h4,h3];rfl)
   rw[hl2]
   exact wr (Pf.retO [.tmp 2] c rfl rfl kL (((hb0.adv (n:=1)).adv (n:=1)).own _ (List.mem_cons_self ..)))
 ·refine⟨1,_,rfl,kO,.inr rfl,rfl,rfl,rfl,rfl,rfl,?_⟩
  have:diffs (l.take 1)=[]:=by cases l<;>rfl
  rw[this]
  exact((s00_oa.adv.adv).front (es:=1) (n:=0) (cs:=[]) kO rfl).adv.mono (Nat.le_of_ble_eq_true rfl)
theorem pf290 (t:List UInt8)(n:Int)(ht:t.length≤4611686018427387904):Pf E0 290 [.c (.p (.str t)),.c (.p (.int .i64 n))] (.tup [.c (.p (.str (appS t n).1)),.c (.p (.int .i64 (appS t n).2))]):=by
 refine gQ (fn:=Tryz.f290) ?_;simp only[gL,Tryz.ntmps290,Nat.reduceSub,Nat.reduceAdd];refine gY ?_;refine gO ?_;refine gM fun K F=>?_;simp only[go_sem];refine gP (pf256 n) ?_;simp only[go_sem];apply F;clear F K;refine Wc.cond (t:=!inR n) rfl (fun hc=>?_) (fun hc=>?_)
 ·have hr:inR n=false:=by simpa using hc
  have e:appS t n=([],2):=by unfold appS;rw[hr];rfl
  refine gY ?_
  rw[e]
  exact wr (gU [.tmp 4,.tmp 5] [.c (.p (.str [])),.c (.p (.int .i64 2))])
 ·have hr:inR n=true:=by simpa using hc
  have e:appS t n=(t++vb (zz n),0):=by unfold appS;rw[hr];rfl
  have hz:=zz_lt hr
  have hl:=vb_len10 (n:=zz n) kO
  have hlt:¬ (9223372036854775807<t.length+(vb (zz n)).length):=kO
  refine Wc.skip (Wc.seq ?_);refine gM fun K F=>?_;simp only[go_sem];refine gP (pf257 n hr) ?_;simp only[go_sem];refine call177 (L1:=[]) (L2:=[]) (M:=[]) (OA.nil (s00_oa.adv.adv.adv)) kO kO kO fun x' s' hx hnx=>?_
  have hlo:=(hx.own _ (List.mem_cons_self ..)).listOf
  simp only[List.nil_append,Nat.zero_add] at hlo;simp only[go_sem,hlo,allM_bytes,hlt];apply F;clear F K
  rw[e]
  exact wr (gU [.tmp 4,.tmp 5] [.c (.p (.str (t++vb (zz n)))),.c (.p (.int .i64 0))])
theorem pf277 (n:Int):Pf E0 277 [.c (.p (.int .i64 n))] (P' (.str (appV [] n).1)):=by
 refine gQ (fn:=Tryz.f277) ?_;simp only[gL,Tryz.ntmps277,Nat.reduceSub,Nat.reduceAdd];refine gY ?_;refine gN fun K F=>?_;simp only[go_sem];refine gP (pf100 [] n kD) ?_;simp only[go_sem];apply F;clear F K;refine gY ?_;exact wr (gU [.tmp 2] [.c (.p (.str (appV [] n).1))])
theorem pf278 (n:Int):Pf E0 278 [.c (.p (.int .i64 n))] (P' (.str (appS [] n).1)):=by
 refine gQ (fn:=Tryz.f278) ?_;simp only[gL,Tryz.ntmps278,Nat.reduceSub,Nat.reduceAdd];refine gY ?_;refine gN fun K F=>?_;simp only[go_sem];refine gP (pf290 [] n kD) ?_;simp only[go_sem];apply F;clear F K;refine gY ?_;exact wr (gU [.tmp 2] [.c (.p (.str (appS [] n).1))])
def runE:List Int→List UInt8
 |[]=>[]
 |x::r=>vb (zz x)++(vb ((r.takeWhile (· == x)).length+1)++runE (r.dropWhile (· == x)))
termination_by l=>l.length
decreasing_by
 have:=(List.dropWhile_sublist (p:=(· == x)) (l:=r)).length_le
 simp only[List.length_cons];omega
theorem while_rep (x:Int):∀(m:Nat) (r:List Int),(∀ y,r[0]? = some y→y≠x)→((List.replicate m x++r).takeWhile (· == x)).length=m∧(List.replicate m x++r).dropWhile (· == x)=r
 |0,[],_=>⟨rfl,rfl⟩
 |0,y::r,h=>by
  have:(y==x)=false:=by simpa using h y rfl
  simp[List.takeWhile,List.dropWhile,this]
 |m+1,r,h=>by
  obtain⟨h1,h2⟩:=while_rep x m r h
  simp only[List.replicate_succ,List.cons_append,List.takeWhile_cons,beq_self_eq_true,if_true,List.length_cons,List.dropWhile_cons]
  exact⟨by rw[h1],h2⟩
theorem drop_rep {l:List Int}{x:Int}{i:Nat}:∀ {m:Nat},(∀ j,i≤j→j<i+m→l[j]? = some x)→l.drop i=List.replicate m x++l.drop (i+m)
 |0,_=>by simp
 |m+1,h=>by
  have ih:=drop_rep (l:=l) (x:=x) (i:=i) (m:=m) fun j h1 h2=>h j h1 kO
  have h1:=h (i+m) kO kO
  have hlt:=(List.getElem?_eq_some_iff.1 h1).1
  have hx:=(List.getElem?_eq_some_iff.1 h1).2
  rw[ih,List.drop_eq_getElem_cons hlt,hx,List.replicate_succ',List.append_assoc]
  rfl
theorem run_step {l:List Int}{x:Int}{i k:Nat}(hik:i<k)(h:∀ j,i≤j→j<k→l[j]? = some x)(hk:∀ y,l[k]? = some y→y≠x):runE (l.drop i)=vb (zz x)++(vb (k-i)++runE (l.drop k)):=by
 obtain⟨m,rfl⟩:∃ m,k=i+(m+1):=⟨k-i-1,kO⟩
 have e:=drop_rep (l:=l) (x:=x) (i:=i) (m:=m+1) h
 rw[e,List.replicate_succ,List.cons_append,runE]
 obtain⟨h1,h2⟩:=while_rep x m (l.drop (i+(m+1))) (fun y hy=>hk y (by simpa using hy))
 rw[h1,h2]
 have:i+(m+1)-i=m+1:=kO
 rw[this]
theorem pf196 (l:List Int)(hl:l.length<2^40)(hr:l.all inR=true):Pf E0 196 [.c (.p (.lst l.length (l.map pI)))] (P' (.str (runE l))):=by
 have hR:∀ x∈l,inR x=true:=List.all_eq_true.1 hr
 refine gQ (fn:=Tryz.f196) ?_;simp only[gL,Tryz.ntmps196,Nat.reduceSub,Nat.reduceAdd];refine gY ?_;refine gY ?_;refine gO ?_;refine gZ ?_;refine Wc.block (Wc.loop (fun k y=>∃(i:Nat) (t:List UInt8),k=l.length-i∧i≤l.length∧y.ds=[]∧y.e.length=47∧y.e.getD 0 .junk=P' (.lst l.length (l.map pI))∧y.e.getD 4 .junk=P' (.int .i64 i)∧y.e.getD 3 .junk=P' (.str t)∧t++runE (l.drop i)=runE l∧t.length≤20*i) ?_ (k:=l.length) ?_)
 ·rintro k ⟨e,ds,s1⟩ ⟨i,t,rfl,hi,rfl,hlen,h0,h4,h3,ht,htl⟩;simp only at hlen h0 h4 h3;refine gO ?_;apply gR (by simp only[go_sem,hlen,h0,h4,h3];rfl);refine Wc.cond (t:=decide ((i:Int)<l.length)) kL (fun hc=>?_) (fun hc=>?_)
  ·have hil : i < l.length := by have : (i : Int) < l.length := by simpa using hc
                                 omega
   obtain⟨x,hx⟩:=gE hil
   have hxR:=hR x (gw hx)
   have hix:=ixA ti175 rfl ti3 (j:=i) (m:=l.length) (cs:=l.map pI) hil kS kD
   have hca:=rpA (off:=i) (drop_map pI hx) (by simp;omega)
   refine Wc.skip (Wc.block (Wc.seq ?_));apply gR (by simp only[go_sem,hlen,h0,h4,h3];rfl);refine Wc.seqA (fun y=>∃ k,i<k∧k≤l.length∧(∀ j,i≤j→j<k→l[j]? = some x)∧(∀ y,l[k]? = some y→y≠x)∧y.ds=[]∧y.e.length=47∧y.e.getD 0 .junk=P' (.lst l.length (l.map pI))∧y.e.getD 4 .junk=P' (.int .i64 i)∧y.e.getD 3 .junk=P' (.str t)∧y.e.getD 5 .junk=P' (.int .i64 k)) ?_ ?_
   ·refine Wc.block (Wc.loop (fun q y=>∃(k:Nat),q=l.length-k∧i≤k∧k≤l.length∧(∀ j,i≤j→j<k→l[j]? = some x)∧y.ds=[]∧y.e.length=47∧y.e.getD 0 .junk=P' (.lst l.length (l.map pI))∧y.e.getD 4 .junk=P' (.int .i64 i)∧y.e.getD 3 .junk=P' (.str t)∧y.e.getD 5 .junk=P' (.int .i64 k)) ?_ (k:=l.length-i) ?_)
    ·clear hlen h0 h4 h3 e s1;rintro q ⟨e,ds,s1⟩ ⟨k,rfl,hik,hkl,hall,rfl,hlen,h0,h4,h3,h5⟩;simp only at hlen h0 h4 h3 h5;refine gO ?_
     by_cases hkl2:k<l.length
     ·obtain⟨y,hy⟩:=gE hkl2
      have hiy:=ixA ti175 rfl ti3 (j:=k) (m:=l.length) (cs:=l.map pI) hkl2 kS kD
      have hcb:=rpA (off:=k) (drop_map pI hy) (by simp;omega)
      have hd:((k:Int)<(l.length:Int))=True:=by simp;omega
      refine Wc.regD fun K F=>?_;simp only[go_sem,hlen,h0,h4,h3,h5,hix,hca,hiy,hcb,hd];apply F;clear F K;refine Wc.cond (t:=(y==x)) (by simp only[go_sem,hlen,hd]) (fun hc=>?_) (fun hc=>?_)
      ·have hyx:y=x:=by simpa using hc
       refine Wc.skip (Wc.block ?_);apply gR (by simp only[go_sem,hlen,h0,h4,h3,h5,i64n k kO];rfl)
       refine⟨l.length-(k+1),kO,k+1,rfl,kO,kO,fun j h1 h2=>?_,rfl,by simp only[go_sem,hlen],by simp only[go_sem,hlen,h0],by simp only[go_sem,hlen,h4],by simp only[go_sem,hlen,h3],by simp only[go_sem,hlen]⟩
       rcases Nat.lt_or_ge j k with h|h
       ·exact hall j h1 h
       ·have:j=k:=kO
        rw[this,hy,hyx]
      ·have hyx:y≠x:=by simpa using hc
       have hki:i≠k:=fun e=>by rw[← e,hx] at hy;cases hy;exact hyx rfl
       exact Wc.exit ⟨rfl,k,kO,hkl,hall,fun z hz=>(by rw[hy] at hz;cases hz;exact hyx),rfl,by simp only[go_sem,hlen],by simp only[go_sem,hlen,h0],by simp only[go_sem,hlen,h4],by simp only[go_sem,hlen,h3],by simp only[go_sem,hlen,h5]⟩
     ·have hd:((k:Int)<(l.length:Int))=False:=by simp;omega
      refine Wc.regD fun K F=>?_;simp only[go_sem,hlen,h0,h4,h3,h5,hd];apply F;clear F K;refine Wc.cond (t:=false) (by simp only[go_sem,hlen,hd]) (fun hc=>by cases hc) (fun hc=>?_);exact Wc.exit ⟨rfl,k,kO,hkl,hall,fun z hz=>(by rw[List.getElem?_eq_none kO] at hz;cases hz),rfl,by simp only[go_sem,hlen],by simp only[go_sem,hlen,h0],by simp only[go_sem,hlen,h4],by simp only[go_sem,hlen,h3],by simp only[go_sem,hlen,h5]⟩
    ·exact⟨i,rfl,Nat.le_refl _,kO,fun j h1 h2=>kO,rfl,by simp only[go_sem,hlen],by simp only[go_sem,hlen,h0],by simp only[go_sem,hlen,h4],by simp only[go_sem,hlen,h3],by simp only[go_sem,hlen,h4]⟩
   ·clear hlen h0 h4 h3 e s1
    rintro⟨e,ds,s1⟩ ⟨k,hik,hkl,hall,hend,rfl,hlen,h0,h4,h3,h5⟩
    simp only at hlen h0 h4 h3 h5
    have hz:=zz_lt hxR
    have z1:=vb_len10 (n:=zz x) kO
    have z2:=vb_len10 (n:=k-i) kO
    have ea:appS t x=(t++vb (zz x),0):=by unfold appS;rw[hxR];rfl
    have eb:appV (t++vb (zz x)) ((k-i:Nat):Int)=(t++vb (zz x)++vb (k-i),0):=by unfold appV;rw[if_neg kO,Int.toNat_natCast]
    have e1:IntKind.i64.wrap ((k:Int)-i)=((k-i:Nat):Int):=by rw[wi64];omega
    refine gN fun K F=>?_;simp only[go_sem,hlen,h0,h4,h3,h5,hix,hca];refine gP (pf194 t x kO) ?_;simp only[go_sem,hlen,h0,h4,h3,h5,ea];apply F;clear F K;refine gN fun K F=>?_;simp only[go_sem,hlen,h0,h4,h3,h5,e1,ea];refine gP (pf192 (t++vb (zz x)) ((k-i:Nat):Int) (by simp;omega)) ?_;simp only[go_sem,hlen,h0,h4,h3,h5,eb];apply F;clear F K;apply gR (by simp only[go_sem,hlen,h0,h4,h3,h5];rfl)
    refine⟨l.length-k,kO,k,t++vb (zz x)++vb (k-i),rfl,kO,rfl,by simp only[go_sem,hlen],by simp only[go_sem,hlen,h0],by simp only[go_sem,hlen],by simp only[go_sem,hlen,eb],?_,by simp;omega⟩
    rw[← ht,run_step hik hall hend];simp only[List.append_assoc]
  ·have hil : i = l.length := by have : ¬ (i : Int) < l.length := by simpa using hc
                                 omega
   have ht':t=runE l:=by rw[← ht,hil,List.drop_length,runE,List.append_nil]
   refine Wc.exit ?_;apply gS (by simp only[go_sem,hlen,h0,h4,h3];rfl)
   rw[← ht']
   exact wr (gV [.tmp 2] [.c (.p (.str t))] kL)
 ·exact⟨0,[],rfl,kO,rfl,rfl,rfl,rfl,rfl,by simp,by simp⟩
def inV (n:Int):Bool:=decide (-576460752303423488≤n)&&decide (n≤576460752303423488)
def first1:List Int→List UInt8
 |[]=>[]
 |x::_=>vb (zz x)
def encV (l:List Int):List UInt8×Int:=if 20000<l.length then ([],4) else if l.all inV then (vb l.length++first1 l++runE (diffs l),0) else ([],2)
theorem diffs_len:∀ l:List Int,(diffs l).length=l.length-1
 |[]=>rfl
 |[x]=>rfl
 |x::y::r=>by have:=diffs_len (y::r);simp only[diffs,List.length_cons] at this ⊢;omega
theorem diffs_mem {a b:Int}:∀ {l:List Int},(∀ x∈l,a≤x∧x≤b)→∀ d∈diffs l,a-b≤d∧d≤b-a
 |[],_,d,hd=>by simp[diffs] at hd
 |[x],_,d,hd=>by simp[diffs] at hd
 |x::y::r,h,d,hd=>by
  simp only[diffs,List.mem_cons] at hd;rcases hd with rfl|hd
  ·have h1:=h x kS
   have h2:=h y kS
   omega
  ·exact diffs_mem (fun z hz=>h z (List.mem_cons_of_mem _ hz)) d hd
theorem runE_len:∀(n:Nat)(l:List Int),l.length≤n→l.all inR=true→l.length<2^40→(runE l).length≤20*l.length
 |_,[],_,_,_=>by simp[runE]
 |0,x::r,h,_,_=>by simp at h
 |n+1,x::r,h,hr,hb=>by
  simp only[List.all_cons,Bool.and_eq_true] at hr
  rw[runE]
  have hd:=(List.dropWhile_sublist (p:=(· == x)) (l:=r))
  have h0:=hd.length_le
  have ih:=runE_len n (r.dropWhile (· == x)) (by simp at h;omega) (List.all_eq_true.2 fun z hz=>List.all_eq_true.1 hr.2 z (hd.subset hz)) (by simp at hb;omega)
  have h1:=vb_len10 (n:=zz x) (by have:=zz_lt hr.1;omega)
  have h2:=vb_len10 (n:=(r.takeWhile (· == x)).length+1) (by have:=(List.takeWhile_sublist (p:=(· == x)) (l:=r)).length_le;simp at hb;omega)
  simp only[List.length_append,List.length_cons];omega
theorem inV_R {n:Int}(h:inV n=true):inR n=true:=by simp[inV] at h;simp[inR];omega
theorem inV_all {l:List Int}(h:l.all inV=true):∀ x∈l,-576460752303423488≤x∧x≤576460752303423488:=fun x hx=>by
 have:=List.all_eq_true.1 h x hx
 simpa[inV] using this
theorem pf197 (l:List Int)(hl:l.length<2^40):Pf E0 197 [.c (.p (.lst l.length (l.map pI)))] (.tup [.c (.p (.str (encV l).1)),.c (.p (.int .i64 (encV l).2))]):=by
 refine gQ (fn:=Tryz.f197) ?_;simp only[gL,Tryz.ntmps197,Nat.reduceSub,Nat.reduceAdd];refine gY ?_;refine gO ?_;refine gZ ?_;refine Wc.cond (t:=decide ((20000:Int)<l.length)) rfl (fun hc=>?_) (fun hc=>?_)
 ·have hc':(20000:Int)<l.length:=by simpa using hc
  have e:encV l=([],4):=by unfold encV;rw[if_pos kO]
  refine gY ?_
  rw[e]
  exact wr (gU [.tmp 2,.tmp 3] [.c (.p (.str [])),.c (.p (.int .i64 4))])
 have hc':¬ (20000:Int)<l.length:=by simpa using hc
 have e0:encV l=if l.all inV then (vb l.length++first1 l++runE (diffs l),0) else ([],2):=by unfold encV;rw[if_neg kO]
 have hvl:=vb_len10 (n:=l.length) kO
 refine Wc.skip (Wc.seqR (fun y=>l.all inV=true∧y.ds=[]∧y.e.length=50∧y.e.getD 0 .junk=P' (.lst l.length (l.map pI))) ?_ ?_)
 ·refine gY ?_;refine Wc.block (Wc.loop (fun k y=>∃(i:Nat),k=l.length-i∧i≤l.length∧y.ds=[]∧y.e.length=50∧y.e.getD 0 .junk=P' (.lst l.length (l.map pI))∧y.e.getD 4 .junk=P' (.int .i64 i)∧(l.take i).all inV=true) ?_ (k:=l.length) ?_)
  ·rintro k ⟨e,ds,s1⟩ ⟨i,rfl,hi,rfl,hlen,h0,h4,hall⟩;simp only at hlen h0 h4;refine gO ?_;apply gR (by simp only[go_sem,hlen,h0,h4];rfl);refine Wc.cond (t:=decide ((i:Int)<l.length)) kL (fun hc=>?_) (fun hc=>?_)
   ·have hil : i < l.length := by have : (i : Int) < l.length := by simpa using hc
                                  omega
    obtain⟨x,hx⟩:=gE hil
    have hix:=ixA ti175 rfl ti3 (j:=i) (m:=l.length) (cs:=l.map pI) hil kS kD
    have hca:=rpA (off:=i) (drop_map pI hx) (by simp;omega)
    refine Wc.skip (Wc.seq (Wc.block (Wc.seq ?_)))
    have bad:inV x=false→encV l=([],2):=fun hx2=>by
     rw[e0,if_neg]
     intro h
     rw[List.all_eq_true] at h
     have:=h x (gw hx)
     rw[hx2] at this;cases this
    by_cases hlo:x < -576460752303423488
    ·apply gR (by simp only[go_sem,hlen,h0,h4,hix,hca,hlo];rfl);refine Wc.cond (t:=true) kL (fun hc=>?_) (fun hc=>by cases hc);apply gS (by simp only[go_sem,hlen,h0,h4];rfl)
     rw[bad (by simp[inV];omega)]
     exact wr (gV [.tmp 2,.tmp 3] [.c (.p (.str [])),.c (.p (.int .i64 2))] kL)
    ·apply gR (by simp only[go_sem,hlen,h0,h4,hix,hca,hlo];rfl);refine Wc.cond (t:=decide (576460752303423488<x)) kL (fun hc=>?_) (fun hc=>?_)
     ·have hhi:576460752303423488<x:=by simpa using hc
      apply gS (by simp only[go_sem,hlen,h0,h4];rfl)
      rw[bad (by simp[inV];omega)]
      exact wr (gV [.tmp 2,.tmp 3] [.c (.p (.str [])),.c (.p (.int .i64 2))] kL)
     ·have hhi:¬ 576460752303423488<x:=by simpa using hc
      refine Wc.skip ?_;apply gR (by simp only[go_sem,hlen,h0,h4,i64n i kO];rfl)
      refine⟨l.length-(i+1),kO,i+1,rfl,kO,rfl,by simp only[go_sem,hlen],by simp only[go_sem,hlen,h0],by simp only[go_sem,hlen],?_⟩
      rw[take_snoc hx,List.all_append,hall];simp[inV];omega
   ·have hil : i = l.length := by have : ¬ (i : Int) < l.length := by simpa using hc
                                  omega
    subst hil
    rw[List.take_length] at hall
    exact Wc.exit ⟨hall,rfl,by simp only[go_sem,hlen],by simp only[go_sem,hlen,h0]⟩
  ·exact⟨0,rfl,kO,rfl,rfl,rfl,rfl,rfl⟩
 ·rintro⟨e,ds,s1⟩ ⟨hall,rfl,hlen,h0⟩
  simp only at hlen h0
  have hV:=inV_all hall
  have hdR:(diffs l).all inR=true:=List.all_eq_true.2 fun d hd=>by have:=diffs_mem hV d hd;simp[inR];omega
  have hdl:=diffs_len l
  have hrl:=runE_len _ (diffs l) (Nat.le_refl _) hdR kO
  have ea:appV [] (l.length:Int)=(vb l.length,0):=by unfold appV;rw[if_neg kO,Int.toNat_natCast];rfl
  refine gN fun K F=>?_;simp only[go_sem,hlen,h0];refine gP (pf192 [] (l.length:Int) kD) ?_;simp only[go_sem,hlen,h0,ea];apply F;clear F K
  rw[e0,if_pos hall]
  refine Wc.seqA (fun y=>y.ds=[]∧y.e.length=50∧y.e.getD 0 .junk=P' (.lst l.length (l.map pI))∧y.e.getD 5 .junk=P' (.str (vb l.length++first1 l))) ?_ ?_
  ·apply gS (by simp only[go_sem,hlen,h0];rfl);refine Wc.cond (t:=decide (0<(l.length:Int))) kL (fun hc=>?_) (fun hc=>?_)
   ·have hl0 : 0 < l.length := by have : 0 < (l.length : Int) := by simpa using hc
                                  omega
    obtain⟨x,hx⟩:=gE hl0
    have hix:=ixA ti175 rfl ti3 (j:=0) (m:=l.length) (cs:=l.map pI) hl0 kS kD
    rw[show((0:Nat):Int)=0 from rfl,Nat.zero_mul] at hix
    have hca:=rpA (off:=0) (drop_map pI hx) kS
    have hxR:=inV_R (List.all_eq_true.1 hall x (gw hx))
    have eb:appS (vb l.length) x=(vb l.length++first1 l,0):=by
     unfold appS;rw[hxR];cases l with
     |nil=>simp at hl0
     |cons y r=>simp at hx;subst hx;rfl
    refine gM fun K F=>?_;simp only[go_sem,hlen,h0,hix,hca,ea];refine gP (pf194 (vb l.length) x kO) ?_;simp only[go_sem,hlen,h0,eb];apply F;clear F K
    exact⟨rfl,rfl,by simp only[go_sem,hlen],by simp only[go_sem,hlen,h0],by simp only[go_sem,hlen,eb]⟩
   ·have hl0:l=[]:=by
     have:¬ 0<(l.length:Int):=by simpa using hc
     exact List.length_eq_zero_iff.1 kO
    refine Wc.skip ⟨rfl,rfl,by simp only[go_sem,hlen],by simp only[go_sem,hlen,h0],?_⟩;subst hl0;simp only[go_sem,hlen,ea,first1]
  ·clear hlen h0 e s1
   rintro⟨e,ds,s1⟩ ⟨rfl,hlen,h0,h5⟩
   simp only at hlen h0 h5
   have hfl:(first1 l).length≤10:=by
    cases l with
    |nil=>simp[first1]
    |cons x r=>exact vb_len10 (by have:=zz_lt (inV_R (List.all_eq_true.1 hall x kS));omega)
   refine gN fun K F=>?_;simp only[go_sem,hlen,h0,h5];refine gP (pf195 l hl (fun x hx=>by have:=hV x hx;omega)) ?_;simp only[go_sem,hlen,h0,h5];refine gP (pf196 (diffs l) kO hdR) ?_
   have hlt:¬ (9223372036854775807<(vb l.length++first1 l).length+(runE (diffs l)).length):=by simp;omega
   simp only[go_sem,hlen,h0,h5,hlt];apply F;clear F K;exact wr (gV [.tmp 2,.tmp 3] [.c (.p (.str (vb l.length++first1 l++runE (diffs l)))),.c (.p (.int .i64 0))] kL)
end Go.Proofs.YtedcnhbblgmdnaaGreat.Ab
