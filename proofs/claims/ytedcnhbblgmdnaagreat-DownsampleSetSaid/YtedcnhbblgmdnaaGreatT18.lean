/- A part of the proof. -/
import Derived.Test.YtedcnhbblgmdnaaGreatT17
set_option maxHeartbeats 8000000
set_option maxRecDepth 10000
set_option linter.unusedSimpArgs false
set_option linter.unusedVariables false
namespace Go.Proofs.YtedcnhbblgmdnaaGreat.Ab
theorem shrN (k:IntKind)(v n:Nat)(h:n≤k.bits):shrI k (v:Int) (n:Int)=((v / 2 ^ n:Nat):Int):=by
 unfold shrI
 rw[Int.toNat_natCast,Nat.min_eq_left h,Int.fdiv_eq_ediv_of_nonneg _ (by exact_mod_cast Nat.zero_le _)]
 exact_mod_cast rfl
theorem shlN (v n:Nat)(h:n≤64)(hb:v*2 ^ n<2 ^ 63):shlI .i64 (v:Int) (n:Int)=((v*2 ^ n:Nat):Int):=by
 unfold shlI
 rw[Int.toNat_natCast,Nat.min_eq_left (show n≤IntKind.i64.bits from h),wi64]
 have:((v:Int)*2 ^ n)=((v*2 ^ n:Nat):Int):=by exact_mod_cast rfl
 rw[this];omega
abbrev ltab:List UInt8:=(([0,1,2,2,3,3,3,3,4,4,4,4,4,4,4,4,5,5,5,5,5,5,5,5,5,5,5,5,5,5,5,5,6,6,6,6,6,6,6,6,6,6,6,6,6,6,6,6,6,6,6,6,6,6,6,6,6,6,6,6,6,6,6,6].append [7,7,7,7,7,7,7,7,7,7,7,7,7,7,7,7,7,7,7,7,7,7,7,7,7,7,7,7,7,7,7,7,7,7,7,7,7,7,7,7,7,7,7,7,7,7,7,7,7,7,7,7,7,7,7,7,7,7,7,7,7,7,7,7]).append ([8,8,8,8,8,8,8,8,8,8,8,8,8,8,8,8,8,8,8,8,8,8,8,8,8,8,8,8,8,8,8,8,8,8,8,8,8,8,8,8,8,8,8,8,8,8,8,8,8,8,8,8,8,8,8,8,8,8,8,8,8,8,8,8].append [8,8,8,8,8,8,8,8,8,8,8,8,8,8,8,8,8,8,8,8,8,8,8,8,8,8,8,8,8,8,8,8,8,8,8,8,8,8,8,8,8,8,8,8,8,8,8,8,8,8,8,8,8,8,8,8,8,8,8,8,8,8,8,8]))
theorem ltab_get:∀ w:Fin 256,ltab[w.val]? = some (UInt8.ofNat (blen w.val)):=by decide +kernel
theorem blen_le8:∀ w:Fin 256,blen w.val≤8:=by decide +kernel
theorem pf287 (v:Nat)(hv:v<2^64):Pf E0 287 [.c (.p (.int .u64 v))] (P' (pI (blen v))):=by
 refine gQ (fn:=Tryz.f287) ?_;simp only[gL,Tryz.ntmps287,Nat.reduceSub,Nat.reduceAdd];refine gY ?_
 have step:∀(w k n:Nat),blen v=n+blen w→2 ^ k≤w→blen v=(n+k)+blen (w / 2 ^ k):=fun w k n h1 h2=>by rw[h1,blen_shift h2];omega
 refine Wc.seqA (fun y=>∃ w n,y.ds=[]∧y.e.length=25∧y.e.getD 0 .junk=P' (.int .u64 (w:Nat))∧y.e.getD 2 .junk=P' (pI (n:Nat))∧blen v=n+blen w∧w<2^32∧n≤32) ?_ ?_
 ·refine gY ?_;refine Wc.cond (t:=decide ((4294967296:Int)≤(v:Int))) (by simp only[go_sem]) (fun hc=>?_) (fun hc=>?_)
  ·have hge : 4294967296 ≤ v := by have : (4294967296 : Int) ≤ v := by simpa using hc
                                   omega
   have e1:shrI .u64 (v:Int) 32=((v / 2 ^ 32:Nat):Int):=shrN .u64 v 32 (by decide)
   apply gS (by simp only[go_sem,e1];rfl);refine gZ ?_
   exact⟨rfl,v / 2 ^ 32,32,rfl,rfl,rfl,rfl,step v 32 0 (by simp) (by omega),by omega,by omega⟩
  ·have hlt : v < 4294967296 := by have : ¬ (4294967296 : Int) ≤ v := by simpa using hc
                                   omega
   exact Wc.skip ⟨rfl,v,0,rfl,rfl,rfl,rfl,by simp,hlt,by omega⟩
 rintro⟨e,ds,s1⟩ ⟨w,n,rfl,hlen,h0,h2,hb,hw,hn⟩
 simp only at hlen h0 h2;refine Wc.seqA (fun y=>∃ w n,y.ds=[]∧y.e.length=25∧y.e.getD 0 .junk=P' (.int .u64 (w:Nat))∧y.e.getD 2 .junk=P' (pI (n:Nat))∧blen v=n+blen w∧w<2^16∧n≤48) ?_ ?_
 ·apply gS (by simp only[go_sem,hlen,h0,h2];rfl);refine Wc.cond (t:=decide ((65536:Int)≤(w:Int))) (by simp only[go_sem,hlen]) (fun hc=>?_) (fun hc=>?_)
  ·have hge : 65536 ≤ w := by have : (65536 : Int) ≤ w := by simpa using hc
                              omega
   have e1:shrI .u64 (w:Int) 16=((w / 2 ^ 16:Nat):Int):=shrN .u64 w 16 (by decide)
   have e2:IntKind.i64.wrap ((n:Int)+16)=((n+16:Nat):Int):=by rw[wi64];omega
   apply gS (by simp only[go_sem,hlen,h0,h2,e1];rfl);apply gR (by simp only[go_sem,hlen,h0,h2,e2];rfl)
   exact⟨rfl,w / 2 ^ 16,n+16,rfl,by simp only[go_sem,hlen],by simp only[go_sem,hlen],by simp only[go_sem,hlen],step w 16 n hb (by omega),by omega,by omega⟩
  ·have hlt : w < 65536 := by have : ¬ (65536 : Int) ≤ w := by simpa using hc
                              omega
   exact Wc.skip ⟨rfl,w,n,rfl,by simp only[go_sem,hlen],by simp only[go_sem,hlen,h0],by simp only[go_sem,hlen,h2],hb,hlt,by omega⟩
 clear hlen h0 h2 hb hw hn e s1
 rintro⟨e,ds,s1⟩ ⟨w,n,rfl,hlen,h0,h2,hb,hw,hn⟩
 simp only at hlen h0 h2;refine Wc.seqA (fun y=>∃ w n,y.ds=[]∧y.e.length=25∧y.e.getD 0 .junk=P' (.int .u64 (w:Nat))∧y.e.getD 2 .junk=P' (pI (n:Nat))∧blen v=n+blen w∧w<2^8∧n≤56) ?_ ?_
 ·apply gS (by simp only[go_sem,hlen,h0,h2];rfl);refine Wc.cond (t:=decide ((256:Int)≤(w:Int))) (by simp only[go_sem,hlen]) (fun hc=>?_) (fun hc=>?_)
  ·have hge : 256 ≤ w := by have : (256 : Int) ≤ w := by simpa using hc
                            omega
   have e1:shrI .u64 (w:Int) 8=((w / 2 ^ 8:Nat):Int):=shrN .u64 w 8 (by decide)
   have e2:IntKind.i64.wrap ((n:Int)+8)=((n+8:Nat):Int):=by rw[wi64];omega
   apply gS (by simp only[go_sem,hlen,h0,h2,e1];rfl);apply gR (by simp only[go_sem,hlen,h0,h2,e2];rfl)
   exact⟨rfl,w / 2 ^ 8,n+8,rfl,by simp only[go_sem,hlen],by simp only[go_sem,hlen],by simp only[go_sem,hlen],step w 8 n hb (by omega),by omega,by omega⟩
  ·have hlt : w < 256 := by have : ¬ (256 : Int) ≤ w := by simpa using hc
                            omega
   exact Wc.skip ⟨rfl,w,n,rfl,by simp only[go_sem,hlen],by simp only[go_sem,hlen,h0],by simp only[go_sem,hlen,h2],hb,hlt,by omega⟩
 clear hlen h0 h2 hb hw hn e s1
 rintro⟨e,ds,s1⟩ ⟨w,n,rfl,hlen,h0,h2,hb,hw,hn⟩
 simp only at hlen h0 h2;refine Wc.seq ?_
 have e1:IntKind.u8.wrap (w:Int)=w:=by rw[wu8];omega
 have ht:=ltab_get ⟨w,hw⟩
 have hb8:=blen_le8 ⟨w,hw⟩
 simp only at ht hb8
 have e2:(UInt8.ofNat (blen w)).toNat=blen w:=by simp;omega
 have e3:IntKind.i64.wrap ((blen w:Nat):Int)=blen w:=by rw[wi64];omega
 have e4:IntKind.i64.wrap ((n:Int)+(blen w:Nat))=blen v:=by rw[wi64,hb];omega
 apply gR (by simp only[go_sem,hlen,h0,h2,e1,ht,pdOfByte,e2,e3,e4];rfl);exact wr (gV [.tmp 2] [.c (.p (pI (blen v)))] (by simp only[go_sem,hlen]))
theorem pf270 (v:Nat)(hv:v<2^64):Pf E0 270 [.c (.p (.int .u64 v))] (P' (pI (blen v))):=by
 refine gQ (fn:=Tryz.f270) ?_;simp only[gL,Tryz.ntmps270,Nat.reduceSub,Nat.reduceAdd];refine gY ?_;refine Wc.seq (Wc.cond (t:=false) (by simp only[go_sem]) (fun hc=>by cases hc) (fun _=>Wc.skip (Wc.seq ?_)));refine gM fun K F=>?_;simp only[go_sem];refine gP (pf287 v hv) ?_;simp only[go_sem];apply F;clear F K;exact wr (gU [.tmp 2] [.c (.p (pI (blen v)))])
theorem pf247 (q v:Nat)(hq:q≤8)(hv:v≤1099511627776):Pf E0 247 [.c (.p (pI q)),.c (.p (pI v))] (P' (pI (ix q v))):=by
 have p8:2 ^ q≤2 ^ 8:=Nat.pow_le_pow_right (by decide) hq
 have p0:=Nat.two_pow_pos q
 have ps:2 ^ (q+1)=2 ^ q*2:=Nat.pow_succ ..
 have s1:shlI .i64 1 (q:Int)=((2 ^ q:Nat):Int):=by have:=shlN 1 q (by omega) (by omega);simpa using this
 have hq0:((q:Int)<0)=False:=by simp
 refine gQ (fn:=Tryz.f247) ?_;simp only[gL,Tryz.ntmps247,Nat.reduceSub,Nat.reduceAdd];refine gY ?_;refine gO ?_;apply gR (by simp only[go_sem,s1,hq0];rfl);refine Wc.cond (t:=decide ((v:Int)<((2 ^ q:Nat):Int))) (by simp only[go_sem,s1]) (fun hc=>?_) (fun hc=>?_)
 ·have hlt : v < 2 ^ q := by have : (v : Int) < ((2 ^ q : Nat) : Int) := by simpa using hc
                             omega
  rw[ix_lt (by omega)]
  refine gY ?_;exact wr (gU [.tmp 4] [.c (.p (pI v))])
 ·have hge : 2 ^ q ≤ v := by have : ¬ (v : Int) < ((2 ^ q : Nat) : Int) := by simpa using hc
                             omega
  obtain⟨m,hm,h1,h2⟩:=blen_pos (v:=v) (by omega)
  have hqm:q≤m:=by
   rcases Nat.lt_or_ge m q with h3|h3
   ·have:2 ^ (m+1)≤2 ^ q:=Nat.pow_le_pow_right (by decide) h3
    omega
   ·exact h3
  obtain⟨k,rfl⟩:=Nat.exists_eq_add_of_le hqm
  have hk40:q+k≤40:=by
   rcases Nat.lt_or_ge 40 (q+k) with h3|h3
   ·have:2 ^ 41≤2 ^ (q+k):=Nat.pow_le_pow_right (by decide) h3
    omega
   ·exact h3
  have ixe:=ix_closed q k v h1 h2
  have kb:k*2 ^ q≤40*2 ^ 8:=Nat.mul_le_mul (by omega) p8
  have vb':v / 2 ^ k≤v:=Nat.div_le_self _ _
  have c1:IntKind.u64.wrap (v:Int)=v:=by rw[wu64];omega
  have c2:IntKind.i64.wrap (((q+(k+1):Nat):Int)-1)=((q+k:Nat):Int):=by rw[wi64];omega
  have c3:IntKind.i64.wrap (((q+k:Nat):Int)-q)=(k:Int):=by rw[wi64];omega
  have c4:shlI .i64 (k:Int) (q:Int)=((k*2 ^ q:Nat):Int):=shlN k q (by omega) (by omega)
  have c5:shrI .i64 (v:Int) (k:Int)=((v / 2 ^ k:Nat):Int):=shrN .i64 v k (by show k≤64;omega)
  have c6:IntKind.i64.wrap (((k*2 ^ q:Nat):Int)+((v / 2 ^ k:Nat):Int))=((ix q v:Nat):Int):=by rw[wi64,ixe];omega
  have hk0:((k:Int)<0)=False:=by simp
  refine Wc.skip (Wc.seq ?_);refine gM fun K F=>?_;simp only[go_sem,c1];refine gP (pf270 v (by omega)) ?_;simp only[go_sem,hm,c2,c3];apply F;clear F K;refine Wc.seq ?_;refine Wc.regD fun K F=>?_;simp only[go_sem,hq0,hk0,c4,c5,c6];apply F;clear F K;exact wr (gU [.tmp 4] [.c (.p (pI (ix q v)))])
theorem pow_lt63 {n:Nat}(h:n≤62):2 ^ n<2 ^ 63:=Nat.pow_lt_pow_right (by decide) (by omega)
theorem pf221 (n:Nat)(hn:n≤62):Pf E0 221 [.c (.p (pI n))] (P' (pI (2 ^ n:Nat))):=by
 refine gQ (fn:=Tryz.f221) ?_;simp only[gL,Tryz.ntmps221,Nat.reduceSub,Nat.reduceAdd];refine gY ?_;refine gY ?_;refine gO ?_;refine gZ ?_;refine Wc.block (Wc.loop (fun k y=>∃ i:Nat,k=n-i∧i≤n∧y.ds=[]∧y.e.length=13∧y.e.getD 0 .junk=P' (pI n)∧y.e.getD 4 .junk=P' (pI i)∧y.e.getD 3 .junk=P' (pI (2 ^ i:Nat))) ?_ (k:=n) ?_)
 ·rintro k ⟨e,ds,s1⟩ ⟨i,rfl,hi,rfl,hlen,h0,h4,h3⟩;simp only at hlen h0 h4 h3;refine gO ?_;apply gR (by simp only[go_sem,hlen,h0,h4,h3];rfl);refine Wc.cond (t:=decide ((i:Int)<n)) (by simp only[go_sem,hlen]) (fun hc=>?_) (fun hc=>?_)
  ·have hin : i < n := by have : (i : Int) < n := by simpa using hc
                          omega
   have hp:=pow_lt63 (n:=i+1) (by omega)
   have e1:IntKind.i64.wrap (2*((2 ^ i:Nat):Int))=((2 ^ (i+1):Nat):Int):=by rw[wi64,Nat.pow_succ];rw[Nat.pow_succ] at hp;omega
   refine Wc.skip (Wc.seq (Wc.block ?_));apply gR (by simp only[go_sem,hlen,h0,h4,h3,e1];rfl);apply gR (by simp only[go_sem,hlen,h0,h4,h3,i64n i (by omega)];rfl)
   exact⟨n-(i+1),by omega,i+1,rfl,by omega,rfl,by simp only[go_sem,hlen],by simp only[go_sem,hlen,h0],by simp only[go_sem,hlen],by simp only[go_sem,hlen]⟩
  ·have hin : i = n := by have : ¬ (i : Int) < n := by simpa using hc
                          omega
   subst hin;refine Wc.exit (Wc.seq ?_);apply gR (by simp only[go_sem,hlen,h3];rfl);exact wr (gV [.tmp 2] [.c (.p (pI (2 ^ i:Nat)))] (by simp only[go_sem,hlen]))
 ·exact⟨0,rfl,by omega,rfl,rfl,rfl,rfl,rfl⟩
theorem pf151 (q v:Nat)(hq:q≤8)(hv:v≤1099511627776):Pf E0 151 [.c (.p (pI q)),.c (.p (pI v))] (P' (pI (ix q v))):=by
 have p8:2 ^ q≤2 ^ 8:=Nat.pow_le_pow_right (by decide) hq
 have p0:=Nat.two_pow_pos q
 have ps:2 ^ (q+1)=2 ^ q*2:=Nat.pow_succ ..
 have c1:IntKind.i64.wrap (2*((2 ^ q:Nat):Int))=((2 ^ (q+1):Nat):Int):=by rw[wi64,ps];omega
 have ixb:ix q v≤v:=by
  have h1:∀ n w,w≤n→ix q w≤w:=by
   intro n
   induction n with
   |zero=>intro w hw;rw[ix_lt (by omega)];exact Nat.le_refl _
   |succ n ih =>
    intro w hw;rcases Nat.lt_or_ge w (2 ^ (q+1)) with h|h
    ·rw[ix_lt h];exact Nat.le_refl _
    ·rw[ix_ge h]
     have:=ih (w / 2) (by omega)
     omega
  exact h1 v v (Nat.le_refl _)
 refine gQ (fn:=Tryz.f151) ?_;simp only[gL,Tryz.ntmps151,Nat.reduceSub,Nat.reduceAdd];refine gY ?_;refine gY ?_;refine Wc.seqA (fun y=>∃ k w:Nat,y.ds=[]∧y.e.length=23∧y.e.getD 0 .junk=P' (pI q)∧y.e.getD 5 .junk=P' (pI k)∧y.e.getD 6 .junk=P' (pI w)∧w<2 ^ (q+1)∧k*2 ^ q+ix q w=ix q v) ?_ ?_
 ·refine Wc.block (Wc.loop (fun m y=>∃ k w:Nat,m=w∧w≤v∧k+w≤v∧y.ds=[]∧y.e.length=23∧y.e.getD 0 .junk=P' (pI q)∧y.e.getD 5 .junk=P' (pI k)∧y.e.getD 6 .junk=P' (pI w)∧k*2 ^ q+ix q w=ix q v) ?_ (k:=v) ?_)
  ·rintro m ⟨e,ds,s1⟩ ⟨k,w,rfl,hwv,hkw,rfl,hlen,h0,h5,h6,hk⟩;simp only at hlen h0 h5 h6;refine gO ?_;refine gM fun K F=>?_;simp only[go_sem,hlen,h0,h5,h6];refine gP (pf221 q (by omega)) ?_;simp only[go_sem,hlen,h0,h5,h6,c1];apply F;clear F K;refine Wc.cond (t:=decide (((2 ^ (q+1):Nat):Int)≤m)) (by simp only[go_sem,hlen]) (fun hc=>?_) (fun hc=>?_)
   ·have hge : 2 ^ (q + 1) ≤ m := by have : ((2 ^ (q + 1) : Nat) : Int) ≤ m := by simpa using hc
                                     omega
    have e1:IntKind.i64.wrap ((m:Int).tdiv 2)=((m / 2:Nat):Int):=by
     rw[Int.tdiv_eq_ediv_of_nonneg (by omega),wi64];omega
    refine Wc.skip (Wc.block (Wc.seq ?_));apply gR (by simp only[go_sem,hlen,h0,h5,h6,e1];rfl);apply gR (by simp only[go_sem,hlen,h0,h5,h6,i64n k (by omega)];rfl)
    refine⟨m / 2,by omega,k+1,m / 2,rfl,by omega,by omega,rfl,by simp only[go_sem,hlen],by simp only[go_sem,hlen,h0],by simp only[go_sem,hlen],by simp only[go_sem,hlen],?_⟩
    rw[← hk,ix_ge hge,Nat.add_mul];omega
   ·have hlt : m < 2 ^ (q + 1) := by have : ¬ ((2 ^ (q + 1) : Nat) : Int) ≤ m := by simpa using hc
                                     omega
    exact Wc.exit ⟨rfl,k,m,rfl,by simp only[go_sem,hlen],by simp only[go_sem,hlen,h0],by simp only[go_sem,hlen,h5],by simp only[go_sem,hlen,h6],hlt,hk⟩
  ·exact⟨0,v,rfl,Nat.le_refl _,by omega,rfl,rfl,rfl,rfl,rfl,by simp⟩
 ·rintro⟨e,ds,s1⟩ ⟨k,w,rfl,hlen,h0,h5,h6,hw,hk⟩
  simp only at hlen h0 h5 h6
  rw[ix_lt hw] at hk
  have c2:IntKind.i64.wrap ((k:Int)*((2 ^ q:Nat):Int))=((k*2 ^ q:Nat):Int):=by
   have:(k:Int)*((2 ^ q:Nat):Int)=((k*2 ^ q:Nat):Int):=(Int.natCast_mul _ _).symm
   rw[this,wi64];omega
  have c3:IntKind.i64.wrap (((k*2 ^ q:Nat):Int)+(w:Int))=((ix q v:Nat):Int):=by rw[wi64,← hk];omega
  refine gN fun K F=>?_;simp only[go_sem,hlen,h0,h5,h6];refine gP (pf221 q (by omega)) ?_;simp only[go_sem,hlen,h0,h5,h6,c2,c3];apply F;clear F K;exact wr (gV [.tmp 4] [.c (.p (pI (ix q v)))] (by simp only[go_sem,hlen]))
theorem kf_le {q i:Nat}(hi:i≤(41-q)*2 ^ q):kf q i≤40-q:=by
 have hp:=Nat.two_pow_pos q
 have:i / 2 ^ q≤41-q:=by
  have h1:=Nat.div_le_div_right (c:=2 ^ q) hi
  rwa [Nat.mul_div_cancel _ hp] at h1
 unfold kf;omega
theorem part_lt (q i:Nat):i-kf q i*2 ^ q<2 ^ q*2:=by
 have hp:=Nat.two_pow_pos q
 rcases ix_form q i with h|⟨k,r,rfl,h1,h2⟩
 ·rw[(lo_small h).2];omega
 ·rw[kf_of h1 h2];omega
theorem pow_bound {q i:Nat}(hq:q≤8)(hi:i≤(41-q)*2 ^ q):lo q i+2 ^ kf q i≤2 ^ 42∧2 ^ kf q i≤2 ^ 40:=by
 have hk:=kf_le hi
 have h1:=part_lt q i
 have h2:2 ^ kf q i≤2 ^ (40-q):=Nat.pow_le_pow_right (by decide) hk
 have h3:(2 ^ q*2)*2 ^ (40-q)=2 ^ 41:=by
  rw[← Nat.pow_succ,← Nat.pow_add]
  congr 1
  omega
 have h4:lo q i+2 ^ kf q i≤(2 ^ q*2)*2 ^ kf q i:=by
  unfold lo
  rw[← Nat.succ_mul]
  exact Nat.mul_le_mul_right _ h1
 have h5:(2 ^ q*2)*2 ^ kf q i≤(2 ^ q*2)*2 ^ (40-q):=Nat.mul_le_mul_left _ h2
 have h6:2 ^ (40-q)≤2 ^ 40:=Nat.pow_le_pow_right (by decide) (by omega)
 omega
theorem pf210 (n:Int):Pf E0 210 [.c (.p (pI n))] (P' (.bool (decide (0≤n∧n≤8)))):=by
 refine gQ (fn:=Tryz.f210) ?_;simp only[gL,Tryz.ntmps210,Nat.reduceSub,Nat.reduceAdd];refine gY ?_;refine Wc.seq ?_
 by_cases h:0≤n
 ·apply gR (by simp only[go_sem,h];rfl);exact wr (gV [.tmp 2] [.c (.p (.bool (decide (0≤n∧n≤8))))] (by simp only[go_sem,h]))
 ·apply gR (by simp only[go_sem,h];rfl);exact wr (gV [.tmp 2] [.c (.p (.bool (decide (0≤n∧n≤8))))] (by simp only[go_sem,h]))
theorem pf248 (n:Int):Pf E0 248 [.c (.p (pI n))] (P' (.bool (decide (0≤n∧n≤1099511627776)))):=by
 refine gQ (fn:=Tryz.f248) ?_;simp only[gL,Tryz.ntmps248,Nat.reduceSub,Nat.reduceAdd];refine gY ?_;refine Wc.seq ?_
 by_cases h:0≤n
 ·apply gR (by simp only[go_sem,h];rfl);exact wr (gV [.tmp 2] [.c (.p (.bool (decide (0≤n∧n≤1099511627776))))] (by simp only[go_sem,h]))
 ·apply gR (by simp only[go_sem,h];rfl);exact wr (gV [.tmp 2] [.c (.p (.bool (decide (0≤n∧n≤1099511627776))))] (by simp only[go_sem,h]))
theorem pf211 (q:Nat)(hq:q≤8):Pf E0 211 [.c (.p (pI q))] (P' (pI (ix q 1099511627776))):=by
 refine gQ (fn:=Tryz.f211) ?_;simp only[gL,Tryz.ntmps211,Nat.reduceSub,Nat.reduceAdd];refine gY ?_;refine gN fun K F=>?_;simp only[go_sem];refine gP (pf247 q 1099511627776 hq (by decide)) ?_;simp only[go_sem];apply F;clear F K;exact wr (gU [.tmp 2] [.c (.p (pI (ix q 1099511627776)))])
theorem min2 (a b:Int):foldO minD (.v (.c (.p (.int .i64 a)))) [.v (.c (.p (.int .i64 b)))]=some (.v (.c (.p (.int .i64 (min a b))))):=by
 simp only[foldO,minD,P',if_true,Option.some.injEq,D.v.injEq,V.c.injEq,C.p.injEq,Pd.int.injEq,true_and,decide_eq_true_eq]
 split<;>omega
theorem max2 (a b:Int):foldO maxD (.v (.c (.p (.int .i64 a)))) [.v (.c (.p (.int .i64 b)))]=some (.v (.c (.p (.int .i64 (max a b))))):=by
 simp only[foldO,maxD,P',if_true,Option.some.injEq,D.v.injEq,V.c.injEq,C.p.injEq,Pd.int.injEq,true_and,decide_eq_true_eq]
 split<;>omega
theorem kf_mul_le {q i:Nat}:kf q i*2 ^ q≤i:=by
 have hp:=Nat.two_pow_pos q
 rcases ix_form q i with h|⟨k,r,rfl,h1,h2⟩
 ·rw[(lo_small h).2];omega
 ·rw[kf_of h1 h2];omega
theorem pf272 (q i:Nat)(hq:q≤8)(hb:i≤(41-q)*2 ^ q):Pf E0 272 [.c (.p (pI q)),.c (.p (pI i))] (.tup [.c (.p (pI (lo q i))),.c (.p (pI (hi q i)))]):=by
 have p8:2 ^ q≤2 ^ 8:=Nat.pow_le_pow_right (by decide) hq
 have p0:=Nat.two_pow_pos q
 have s1:shlI .i64 1 (q:Int)=((2 ^ q:Nat):Int):=by have:=shlN 1 q (by omega) (by omega);simpa using this
 have hq0:((q:Int)<0)=False:=by simp
 obtain⟨b1,b2⟩:=pow_bound hq hb
 have bi:i≤41*2 ^ 8:=Nat.le_trans hb (Nat.mul_le_mul (by omega) p8)
 refine gQ (fn:=Tryz.f272) ?_;simp only[gL,Tryz.ntmps272,Nat.reduceSub,Nat.reduceAdd];refine gY ?_;refine gO ?_;apply gR (by simp only[go_sem,s1,hq0];rfl);refine Wc.cond (t:=decide ((i:Int)<((2 ^ q:Nat):Int))) (by simp only[go_sem,s1]) (fun hc=>?_) (fun hc=>?_)
 ·have hlt : i < 2 ^ q := by have : (i : Int) < ((2 ^ q : Nat) : Int) := by simpa using hc
                             omega
  obtain⟨h3,h4⟩:=lo_small hlt
  have h5:hi q i=i:=by unfold hi hiU;rw[h3,h4];simp;omega
  rw[h3,h5]
  refine gY ?_;exact wr (gU [.tmp 4,.tmp 5] [.c (.p (pI i)),.c (.p (pI i))])
 ·have hge : 2 ^ q ≤ i := by have : ¬ (i : Int) < ((2 ^ q : Nat) : Int) := by simpa using hc
                             omega
  have hk:=kf_le hb
  have hkm:=kf_mul_le (q:=q) (i:=i)
  have hpt:=part_lt q i
  have hd1:1≤i / 2 ^ q:=(Nat.le_div_iff_mul_le p0).2 (by omega)
  have hdb:i / 2 ^ q≤i:=Nat.div_le_self _ _
  have hkd:kf q i=i / 2 ^ q-1:=rfl
  have elo:lo q i=(i-kf q i*2 ^ q)*2 ^ kf q i:=rfl
  have ehi:hi q i=min (hiU q i) 1099511627776:=rfl
  have ehu:hiU q i=lo q i+2 ^ kf q i-1:=rfl
  have pk:=Nat.two_pow_pos (kf q i)
  generalize hkk:kf q i=k at *;generalize hpp:i-k*2 ^ q=pt at *
  have em:(pt+1)*2 ^ k=lo q i+2 ^ k:=by rw[Nat.add_mul,elo];omega
  have c1:shrI .i64 (i:Int) (q:Int)=((i / 2 ^ q:Nat):Int):=shrN .i64 i q (by show q≤64;omega)
  have c2:IntKind.i64.wrap (((i / 2 ^ q:Nat):Int)-1)=(k:Int):=by rw[wi64];omega
  have c3:shlI .i64 (k:Int) (q:Int)=((k*2 ^ q:Nat):Int):=shlN k q (by omega) (by omega)
  have c4:IntKind.i64.wrap ((i:Int)-((k*2 ^ q:Nat):Int))=(pt:Int):=by rw[wi64];omega
  have c5:shlI .i64 (pt:Int) (k:Int)=((lo q i:Nat):Int):=by rw[elo];exact shlN pt k (by omega) (by omega)
  have c6:IntKind.i64.wrap ((pt:Int)+1)=((pt+1:Nat):Int):=by rw[wi64];omega
  have c7:shlI .i64 ((pt+1:Nat):Int) (k:Int)=((lo q i+2 ^ k:Nat):Int):=by rw[← em];exact shlN (pt+1) k (by omega) (by rw[em];omega)
  have c8:IntKind.i64.wrap (((lo q i+2 ^ k:Nat):Int)-1)=((hiU q i:Nat):Int):=by rw[wi64];omega
  have c9:min ((hiU q i:Nat):Int) 1099511627776=((hi q i:Nat):Int):=by rw[ehi];omega
  have hk0:((k:Int)<0)=False:=by simp
  refine Wc.skip (Wc.seq ?_);apply gR (by simp only[go_sem,hq0,c1,c2];rfl);apply gS (by simp only[go_sem,hq0,c3,c4];rfl);refine Wc.seq ?_;refine Wc.regD fun K F=>?_;simp only[go_sem,hk0,c5,c6,c7,c8,min2,c9];apply F;clear F K;exact wr (gU [.tmp 4,.tmp 5] [.c (.p (pI (lo q i))),.c (.p (pI (hi q i)))])
theorem pf253 (q i:Nat)(hq:q≤8)(hb:i≤(41-q)*2 ^ q):Pf E0 253 [.c (.p (pI q)),.c (.p (pI i))] (.tup [.c (.p (pI (lo q i))),.c (.p (pI (hi q i)))]):=by
 have p8:2 ^ q≤2 ^ 8:=Nat.pow_le_pow_right (by decide) hq
 have p0:=Nat.two_pow_pos q
 obtain⟨b1,b2⟩:=pow_bound hq hb
 have bi:i≤41*2 ^ 8:=Nat.le_trans hb (Nat.mul_le_mul (by omega) p8)
 have hkm:=kf_mul_le (q:=q) (i:=i)
 have hpt:=part_lt q i
 have hkl:=kf_le hb
 have c0:IntKind.i64.wrap (2*((2 ^ q:Nat):Int))=((2 ^ q*2:Nat):Int):=by rw[wi64];omega
 refine gQ (fn:=Tryz.f253) ?_;simp only[gL,Tryz.ntmps253,Nat.reduceSub,Nat.reduceAdd];refine gY ?_;refine gN fun K F=>?_;simp only[go_sem];refine gP (pf221 q (by omega)) ?_;simp only[go_sem];apply F;clear F K;refine gY ?_;refine Wc.seqA (fun y=>y.ds=[]∧y.e.length=39∧y.e.getD 1 .junk=P' (pI i)∧y.e.getD 6 .junk=P' (pI (2 ^ q:Nat))∧y.e.getD 7 .junk=P' (pI (kf q i))) ?_ ?_
 ·refine Wc.block (Wc.loop (fun m y=>∃ k:Nat,m=kf q i-k∧k≤kf q i∧y.ds=[]∧y.e.length=39∧y.e.getD 1 .junk=P' (pI i)∧y.e.getD 6 .junk=P' (pI (2 ^ q:Nat))∧y.e.getD 7 .junk=P' (pI k)) ?_ (k:=kf q i) ?_)
  ·rintro m ⟨e,ds,s1⟩ ⟨k,rfl,hk,rfl,hlen,h1,h6,h7⟩;simp only at hlen h1 h6 h7
   have hkm2:k*2 ^ q≤kf q i*2 ^ q:=Nat.mul_le_mul_right _ hk
   have c1:IntKind.i64.wrap ((k:Int)*((2 ^ q:Nat):Int))=((k*2 ^ q:Nat):Int):=by
    have:(k:Int)*((2 ^ q:Nat):Int)=((k*2 ^ q:Nat):Int):=(Int.natCast_mul _ _).symm
    rw[this,wi64];omega
   have c2:IntKind.i64.wrap ((i:Int)-((k*2 ^ q:Nat):Int))=((i-k*2 ^ q:Nat):Int):=by rw[wi64];omega
   refine gO ?_;apply gR (by simp only[go_sem,hlen,h1,h6,h7,c0,c1,c2];rfl);refine Wc.cond (t:=decide (((2 ^ q*2:Nat):Int)≤((i-k*2 ^ q:Nat):Int))) (by simp only[go_sem,hlen]) (fun hc=>?_) (fun hc=>?_)
   ·have hge : 2 ^ q * 2 ≤ i - k * 2 ^ q := by have : ((2 ^ q * 2 : Nat) : Int) ≤ ((i - k * 2 ^ q : Nat) : Int) := of_decide_eq_true hc
                                               omega
    have hlt:k<kf q i:=by
     rcases Nat.lt_or_ge k (kf q i) with h|h
     ·exact h
     ·have:k=kf q i:=by omega
      rw[this] at hge;omega
    refine Wc.skip (Wc.block ?_);apply gR (by simp only[go_sem,hlen,h1,h6,h7,i64n k (by omega)];rfl)
    exact⟨kf q i-(k+1),by omega,k+1,rfl,by omega,rfl,by simp only[go_sem,hlen],by simp only[go_sem,hlen,h1],by simp only[go_sem,hlen,h6],by simp only[go_sem,hlen]⟩
   ·have hlt : i - k * 2 ^ q < 2 ^ q * 2 := by have : ¬ ((2 ^ q * 2 : Nat) : Int) ≤ ((i - k * 2 ^ q : Nat) : Int) := of_decide_eq_false hc
                                               omega
    have hke:k=kf q i:=by
     rcases Nat.lt_or_ge k (kf q i) with h|h
     ·exfalso
      rcases ix_form q i with h3|⟨k',r,h3,h4,h5⟩
      ·rw[(lo_small h3).2] at h;omega
      ·have h6:kf q i=k':=by rw[h3];exact kf_of h4 h5
       rw[h6] at h
       have h7:(k+1)*2 ^ q≤k' * 2 ^ q:=Nat.mul_le_mul_right _ h
       rw[Nat.add_mul] at h7
       omega
     ·omega
    subst hke;exact Wc.exit ⟨rfl,rfl,by simp only[go_sem,hlen],by simp only[go_sem,hlen,h1],by simp only[go_sem,hlen,h6],by simp only[go_sem,hlen,h7]⟩
  ·exact⟨0,rfl,by omega,rfl,rfl,rfl,rfl,rfl⟩
 rintro⟨e,ds,s1⟩ ⟨rfl,hlen,h1,h6,h7⟩
 simp only at hlen h1 h6 h7
 have elo:lo q i=(i-kf q i*2 ^ q)*2 ^ kf q i:=rfl
 have ehi:hi q i=min (hiU q i) 1099511627776:=rfl
 have ehu:hiU q i=lo q i+2 ^ kf q i-1:=rfl
 have pk:=Nat.two_pow_pos (kf q i)
 have c1:IntKind.i64.wrap (((kf q i:Nat):Int)*((2 ^ q:Nat):Int))=((kf q i*2 ^ q:Nat):Int):=by
  have:((kf q i:Nat):Int)*((2 ^ q:Nat):Int)=((kf q i*2 ^ q:Nat):Int):=(Int.natCast_mul _ _).symm
  rw[this,wi64];omega
 have c2:IntKind.i64.wrap ((i:Int)-((kf q i*2 ^ q:Nat):Int))=((i-kf q i*2 ^ q:Nat):Int):=by rw[wi64];omega
 have c3:IntKind.i64.wrap (((i-kf q i*2 ^ q:Nat):Int)*((2 ^ kf q i:Nat):Int))=((lo q i:Nat):Int):=by
  have:((i-kf q i*2 ^ q:Nat):Int)*((2 ^ kf q i:Nat):Int)=((lo q i:Nat):Int):=(Int.natCast_mul _ _).symm
  rw[this,wi64];omega
 have c4:IntKind.i64.wrap (((lo q i:Nat):Int)+((2 ^ kf q i:Nat):Int))=((lo q i+2 ^ kf q i:Nat):Int):=by rw[wi64];omega
 have c8:IntKind.i64.wrap (((lo q i+2 ^ kf q i:Nat):Int)-1)=((hiU q i:Nat):Int):=by rw[wi64];omega
 refine gN fun K F=>?_;simp only[go_sem,hlen,h1,h6,h7,c1,c2];refine gP (pf221 (kf q i) (by omega)) ?_;simp only[go_sem,hlen,h1,h6,h7,c3];apply F;clear F K;refine gN fun K F=>?_;simp only[go_sem,hlen,h1,h6,h7];refine gP (pf221 (kf q i) (by omega)) ?_;simp only[go_sem,hlen,h1,h6,h7,c4,c8];apply F;clear F K;refine gO ?_;apply gR (by simp only[go_sem,hlen,h1,h6,h7];rfl);refine Wc.cond (t:=decide ((1099511627776:Int)<((hiU q i:Nat):Int))) (by simp only[go_sem,hlen]) (fun hc=>?_) (fun hc=>?_)
 ·have hbc:(1099511627776:Int)<((hiU q i:Nat):Int):=of_decide_eq_true hc
  have hbb:1099511627776<hiU q i:=by omega
  have e9:((hi q i:Nat):Int)=1099511627776:=by omega
  apply gR (by simp only[go_sem,hlen];rfl);apply gS (by simp only[go_sem,hlen];rfl)
  rw[e9]
  exact wr (gV [.tmp 4,.tmp 5] [.c (.p (pI (lo q i))),.c (.p (pI 1099511627776))] (by simp only[go_sem,hlen]))
 ·have hbc:¬ (1099511627776:Int)<((hiU q i:Nat):Int):=of_decide_eq_false hc
  have hbb:¬ 1099511627776<hiU q i:=by omega
  have e9:hi q i=hiU q i:=by omega
  rw[e9]
  refine Wc.skip (Wc.seq ?_);apply gR (by simp only[go_sem,hlen];rfl);exact wr (gV [.tmp 4,.tmp 5] [.c (.p (pI (lo q i))),.c (.p (pI (hiU q i)))] (by simp only[go_sem,hlen]))
end Go.Proofs.YtedcnhbblgmdnaaGreat.Ab
/- Histograms: the two ways to tell whether there are values with a histogram's numbers come to the same. -/
namespace Go.Proofs.YtedcnhbblgmdnaaGreat.Ab
def sumI (f:Nat→Int×Int→Int):Nat→List (Int×Int)→Int
 |_,[]=>0
 |i,b::r=>f i b+sumI f (i+1) r
theorem sumI_congr {f g:Nat→Int×Int→Int}:∀ {l:List (Int×Int)} {i:Nat},(∀ j b,l[j]? = some b→f (i+j) b=g (i+j) b)→sumI f i l=sumI g i l
 |[],i,h=>rfl
 |b::r,i,h=>by
  have h1:f i b=g i b:=h 0 b rfl
  have h2:sumI f (i+1) r=sumI g (i+1) r:=sumI_congr fun j c hj=>by
   have h3:=h (j+1) c (by simpa using hj)
   have e:i+1+j=i+(j+1):=by omega
   rw[e];exact h3
  simp only[sumI,h1,h2]
theorem sumI_add (f g:Nat→Int×Int→Int):∀(l:List (Int×Int)) (i:Nat),sumI (fun i b=>f i b+g i b) i l=sumI f i l+sumI g i l
 |[],i=>rfl
 |b::r,i=>by simp only[sumI,sumI_add f g r (i+1)];omega
theorem sumI_snoc (f:Nat→Int×Int→Int)(c:Int×Int):∀(l:List (Int×Int)) (i:Nat),sumI f i (l++[c])=sumI f i l+f (i+l.length) c
 |[],i=>by simp[sumI]
 |b::r,i=>by
  simp only[List.cons_append,sumI,sumI_snoc f c r (i+1),List.length_cons]
  have e:i+1+r.length=i+(r.length+1):=by omega
  rw[e];omega
theorem take_snoc' {α:Type}{l:List α}{i:Nat}{x:α}(h:l[i]? = some x):l.take (i+1)=l.take i++[x]:=by
 rw[List.take_add_one,h];rfl
theorem sumI_take {f:Nat→Int×Int→Int}{l:List (Int×Int)}{i:Nat}{b:Int×Int}(h:l[i]? = some b):sumI f 0 (l.take (i+1))=sumI f 0 (l.take i)+f i b:=by
 have hi:=(List.getElem?_eq_some_iff.1 h).1
 rw[take_snoc' h,sumI_snoc]
 have:(l.take i).length=i:=by simp;omega
 rw[this];simp
def cnt (l:List (Int×Int)):Int:=sumI (fun _ b=>b.2) 0 l
theorem sumI_bound {f:Nat→Int×Int→Int}{m:Int}:∀ {l:List (Int×Int)} {i:Nat},(∀ j b,l[j]? = some b→0≤f (i+j) b∧f (i+j) b≤m*b.2)→0≤sumI f i l∧sumI f i l≤m*sumI (fun _ b=>b.2) i l
 |[],i,h=>by simp[sumI]
 |b::r,i,h=>by
  have h1:=h 0 b rfl
  have h2:=sumI_bound (f:=f) (m:=m) (l:=r) (i:=i+1) fun j c hj=>by
   have:=h (j+1) c (by simpa using hj)
   have e:i+1+j=i+(j+1):=by omega
   rw[e];exact this
  simp only[sumI,Int.mul_add];simp only[Nat.add_zero] at h1;omega
theorem cnt_le {l:List (Int×Int)}(h:∀ b∈l,1≤b.2):∀ i,0≤cnt (l.take i)∧cnt (l.take i)≤cnt l:=by
 have gen:∀(l:List (Int×Int)) (k:Nat),(∀ b∈l,1≤b.2)→0≤sumI (fun _ b=>b.2) k l:=by
  intro l
  induction l with
  |nil=>intro k _;simp[sumI]
  |cons b r ih =>
   intro k h
   have h1:=h b (by simp)
   have h2:=ih (k+1) fun c hc=>h c (by simp[hc])
   simp only[sumI];omega
 have gen2:∀(l:List (Int×Int)) (k i:Nat),(∀ b∈l,1≤b.2)→sumI (fun _ b=>b.2) k (l.take i)≤sumI (fun _ b=>b.2) k l:=by
  intro l
  induction l with
  |nil=>intro k i _;simp[sumI]
  |cons b r ih =>
   intro k i h;cases i with
   |zero=>exact gen _ _ h
   |succ i =>
    have h2:=ih (k+1) i fun c hc=>h c (by simp[hc])
    simp only[List.take_succ_cons,sumI];omega
 intro i
 exact⟨gen _ _ fun b hb=>h b (List.mem_of_mem_take hb),gen2 _ _ _ h⟩
abbrev mxv:Int:=1099511627776
def leastP (q:Nat)(mn mx:Int)(bs:List (Int×Int))(last:Int×Int):Int:=sumI (fun _ b=>max (lo q b.1.toNat:Int) mn*b.2) 0 bs+(mx-max (lo q last.1.toNat:Int) mn)
def greatP (q:Nat)(mn mx:Int)(bs:List (Int×Int))(first:Int×Int):Int:=sumI (fun _ b=>min (hi q b.1.toNat:Int) mx*b.2) 0 bs-(min (hi q first.1.toNat:Int) mx-mn)
def lowR (q:Nat)(mn:Int)(i:Nat)(b:Int×Int):Int:=if i=0 then mn else (lo q b.1.toNat:Int)
def highR (q:Nat)(mx:Int)(n i:Nat)(b:Int×Int):Int:=if i+1=n then mx else (hi q b.1.toNat:Int)
def termL (q:Nat)(mn:Int)(n i:Nat)(b:Int×Int):Int:=lowR q mn i b*b.2+(if i+1=n then mn-lowR q mn i b else 0)
def termM (q:Nat)(mx:Int)(n i:Nat)(b:Int×Int):Int:=highR q mx n i b*b.2+(if i=0 then mx-highR q mx n i b else 0)
def leastR (q:Nat)(mn mx:Int)(bs:List (Int×Int)):Int:=(mx-mn)+sumI (termL q mn bs.length) 0 bs
def mostR (q:Nat)(mn mx:Int)(bs:List (Int×Int)):Int:=(mn-mx)+sumI (termM q mx bs.length) 0 bs
theorem sumI_lastT (d:Nat→Int×Int→Int)(n:Nat):∀(l:List (Int×Int)) (i:Nat) (last:Int×Int),i+l.length=n→l[l.length-1]? = some last→sumI (fun i b=>if i+1=n then d i b else 0) i l=d (n-1) last
 |[],i,last,h,hl=>by simp at hl
 |[b],i,last,h,hl=>by
  simp only[List.length_cons,List.length_nil] at h hl;simp at hl;subst hl;simp only[sumI]
  rw[if_pos (by omega)]
  have:n-1=i:=by omega
  rw[this];omega
 |b::c::r,i,last,h,hl=>by
  have h1:=sumI_lastT d n (c::r) (i+1) last (by simp only[List.length_cons] at h ⊢;omega) (by simpa using hl)
  rw[sumI,h1,if_neg (by simp only[List.length_cons] at h;omega)];omega
theorem sumI_firstT (d:Nat→Int×Int→Int):∀(l:List (Int×Int)) (i:Nat),1≤i→sumI (fun i b=>if i=0 then d i b else 0) i l=0
 |[],i,_=>rfl
 |b::r,i,h=>by rw[sumI,sumI_firstT d r (i+1) (by omega),if_neg (by omega)];rfl
structure BsOK (q:Nat) (bs:List (Int×Int)):Prop where
 lo0:∀ b∈bs,0≤b.1∧b.1≤((41-q)*2 ^ q:Nat)
 cn:∀ b∈bs,1≤b.2
 asc:∀(i j:Nat) (b c:Int×Int),i<j→bs[i]? = some b→bs[j]? = some c→b.1<c.1
section
variable {q:Nat} {bs:List (Int×Int)} {mn mx:Int} {f l:Int×Int}
theorem low_eq (hb:BsOK q bs)(hf:bs[0]? = some f)(h0:0≤mn)(h1:(ix q mn.toNat:Int)=f.1){i:Nat}{b:Int×Int}(hi:bs[i]? = some b):max (lo q b.1.toNat:Int) mn=lowR q mn i b:=by
 obtain⟨a1,a2⟩:=lo_ix q mn.toNat
 have ef:f.1.toNat=ix q mn.toNat:=by omega
 rw[← ef] at a1 a2
 unfold lowR
 split
 ·rename_i h;subst h
  rw[hf] at hi;cases hi
  omega
 ·rename_i h
  have h2:=hb.asc 0 i f b (by omega) hf hi
  have h3:=(hb.lo0 f (gw hf)).1
  have h4:=hiU_lt_lo (q:=q) (i:=f.1.toNat) (j:=b.1.toNat) (by omega)
  omega
theorem high_eq (hb:BsOK q bs)(hl:bs[bs.length-1]? = some l)(h0:0≤mx)(hM:mx≤mxv)(h1:(ix q mx.toNat:Int)=l.1){i:Nat}{b:Int×Int}(hib:bs[i]? = some b):min (hi q b.1.toNat:Int) mx=highR q mx bs.length i b:=by
 obtain⟨a1,a2⟩:=lo_ix q mx.toNat
 have el:l.1.toNat=ix q mx.toNat:=by omega
 rw[← el] at a1 a2
 have hil:=(List.getElem?_eq_some_iff.1 hib).1
 have ehi:hi q b.1.toNat=min (hiU q b.1.toNat) 1099511627776:=rfl
 simp only[mxv] at hM;unfold highR
 split
 ·rename_i h
  have:i=bs.length-1:=by omega
  subst this
  rw[hl] at hib;cases hib
  omega
 ·rename_i h
  have h2:=hb.asc i (bs.length-1) b l (by omega) hib hl
  have h3:=(hb.lo0 b (gw hib)).1
  have h4:=hiU_lt_lo (q:=q) (i:=b.1.toNat) (j:=l.1.toNat) (by omega)
  omega
theorem least_eq (hb:BsOK q bs)(hf:bs[0]? = some f)(hl:bs[bs.length-1]? = some l)(h0:0≤mn)(h1:(ix q mn.toNat:Int)=f.1):leastR q mn mx bs=leastP q mn mx bs l:=by
 have hne:bs.length≠0:=by have:=(List.getElem?_eq_some_iff.1 hf).1;omega
 have e1:sumI (fun i b=>if i+1=bs.length then mn-lowR q mn i b else 0) 0 bs=mn-lowR q mn (bs.length-1) l:=sumI_lastT (fun i b=>mn-lowR q mn i b) bs.length bs 0 l (by simp) hl
 have e2:sumI (fun _ b=>max (lo q b.1.toNat:Int) mn*b.2) 0 bs=sumI (fun i b=>lowR q mn i b*b.2) 0 bs:=sumI_congr fun j b hj=>by rw[low_eq hb hf h0 h1 hj,Nat.zero_add]
 have e3:=low_eq hb hf h0 h1 hl
 have e4:sumI (termL q mn bs.length) 0 bs=sumI (fun i b=>lowR q mn i b*b.2) 0 bs+sumI (fun i b=>if i+1=bs.length then mn-lowR q mn i b else 0) 0 bs:=sumI_add _ _ _ _
 unfold leastR leastP
 rw[e4,e1,e2,e3];omega
theorem most_eq (hb:BsOK q bs)(hf:bs[0]? = some f)(hl:bs[bs.length-1]? = some l)(h0:0≤mx)(hM:mx≤mxv)(h1:(ix q mx.toNat:Int)=l.1):mostR q mn mx bs=greatP q mn mx bs f:=by
 have e1:sumI (fun i b=>if i=0 then mx-highR q mx bs.length i b else 0) 0 bs=mx-highR q mx bs.length 0 f:=by
  cases bs with
  |nil=>simp at hf
  |cons b r =>
   simp at hf;subst hf
   rw[sumI,sumI_firstT _ r 1 (Nat.le_refl _)];simp
 have e2:sumI (fun _ b=>min (hi q b.1.toNat:Int) mx*b.2) 0 bs=sumI (fun i b=>highR q mx bs.length i b*b.2) 0 bs:=sumI_congr fun j b hj=>by rw[high_eq hb hl h0 hM h1 hj,Nat.zero_add]
 have e3:=high_eq hb hl h0 hM h1 hf
 have e4:sumI (termM q mx bs.length) 0 bs=sumI (fun i b=>highR q mx bs.length i b*b.2) 0 bs+sumI (fun i b=>if i=0 then mx-highR q mx bs.length i b else 0) 0 bs:=sumI_add _ _ _ _
 unfold mostR greatP
 rw[e4,e1,e2,e3];omega
end
def agr1 (q:Nat)(s mn mx:Int)(bs:List (Int×Int))(f l:Int×Int)(t:Int):Bool :=
 if mn<0∨mxv<mn∨mx<0∨mxv<mx∨mx<mn then false
 else if (ix q mn.toNat:Int)≠f.1∨(ix q mx.toNat:Int)≠l.1 then false
 else if t=1∧mn≠mx then false
 else decide (leastP q mn mx bs l≤s)&&decide (s≤greatP q mn mx bs f)
def fit1 (q:Nat)(s mn mx:Int)(bs:List (Int×Int))(f l:Int×Int)(t:Int):Bool :=
 if mn<0∨mxv<mx∨mx<mn then false
 else if (ix q mn.toNat:Int)≠f.1∨(ix q mx.toNat:Int)≠l.1 then false
 else if t=1 then decide (mn=mx)&&decide (s=mn)
 else decide (leastR q mn mx bs≤s)&&decide (s≤mostR q mn mx bs)
theorem cnt_one {bs:List (Int×Int)}(h:∀ b∈bs,1≤b.2)(hc:cnt bs=1):∃ b,bs=[b]∧b.2=1:=by
 match bs,hc with
 |[],hc=>simp[cnt,sumI] at hc
 |[b],hc=>exact⟨b,rfl,by simpa[cnt,sumI] using hc⟩
 |b::c::r,hc =>
  exfalso
  have h1:=h b (by simp)
  have h2:=h c (by simp)
  have h3:=(cnt_le (l:=b::c::r) h 2).2
  simp only[List.take_succ_cons,List.take_zero,cnt,sumI] at h3;simp only[cnt,sumI] at hc;omega
theorem fit_agr {q:Nat}{s mn mx:Int}{bs:List (Int×Int)}{f l:Int×Int}{t:Int}(hb:BsOK q bs)(hf:bs[0]? = some f)(hl:bs[bs.length-1]? = some l)(ht:t=cnt bs):fit1 q s mn mx bs f l t=agr1 q s mn mx bs f l t:=by
 have hmxv:mxv=1099511627776:=rfl
 unfold fit1 agr1
 by_cases h1:mn<0∨mxv<mx∨mx<mn
 ·have n2:mn<0∨mxv<mn∨mx<0∨mxv<mx∨mx<mn:=by omega
  rw[if_pos h1,if_pos n2]
 have n2:¬ (mn<0∨mxv<mn∨mx<0∨mxv<mx∨mx<mn):=by omega
 rw[if_neg h1,if_neg n2]
 by_cases h2:(ix q mn.toNat:Int)≠f.1∨(ix q mx.toNat:Int)≠l.1
 ·rw[if_pos h2,if_pos h2]
 rw[if_neg h2,if_neg h2]
 have h3:(ix q mn.toNat:Int)=f.1:=by omega
 have h4:(ix q mx.toNat:Int)=l.1:=by omega
 have hL:=least_eq (mx:=mx) hb hf hl (by omega) h3
 have hM:=most_eq (mn:=mn) hb hf hl (by omega) (by omega) h4
 by_cases h5:t=1
 ·rw[if_pos h5]
  by_cases h6:mn=mx
  ·have n3:¬ (t=1∧mn≠mx):=by omega
   rw[if_neg n3,← hL,← hM]
   obtain⟨b,rfl,hb2⟩:=cnt_one hb.cn (by omega)
   simp only[leastR,mostR,sumI,termL,termM,lowR,highR,List.length_cons,List.length_nil,if_true,hb2]
   rw[Bool.eq_iff_iff]
   simp only[Bool.and_eq_true,decide_eq_true_eq];omega
  ·rw[if_pos ⟨h5,h6⟩]
   simp[h6]
 ·have n3:¬ (t=1∧mn≠mx):=by omega
  rw[if_neg h5,if_neg n3,hL,hM]
end Go.Proofs.YtedcnhbblgmdnaaGreat.Ab
namespace Go.Proofs.YtedcnhbblgmdnaaGreat.Ab
theorem call249 {s:St}{L:List (Nat×D×Nat×List Pd)}{M:List (Nat×Ob)}{hh:Hst}{K:D→St→Prop}(h:OA s.nx s L M)
  (F:∀ s',OA s'.nx s' L ((s.nx,.cells (hh.pd.map .p) false)::M)→s.nx<s'.nx→K (.v (.c (.fn (.func 271) [] [.ref s.nx 0]))) s'):wpCall E0 (.v (.c (.p (.fnc 249)))) [.v (.agg (hh.pd.map .p))] s K:=by
 refine wpCall.opn (fn:=Tryz.f249) (by kernel_rfl) (by kernel_rfl) rfl (by kernel_rfl) rfl ?_;simp only[gL,Tryz.ntmps249,Nat.reduceSub,Nat.reduceAdd];refine gY ?_;refine gY ?_;refine Wc.ret (Op.ret [.tmp 2] [.c (.fn (.func 271) [] [.ref s.nx 0])] rfl rfl (by simp only[go_sem]) (F _ ?_ ?_))
 ·have:=(h.adv (n:=2)).new (k:=s.nx) (o:=.cells (hh.pd.map .p) false) (Nat.le_refl _) rfl
  exact(this.mono (b':=s.nx+2+2) (by omega)).adv (n:=2)
 ·simp only[St.nx_adv,St.nx_put];omega
theorem iter271 {r:Nat}{frz:Bool}{h:Hst}(hl:h.bs.length<2^40):IterC 271 [.ref r 0] (fun s=>s.get r=some (.cells (h.pd.map .p) frz))
  (fun i k a=>k=i+1∧∃ b n,h.bs[i]? = some b∧a=[.agg ((p2 b).map .p),.c (.p (pI n))]) h.bs.length:=by
 have hfl:(h.bs.flatMap p2).length=h.bs.length*2:=flat_len (k:=2) (fun _=>rfl) _
 refine⟨Tryz.f271,_,by kernel_rfl,rfl,fun l J hJ hJ2 hcap hy s hj Q hQ=>?_⟩
 simp only[gL,Tryz.ntmps271,Nat.reduceSub,Nat.reduceAdd]
 have hg:=hcap _ _ hj
 simp only[gm] at hg;refine gY ?_;apply gS (by simp only[go_sem,hg];rfl);refine Wc.block (Wc.loop (fun k y=>∃(i:Nat) (n:Int),k=h.bs.length-i∧i≤h.bs.length∧y.ds=[]∧y.e.length=23∧y.e.getD 0 .junk=.v (.c (.fn (.yield l) [] []))∧y.e.getD 3 .junk=P' (pI n)∧y.e.getD 7 .junk=P' (.lst h.bs.length (h.bs.flatMap p2))∧y.e.getD 8 .junk=P' (pI h.bs.length)∧y.e.getD 9 .junk=P' (pI i)∧J i y.s) ?_ (k:=h.bs.length) ?_)
 ·clear hj hg s;rintro k ⟨e,ds,s1⟩ ⟨i,n,rfl,hi,rfl,hlen,h0,h3,h7,h8,h9,hj⟩;simp only at hlen h0 h3 h7 h8 h9 hj;apply gS (by simp only[go_sem,hlen,h0,h3,h7,h8,h9];rfl);refine Wc.seq (Wc.cond (t:=decide ((i:Int)<h.bs.length)) (by simp only[go_sem,hlen]) (fun hc=>?_) (fun hc=>?_))
  ·have hil : i < h.bs.length := by have : (i : Int) < h.bs.length := by simpa using hc
                                    omega
   obtain⟨b,hb⟩:=gE hil
   have hix:=ixA ti148 rfl ti205 (j:=i) (m:=h.bs.length) (cs:=h.bs.flatMap p2) hil hfl (by decide)
   have hca:=rpA (off:=i*2) (drop_flat (f:=p2) (k:=2) (fun _=>rfl) hb) (by rw[hfl];omega)
   refine Wc.skip (Wc.seq (Wc.block (Wc.seq ?_)));apply gR (by simp only[go_sem,hlen,h0,h3,h7,h8,h9,hix,hca];rfl)
   rw[St.put_put]
   apply gS (by simp only[go_sem,hlen,h0,h3,h7,h8,h9];rfl);refine gN fun K F=>?_;simp only[go_sem,hlen,h0,h3,h7,h8,h9]
   have hjs:=hJ i _ 5 (hJ i _ 5 (hJ2 i (s1.adv 1) 4 (s1.nx+3) (.cells [.p (pI b.1),.p (pI b.2)] false) (hJ i _ 1 hj) (by simp only[St.nx_adv];omega) (by simp only[St.nx_adv];omega)))
   obtain⟨m,d,s2,hc1,hd,hj2⟩:=hy i (i+1) _ _ hjs ⟨rfl,b,IntKind.i64.wrap (n+b.2),hb,rfl⟩
   subst hd
   refine⟨m,_,s2,hc1,?_⟩
   simp only[go_sem,hlen,h0,h3,h7,h8,h9];apply F;clear F K;apply gF (by simp only[go_sem,hlen]);apply gR (by simp only[go_sem,hlen,h0,h3,h7,h8,h9,i64n i (by omega)];rfl)
   exact⟨h.bs.length-(i+1),by omega,i+1,IntKind.i64.wrap (n+b.2),rfl,by omega,rfl,by simp only[go_sem,hlen],by simp only[go_sem,hlen,h0],by simp only[go_sem,hlen],by simp only[go_sem,hlen,h7],by simp only[go_sem,hlen,h8],by simp only[go_sem,hlen],hJ _ _ _ hj2⟩
  ·have hil : i = h.bs.length := by have : ¬ (i : Int) < h.bs.length := by simpa using hc
                                    omega
   refine Wc.exit ?_;subst hil;exact bodyQ.normal (vs:=[]) rfl rfl (hQ _ _ (hJ _ _ _ hj))
 ·exact⟨0,0,rfl,by omega,rfl,rfl,rfl,rfl,rfl,rfl,rfl,hJ _ _ _ (hJ _ _ _ hj)⟩
theorem pf250 (h:Hst)(b:I2)(q i:Nat)(hq:q≤8)(hp:h.p=q)(hbi:b.1=i)(hb:i≤(41-q)*2 ^ q):Pf E0 250 [.agg (h.pd.map .p),.agg ((p2 b).map .p)] (.tup [.c (.p (pI (max (lo q i:Int) h.mn))),.c (.p (pI (min (hi q i:Int) h.mx)))]):=by
 refine gQ (fn:=Tryz.f250) ?_;simp only[gL,Tryz.ntmps250,Nat.reduceSub,Nat.reduceAdd];refine gY ?_;refine gN fun K F=>?_;simp only[go_sem,hp,hbi];refine gP (pf272 q i hq hb) ?_;simp only[go_sem];apply F;clear F K;refine Wc.seq ?_;refine Wc.regD fun K F=>?_;simp only[go_sem,max2,min2];apply F;clear F K;exact wr (gU [.tmp 4,.tmp 5] [.c (.p (pI (max (lo q i:Int) h.mn))),.c (.p (pI (min (hi q i:Int) h.mx)))])
end Go.Proofs.YtedcnhbblgmdnaaGreat.Ab
