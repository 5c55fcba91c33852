/- A part of the proof. -/
import Derived.Test.YtedcnhbblgmdnaaGreatT1
set_option maxHeartbeats 8000000
set_option maxRecDepth 10000
set_option linter.unusedSimpArgs false
set_option linter.unusedVariables false
/- An evaluator of the model's code with slices as pure lists: its operations on values are the machine's (slicing, loading, building). -/
namespace Go.Proofs.YtedcnhbblgmdnaaGreat.Ab
open Go.RowKit
section
variable {X:Ctx} {G:Gh} {s:St} {W:World} {P:Program} {E:Env}
def relO (G:Gh)(s:St)(W:World):Option D→Option Value→Prop
 |none,none=>True
 |some d,some v=>relD G s W d v
 |_,_=>False
theorem relO_map {e:List D}{a:Act}(h:relDL G s W e a.tmps.toList)(x:Option Operand):relO G s W (x.map (opd e)) (x.map a.eval):=by
 cases x with
 |none=>trivial
 |some x=>exact opd_rel h x
def AtI (o:Option Value)(dflt n:Int):Prop:=(o=none∧n=dflt)∨∃ k,o=some (.int k n)
theorem sliceBound_ok {k:IntKind}{i:Int}{y:Nat}{c:BoundsCode}(h0:0≤i)(h1:i≤y):(Instr.sliceBound (.int k i) y c).run P W=.ok i.toNat W:=by
 simp[Instr.sliceBound,asIntOf,h0,h1]
theorem sliceBounds_two {isS:Bool}{n cap:Nat}{lo hi:Option Value}{l h:Int}(hl:AtI lo 0 l)(hh:AtI hi n h)(h0:0≤l)(h1:l≤h)(h2:h≤n)(h3:n≤cap) :
  (Instr.sliceBounds isS n cap lo hi none).run P W=.ok (l.toNat,h.toNat,cap) W:=by
 have e1:∀(c:BoundsCode) (k:IntKind),(Instr.sliceBound (.int k h) cap c).run P W=.ok h.toNat W:=fun c k=>sliceBound_ok (by omega) (by omega)
 have e2:∀(c:BoundsCode) (k:IntKind),(Instr.sliceBound (.int k l) h.toNat c).run P W=.ok l.toNat W:=fun c k=>sliceBound_ok h0 (by omega)
 have e3:∀(c:BoundsCode) (k:IntKind),h=(n:Int)→(Instr.sliceBound (.int k l) n c).run P W=.ok l.toNat W:=fun c k e=>sliceBound_ok h0 (by omega)
 rcases hl with ⟨rfl,rfl⟩|⟨k,rfl⟩<;>rcases hh with ⟨rfl,rfl⟩|⟨k',rfl⟩<;>simp[Instr.sliceBounds,e1,e2,e3]
theorem sliceBounds_three {n cap:Nat}{lo:Option Value}{l h m:Int}{k' k'':IntKind}(hl:AtI lo 0 l)(h0:0≤l)(h1:l≤h)(h2:h≤m)(h3:m≤cap) :
  (Instr.sliceBounds true n cap lo (some (.int k' h)) (some (.int k'' m))).run P W=.ok (l.toNat,h.toNat,m.toNat) W:=by
 have e0:∀(c:BoundsCode) (k:IntKind),(Instr.sliceBound (.int k m) cap c).run P W=.ok m.toNat W:=fun c k=>sliceBound_ok (by omega) (by omega)
 have e1:∀(c:BoundsCode) (k:IntKind),(Instr.sliceBound (.int k h) m.toNat c).run P W=.ok h.toNat W:=fun c k=>sliceBound_ok (by omega) (by omega)
 have e2:∀(c:BoundsCode) (k:IntKind),(Instr.sliceBound (.int k l) h.toNat c).run P W=.ok l.toNat W:=fun c k=>sliceBound_ok h0 (by omega)
 rcases hl with ⟨rfl,rfl⟩|⟨k,rfl⟩<;>simp[Instr.sliceBounds,e0,e1,e2]
theorem extract_str (t:ByteArray)(l h:Nat):(t.extract l h).data.toList=(t.data.toList.drop l).take (h-l):=by
 rw[ByteArray.data_extract,Array.toList_extract,List.extract_eq_take_drop]
theorem slice_run {t e:Nat}{i ie:TI}{inf inf2:TypeInfo}{d d2:TypeDesc}(ht:TOK P t i inf d)(hk:i.kn=.slice e)(he:TOK P e ie inf2 d2)
  {a:Option Addr} {n c l h m:Nat} {lo hi mx:Option Value} (hb:(Instr.sliceBounds true n c lo hi mx).run P W=.ok (l,h,m) W) :
  (Instr.sliceAt t (.slice a n c) lo hi mx).run P W=.ok (.slice (if m=l then a else a.map (·.add (l*ie.size))) (h-l) (m-l)) W:=by
 have hd:=ht.slice hk
 subst hd
 simp[Instr.sliceAt,Instr.slice,ht.underlying,hb,he.sizeOf]
theorem lst_part {n l h m sz:Nat}{cs:List Pd}{a:Option Addr}{c:Nat}(hl:cs.length=n*sz)(hcs:cs≠[]→∃ b o,a=some ⟨b,o,none⟩∧relCs G.imm W b o cs)
  (h1:l≤h) (h2:h≤n) (h3:h≤m) (h4:m≤c) :
  relC G s W (.p (.lst (h-l) ((cs.drop (l*sz)).take ((h-l)*sz)))) (.slice (if m=l then a else a.map (·.add (l*sz))) (h-l) (m-l)):=by
 simp only[relC,relPd]
 refine⟨_,_,rfl,by omega,fun hne=>?_⟩
 have hne':cs≠[]:=by intro e;subst e;simp at hne
 obtain⟨b,o,rfl,hr⟩:=hcs hne'
 have hlt:l<h:=by
  rcases Nat.lt_or_ge l h with h5|h5
  ·exact h5
  ·have:h-l=0:=by omega
   rw[this] at hne;simp at hne
 have hml:¬ m=l:=by omega
 rw[if_neg hml]
 exact⟨b,o+l*sz,by simp[Addr.add_mid],relCs_take (relCs_drop hr _) _⟩
theorem loI_rel {n l:Int}{o:Option D}{vo:Option Value}(h:loI n o=some l)(hr:relO G s W o vo):AtI vo n l:=by
 cases o with
 |none=>cases vo with
  |none=>cases h;exact .inl ⟨rfl,rfl⟩
  |some v=>cases hr
 |some d=>cases vo with
  |none=>cases hr
  |some v =>
   simp only[loI] at h;cases hq:d.int? with
   |none=>rw[hq] at h;cases h
   |some kn=>obtain⟨k,m⟩:=kn;rw[hq] at h;cases h;exact .inr ⟨k,by rw[intq hq hr]⟩
theorem goS_ok {l:Int}{hi mx:Option D}{n cp:Nat}{mk:Nat→Nat→Option D}{d:D}{vlo vhi vmx:Option Value}(hgo:goS l hi mx n mk=some d)(hL:AtI vlo 0 l)
  (hhi:relO G s W hi vhi) (hmx:relO G s W mx vmx) (hncp:n≤cp) :
  ∃(l' h' m':Nat),(Instr.sliceBounds true n cp vlo vhi vmx).run P W=.ok (l',h',m') W∧l'≤h'∧h'≤n∧h'≤m'∧m'≤cp∧(mx=none→m'=cp)∧((d=.v (.c .zc)∧l'=m')∨mk l' h'=some d):=by
 unfold goS at hgo
 split at hgo
 ·rename_i hv hh
  have hH:=loI_rel hh hhi
  split at hgo
  ·rename_i hc
   split at hgo
   ·have hmn:vmx=none:=by cases vmx with
     |none=>rfl
     |some v=>cases hmx
    subst hmn
    exact⟨l.toNat,hv.toNat,cp,sliceBounds_two hL hH hc.1 hc.2.1 hc.2.2 hncp,by omega,by omega,by omega,by omega,fun _=>rfl,.inr hgo⟩
   ·rename_i dm
    cases vmx with
    |none=>cases hmx
    |some vm =>
     split at hgo
     ·rename_i km m hm
      obtain rfl:=intq hm hmx
      split at hgo
      ·rename_i hc2
       have hhs:∃ k',vhi=some (.int k' hv):=by
        rcases hH with ⟨rfl,_⟩|hH
        ·cases hi with
         |none=>simp at hc2
         |some d=>cases hhi
        ·exact hH
       obtain⟨k',rfl⟩:=hhs
       have hb:=sliceBounds_three (P:=P) (W:=W) (n:=n) (cap:=cp) (k':=k') (k'':=km) hL hc.1 hc.2.1 hc2.2.1 (by omega)
       refine⟨l.toNat,hv.toNat,m.toNat,hb,by omega,by omega,by omega,by omega,(fun e=>nomatch e),?_⟩
       split at hgo
       ·rename_i hlm;cases hgo;exact .inl ⟨rfl,by omega⟩
       ·exact .inr hgo
      ·cases hgo
     ·cases hgo
  ·cases hgo
 ·cases hgo
theorem sliceC_ok {t e:Nat}{i ie:TI}{inf inf2:TypeInfo}{dd d2:TypeDesc}(ht:TOK P t i inf dd)(hk:i.kn=.slice e)(ht2:TOK P e ie inf2 d2)
  {l:Int} {c:C} {d:D} {hi mx:Option D} {vx:Value} {vlo vhi vmx:Option Value} (h:sliceC ie l hi mx c=some d) (hx:relC G s W c vx)
  (hL:AtI vlo 0 l) (hhi:relO G s W hi vhi) (hmx:relO G s W mx vmx):∃ v,(Instr.sliceAt t vx vlo vhi vmx).run P W=.ok v W∧relD G s W d v:=by
 unfold sliceC at h
 split at h
 ·rename_i n cs
  split at h
  ·rename_i hlen
   obtain⟨a,c,rfl,hc,hcs⟩:=slice_elems (s:=s) hx
   obtain⟨l',h',m',hb,h1,h2,h3,h4,hnm,h5⟩:=goS_ok (P:=P) h hL hhi hmx hc
   refine⟨_,slice_run ht hk ht2 hb,?_⟩
   rcases h5 with ⟨rfl,h5⟩|h5
   ·have e1:h' - l'=0:=by omega
    have e2:m' - l'=0:=by omega
    rw[e1,e2];exact⟨_,rfl⟩
   ·cases h5;exact lst_part (s:=s) hlen hcs h1 h2 h3 h4
  ·cases h
 ·rename_i n cs id
  split at h
  ·rename_i hlen
   obtain⟨a,c,rfl,hc,hcs⟩:=slice_elems (G:=G) (s:=s) hx.1
   obtain⟨l',h',m',hb,h1,h2,h3,h4,hnm,h5⟩:=goS_ok (P:=P) h hL hhi hmx hc
   refine⟨_,slice_run ht hk ht2 hb,?_⟩
   rcases h5 with ⟨rfl,h5⟩|h5
   ·have e1:h' - l'=0:=by omega
    have e2:m' - l'=0:=by omega
    rw[e1,e2];exact⟨_,rfl⟩
   ·cases h5;exact lst_part (s:=s) hlen hcs h1 h2 h3 h4
  ·cases h
 ·obtain rfl:=hx
  obtain⟨l',h',m',hb,h1,h2,h3,h4,hnm,h5⟩:=goS_ok (P:=P) h hL hhi hmx (Nat.le_refl _)
  refine⟨_,slice_run ht hk ht2 hb,?_⟩
  have e1:h' - l'=0:=by omega
  have e2:m' - l'=0:=by omega
  rw[e1,e2]
  rcases h5 with ⟨rfl,_⟩|h5
  ·exact⟨_,rfl⟩
  ·cases h5;simp[relD,relV,relC]
 ·rename_i r off n es
  split at h
  ·rename_i hes
   obtain⟨hnf,c,hc,rfl⟩:=hx
   obtain⟨l',h',m',hb,h1,h2,h3,h4,hnm,h5⟩:=goS_ok (P:=P) h hL hhi hmx hc
   refine⟨_,slice_run ht hk ht2 hb,?_⟩
   rcases h5 with ⟨rfl,h5⟩|h5
   ·have e1:h' - l'=0:=by omega
    have e2:m' - l'=0:=by omega
    rw[e1,e2];exact⟨_,rfl⟩
   ·split at h5
    ·rename_i hlt
     cases h5
     have hml:¬ m'=l':=by omega
     rw[if_neg hml]
     exact⟨hnf,m' - l',by omega,by simp[Addr.add_mid,hes]⟩
    ·cases h5
     have e1:h' - l'=0:=by omega
     rw[e1]
     refine P'_mk ?_
     exact⟨_,_,rfl,by omega,fun hne=>absurd rfl hne⟩
  ·cases h
 ·rename_i m id off n es
  split at h
  ·rename_i hes
   obtain⟨hh,b,c,rfl,hc,hg⟩:=hx
   obtain⟨l',h',m',hb,h1,h2,h3,h4,hnm,h5⟩:=goS_ok (P:=P) h hL hhi hmx hc
   refine⟨_,slice_run ht hk ht2 hb,?_⟩
   rcases h5 with ⟨rfl,h5⟩|h5
   ·have e1:h' - l'=0:=by omega
    have e2:m' - l'=0:=by omega
    rw[e1,e2];exact⟨_,rfl⟩
   ·split at h5
    ·cases h5
    ·rename_i hmx0
     have hmx1:mx=none:=by cases mx with
      |none=>rfl
      |some x=>simp at hmx0
     have hm':=hnm hmx1
     split at h5
     ·rename_i hlt
      cases h5
      have hml:¬ m'=l':=by omega
      refine⟨hh,b,m' - l',by rw[if_neg hml];simp[Addr.add_mid,hes.1],by omega,fun es' k cs fz e=>?_⟩
      obtain⟨g1,g2⟩:=hg es' k cs fz e
      refine⟨g1,fun e3=>?_⟩
      obtain⟨g4,g5⟩:=g2 e3
      refine⟨g4,fun e4=>?_⟩
      have hl0:l'=0:=by
       rcases Nat.eq_zero_or_pos l' with h9|h9
       ·exact h9
       ·have:=Nat.mul_pos h9 hes.2;omega
      subst hl0
      rw[Nat.sub_zero,hm']
      exact g5 (by omega)
     ·have h5:(if l'=0∧off=0∧0<n then some (D.v (.c (.gs m id 0 0 es))) else some (P' (.lst 0 [])))=some d∨some (P' (.lst 0 []))=some d:=by
       split at h5
       ·exact .inl h5
       ·exact .inr h5
      rcases h5 with h5|h5
      rotate_left
      ·cases h5
       have e1:h' - l'=0:=by omega
       rw[e1]
       refine P'_mk ?_
       exact⟨_,_,rfl,by omega,fun hne=>absurd rfl hne⟩
      split at h5
      ·rename_i hz
       obtain⟨hz1,hz2,hz3⟩:=hz
       cases h5;subst hz1 hz2
       have hml:¬ m'=0:=by omega
       have eh:h' - 0=0:=by omega
       refine⟨hh,b,m' - 0,by rw[if_neg hml,eh];simp[Addr.add_mid,hes.1],by omega,fun es' k cs fz e=>?_⟩
       obtain⟨g1,g2⟩:=hg es' k cs fz e
       refine⟨g1,fun e3=>?_⟩
       obtain⟨g4,g5⟩:=g2 e3
       refine⟨g4,fun e4=>?_⟩
       rw[Nat.sub_zero,hm']
       exact g5 rfl
      cases h5
      have e1:h' - l'=0:=by omega
      rw[e1]
      refine P'_mk ?_
      exact⟨_,_,rfl,by omega,fun hne=>absurd rfl hne⟩
  ·cases h
 ·obtain⟨a,rfl⟩:=hx
  obtain⟨l',h',m',hb,h1,h2,h3,h4,hnm,h5⟩:=goS_ok (P:=P) h hL hhi hmx (Nat.le_refl _)
  refine⟨_,slice_run ht hk ht2 hb,?_⟩
  have e1:h' - l'=0:=by omega
  have e2:m' - l'=0:=by omega
  rw[e1,e2]
  rcases h5 with ⟨rfl,_⟩|h5
  ·exact⟨_,rfl⟩
  ·cases h5;exact⟨_,rfl⟩
 ·cases h
theorem sliceD_ok (hE:EnvTy P E){t:Nat}{x d:D}{lo hi mx:Option D}{vx:Value}{vlo vhi vmx:Option Value}(h:sliceD E t x lo hi mx=some d)(hx:relD G s W x vx)
  (hlo:relO G s W lo vlo) (hhi:relO G s W hi vhi) (hmx:relO G s W mx vmx):∃ v,(Instr.sliceAt t vx vlo vhi vmx).run P W=.ok v W∧relD G s W d v:=by
 unfold sliceD at h
 split at h
 ·rename_i i l hti hl
  have hL:=loI_rel hl hlo
  obtain⟨inf,dd,ht⟩:=hE.tok hti
  split at h
  ·rename_i b hk
   obtain⟨tt,rfl,rfl⟩:=P'_str hx
   have hd:=ht.str hk
   subst hd
   split at h
   ·rename_i hv hh
    split at h
    ·rename_i hc
     cases h
     have hH:=loI_rel hh hhi
     have hmn:vmx=none:=by cases vmx with
      |none=>rfl
      |some v=>cases hmx
     subst hmn
     rw[← size_data] at hH
     have hb:=sliceBounds_two (P:=P) (W:=W) (isS:=false) hL hH hc.1 hc.2.1 (by rw[size_data];exact hc.2.2) (Nat.le_refl _)
     refine⟨.string (tt.extract l.toNat hv.toNat),by simp[Instr.sliceAt,Instr.slice,ht.underlying,hb],?_⟩
     refine P'_mk ⟨_,rfl,?_⟩
     rw[extract_str]
    ·cases h
   ·cases h
  ·rename_i e c hk
   split at h
   ·rename_i ie hie
    obtain⟨inf2,d2,ht2⟩:=hE.tok hie
    exact sliceC_ok ht hk ht2 h hx hL hhi hmx
   ·cases h
  ·cases h
 ·cases h
/-! ### loading -/
theorem cellsAt_rel (hI:Inv X G s W){d:D}{v:Value}{cs:List C}(h:cellsAt s d=some cs)(hr:relD G s W d v) :
  ∃ b o,v=.pointer (some ⟨b,o,none⟩)∧∀(j:Nat) c,cs[j]? = some c→∃ u,W.cell? ⟨b,o+j,none⟩=some u∧relC G s W c u:=by
 unfold cellsAt at h
 split at h
 ·rename_i r off
  split at h
  ·rename_i os frz ho
   split at h
   ·cases h
    obtain⟨_,rfl⟩:=hr
    obtain⟨_,arr,t,hh,hrel,_⟩:=hI.ob r _ ho
    refine⟨_,_,rfl,fun j c hj=>?_⟩
    rw[List.getElem?_drop] at hj
    obtain⟨u,hu,hc⟩:=relCL_get hrel _ c hj
    refine⟨u,?_,hc⟩
    rw[cell_of_row W _ _ arr t _ hh]
    simpa using hu
   ·cases h
  ·rename_i u os ho
   split at h
   ·cases h
    obtain⟨_,rfl⟩:=hr
    obtain⟨_,arr,hh,hrel,_⟩:=hI.ob r _ ho
    refine⟨_,_,rfl,fun j c hj=>?_⟩
    rw[List.getElem?_drop] at hj
    obtain⟨u',hu,hc⟩:=relCL_get hrel _ c hj
    refine⟨u',?_,hc⟩
    rw[cell_of_row W _ _ arr u _ hh]
    simpa using hu
   ·cases h
  ·cases h
 ·rename_i cs' off
  split at h
  ·cases h
   obtain⟨b,o,rfl,hh⟩:=hr
   refine⟨_,_,rfl,fun j c hj=>?_⟩
   rw[List.getElem?_map,List.getElem?_drop] at hj
   cases hq:cs'[off+j]? with
   |none=>rw[hq] at hj;cases hj
   |some x =>
    rw[hq] at hj;cases hj
    obtain⟨u,h1,h2,h3⟩:=relCs_get hh _ x hq
    refine⟨u,?_,h3⟩
    rw[Nat.add_assoc];exact h1
  ·cases h
 ·rename_i m id off
  split at h
  ·rename_i es m' os frz ho
   split at h
   ·rename_i hc0
    cases h
    obtain⟨_,b,rfl,hg⟩:=hr
    obtain rfl:=(hg _ _ _ _ ho).2 hc0.1.symm
    obtain⟨_,arr,t,hh,_,_,_,hrel,_⟩:=hI.ob id _ ho
    refine⟨_,_,rfl,fun j c hj=>?_⟩
    rw[List.getElem?_drop] at hj
    obtain⟨u,hu,hc⟩:=relCL_get hrel _ c hj
    refine⟨u,?_,hc⟩
    rw[cell_of_row W _ _ arr t _ hh]
    rw[List.getElem?_take] at hu
    split at hu
    ·simpa using hu
    ·cases hu
   ·cases h
  ·cases h
 ·cases h
theorem cells_list {b o:Nat}:∀ {cs:List C},(∀(j:Nat) c,cs[j]? = some c→∃ u,W.cell? ⟨b,o+j,none⟩=some u∧relC G s W c u) →
  ∃ vs:List Value,vs.length=cs.length∧relCL G s W cs vs∧∀(j:Nat) v,vs[j]? = some v→W.cell? ⟨b,o+j,none⟩=some v:=by
 intro cs
 induction cs generalizing o with
 |nil=>intro _;exact⟨[],rfl,rfl,fun j v e=>by simp at e⟩
 |cons c r ih =>
  intro h
  obtain⟨u,h1,h2⟩:=h 0 c rfl
  obtain ⟨vs, e1, e2, e3⟩ := ih (o := o + 1) (fun j c hj => by
   have:=h (j+1) c (by simpa using hj)
   rwa [show o+(j+1)=o+1+j by omega] at this)
  refine⟨u::vs,by simp[e1],⟨u,vs,rfl,h2,e2⟩,fun j v e=>?_⟩
  cases j with
  |zero=>simp at e;subst e;exact h1
  |succ j=>simp at e;rw[show o+(j+1)=o+1+j by omega];exact e3 j v e
theorem loadVar_ok {t:Nat}{i:TI}{inf:TypeInfo}{d:TypeDesc}(ht:TOK P t i inf d){b o:Nat}{cs:List C}{v:V}(hv:takeV i cs=some v)
  (h:∀(j:Nat) c,cs[j]? = some c→∃ u,W.cell? ⟨b,o+j,none⟩=some u∧relC G s W c u) :
  ∃ u,(loadVar t ⟨b,o,none⟩).run P W=.ok u W∧relV G s W v u:=by
 unfold takeV at hv
 split at hv
 ·rename_i hle
  obtain ⟨vs, e1, e2, e3⟩ := cells_list (G := G) (s := s) (W := W) (b := b) (o := o) (cs := cs.take i.size) (fun j c hj => by
   rw[List.getElem?_take] at hj
   split at hj
   ·exact h j c hj
   ·cases hj)
  have hlen:vs.length=i.size:=by rw[e1];simp;omega
  obtain⟨g1,g2⟩:=mkV_rel hv e2
  cases hag:i.agg with
  |true =>
   refine⟨_,?_,g1 hag⟩
   have hl:=run_loadCells_list (P:=P) W ⟨b,o,none⟩ vs (fun j v hj=>by rw[Addr.add_mid];exact e3 j v hj)
   rw[hlen] at hl
   simp[loadVar,ht.isAgg,hag,ht.sizeOf,hl]
  |false =>
   obtain⟨u,rfl,hu⟩:=g2 hag
   refine⟨u,?_,hu⟩
   have:=e3 0 u rfl
   simp only[Nat.add_zero] at this
   simp[loadVar,ht.isAgg,hag,this]
 ·cases hv
theorem loadD_ok (hE:EnvTy P E)(hI:Inv X G s W){t:Nat}{i:TI}{x:D}{cs:List C}{v:V}{vx:Value}(hti:E.ti t=some i)(hc:cellsAt s x=some cs)(hv:takeV i cs=some v)(hx:relD G s W x vx) :
  ∃ u,(Instr.loadAt t vx).run P W=.ok u W∧relV G s W v u:=by
 obtain⟨inf,dd,ht⟩:=hE.tok hti
 obtain⟨b,o,rfl,h⟩:=cellsAt_rel hI hc hx
 obtain⟨u,hu,hr⟩:=loadVar_ok ht hv h
 exact⟨u,by simp[Instr.loadAt,Instr.sureAddr,hu],hr⟩
/-! ### building -/
theorem setR_rel {cs xs:List C}{vs ws:List Value}(off:Nat)(h:relCL G s W cs vs)(h':relCL G s W xs ws):relCL G s W (setR cs off xs) (vs.take off++ws++vs.drop (off+ws.length)):=by
 unfold setR
 rw[relCL_length h']
 exact relCL_append (relCL_append (relCL_take off h) h') (relCL_drop _ h)
theorem foldl_set:∀(ws:List Value)(k:Nat)(cs:Array Value)(off:Nat),off+k+ws.length≤cs.size →
  ((ws.zipIdx k).foldl (fun cs (c,j)=>cs.setIfInBounds (off+j) c) cs).toList=cs.toList.take (off+k)++ws++cs.toList.drop (off+k+ws.length)
 |[],k,cs,off,h=>by simp
 |w::r,k,cs,off,h=>by
  simp only[List.length_cons] at h
  rw[List.zipIdx_cons,List.foldl_cons,foldl_set r (k+1) _ off (by simp;omega)]
  have e:=list_seg_step cs.toList (off+k) w r (by simp at h ⊢;omega)
  simpa[Array.toList_setIfInBounds,Nat.add_assoc] using e
theorem fill_ok {pl:Nat→Option (Nat×Nat)}:∀ {ps:List (Nat×D)} {vps:List (Nat×Value)} {cs out:List C} {arr:Array Value},
  ps.map (·.1)=vps.map (·.1)→relDL G s W (ps.map (·.2)) (vps.map (·.2))→relCL G s W cs arr.toList→fillD pl cs ps=some out →
  ∃ arr',Instr.fill pl arr vps=some arr'∧relCL G s W out arr'.toList
 |[],[],cs,out,arr,_,_,hr,h=>by simp only[fillD] at h;cases h;exact⟨arr,rfl,hr⟩
 |[],_::_,cs,out,arr,he,_,_,_=>by simp at he
 |_::_,[],cs,out,arr,he,_,_,_=>by simp at he
 |(i,d)::r,(i',v)::r',cs,out,arr,he,hv,hr,h=>by
  simp only[List.map_cons,List.cons.injEq] at he
  obtain⟨rfl,he⟩:=he
  simp only[List.map_cons,relDL,List.cons.injEq] at hv
  obtain⟨v1,t1,⟨rfl,rfl⟩,hv,hvs⟩:=hv
  simp only[fillD] at h
  split at h
  ·rename_i off sz x hp hx
   split at h
   ·rename_i hc
    have hx':=vq hx hv
    have hcells:=relV_cells hx'
    have hsz:=relV_size hx'
    have hal:arr.size=cs.length:=by have:=relCL_length hr;simpa using this
    have hlen:v.cells.toList.length=sz:=by rw[Array.length_toList,hsz,hc.1]
    have hf:=foldl_set v.cells.toList 0 arr off (by rw[hlen];have:=hc.2;omega)
    have hset:=setR_rel off hr hcells
    rw[show off+0=off by omega] at hf
    obtain⟨arr',h1,h2⟩:=fill_ok (arr:=((v.cells.toList.zipIdx 0).foldl (fun cs (c,j)=>cs.setIfInBounds (off+j) c) arr)) he hvs (by rw[hf];exact hset) h
    refine⟨arr',?_,h2⟩
    simp only[Instr.fill,hp]
    have h1':v.cells.size=sz:=by rw[hsz,hc.1]
    have h2':off+sz≤arr.size:=by rw[hal];exact hc.2
    rw[if_neg (by simp[h1'];exact h2')]
    rw[← h1]
    congr 1
    rw[← Array.foldl_toList]
    congr 1
    simp
   ·cases h
  ·cases h
theorem buildD_ok (hE:EnvTy P E){t:Nat}{ps:List (Nat×D)}{vps:Array (Nat×Value)}{d:D}(h:buildD E t ps=some d)
  (he:ps.map (·.1)=vps.toList.map (·.1)) (hv:relDL G s W (ps.map (·.2)) (vps.toList.map (·.2))) :
  ∃ v,(Instr.build t vps).run P W=.ok v W∧relD G s W d v:=by
 unfold buildD at h
 split at h
 ·rename_i size agg by_ z fs eq hti
  obtain⟨inf,dd,ht⟩:=hE.tok hti
  obtain⟨fl,rfl,hfl⟩:=ht.structT rfl
  obtain⟨zv,hz1,hz2⟩:=ht.zeroValue (W:=W) rfl
  split at h
  ·rename_i cs hcs
   cases h
   have hm:∀(l:List Field) (acc:List (Nat×Nat×Bool)),allM (fldOf P) l=some acc →
     (l.mapM (m:=Sem) (fun f=>do pure (f.offset,← sizeOf f.type))).run P W=.ok (acc.map fun x=>(x.1,x.2.1)) W:=by
    intro l
    induction l with
    |nil=>intro acc h;simp[allM] at h;subst h;simp
    |cons f r ih =>
     intro acc h;simp only[allM] at h
     split at h
     ·cases h
     ·rename_i y hy
      split at h
      ·cases h
      ·rename_i ys hys
       cases h
       obtain⟨o,sz,ag⟩:=y
       obtain⟨h1,h2,h3⟩:=fldOf_ok (W:=W) hy
       rw[List.mapM_cons]
       simp only[Sem.run_bind,h2,Result.andThen_ok,Sem.run_pure,ih ys hys,h1]
       rfl
   have hma:(fl.mapM (m:=Sem) (fun f=>do pure (f.offset,← sizeOf f.type))).run P W=.ok (fs.map fun x=>(x.1,x.2.1)).toArray W:=by
    rw[Array.mapM_eq_mapM_toList,Sem.run_map,hm fl.toList fs hfl]
    rfl
   obtain⟨arr',h1,h2⟩:=fill_ok (arr:=zv.cells) (vps:=vps.toList) he hv (allM_toC hz2) hcs
   refine⟨.agg arr',?_,arr',rfl,h2⟩
   have hpl:((fs.map fun x=>(x.1,x.2.1)).toArray[·]?)=(fun(i:Nat)=>match fs[i]? with | some (o,sz,_)=>some (o,sz) | none=>none):=by
    funext i
    simp only[List.getElem?_toArray,List.getElem?_map];cases fs[i]? with
    |none=>rfl
    |some x=>rfl
   have h1'':Instr.fill ((fs.map fun x=>(x.1,x.2.1)).toArray[·]?) zv.cells vps.toList=some arr':=by rw[hpl];exact h1
   simp only[Instr.build,Sem.run_bind,hz1,Result.andThen_ok,ht.underlying,hma,h1'']
   rfl
  ·cases h
 ·rename_i size agg by_ z n e eq hti
  obtain⟨inf,dd,ht⟩:=hE.tok hti
  have hd:=ht.array rfl
  subst hd
  obtain⟨zv,hz1,hz2⟩:=ht.zeroValue (W:=W) rfl
  split at h
  ·rename_i ie hie
   obtain⟨inf2,d2,ht2⟩:=hE.tok hie
   split at h
   ·rename_i cs hcs
    cases h
    obtain⟨arr',h1,h2⟩:=fill_ok (arr:=zv.cells) (vps:=vps.toList) he hv (allM_toC hz2) hcs
    refine⟨.agg arr',?_,arr',rfl,h2⟩
    simp only[Instr.build,Sem.run_bind,hz1,Result.andThen_ok,ht.underlying,ht2.sizeOf,h1]
    rfl
   ·cases h
  ·cases h
 ·cases h
end
end Go.Proofs.YtedcnhbblgmdnaaGreat.Ab
/- An evaluator of the model's code with slices as pure lists: its operations on memory are the machine's. -/
namespace Go.Proofs.YtedcnhbblgmdnaaGreat.Ab
open Go.RowKit
section
variable {X:Ctx} {G G':Gh} {s s':St} {W W':World} {P:Program} {E:Env}
theorem relOb_keep {k:Nat}{o:Ob}(hE:Ext G s W G' s' W')(hb:G'.blk k=G.blk k)(hc:G'.cap k=G.cap k)(hh:W'.heap[G.blk k]? = W.heap[G.blk k]?)
  (hi:∀ o,G'.imm (G.blk k) o→G.imm (G.blk k) o) (h:relOb X G s W k o):relOb X G' s' W' k o:=by
 cases o with
 |cells cs frz =>
  obtain⟨h1,arr,t,h2,h3,h4,h5⟩:=h
  refine⟨by rw[hb];exact h1,arr,t,by rw[hb,hh];exact h2,relCL_ext hE cs _ h3,fun e o hx=>h4 e o (hi o (by rw[hb] at hx;exact hx)),fun e=>⟨fun o ho=>?_,(h5 e).2⟩⟩
  rw[hb];exact(hE.imm _ _ ((h5 e).1 o ho)).1
 |loop r =>
  obtain⟨h1,L,h2,h3,h4,h5,h6⟩:=h
  exact⟨by rw[hb];exact h1,L,by rw[hb,hh];exact h2,h3,h4,relDL_ext hE h5,h6⟩
 |defr=>exact⟨by rw[hb];exact h.1,by rw[hb,hh];exact h.2⟩
 |front es n tg =>
  obtain⟨h1,arr,t,fz,h2,h3,h4,h5,h6⟩:=h
  exact⟨by rw[hb];exact h1,arr,t,fz,by rw[hb,hh];exact h2,by rw[hc];exact h3,by rw[hc];exact h4,fun o ho hx=>h5 o ho (hi o (by rw[hb] at hx;exact hx)),h6⟩
 |tc t cs =>
  obtain⟨h1,arr,h2,h3,h4⟩:=h
  exact⟨by rw[hb];exact h1,arr,by rw[hb,hh];exact h2,relCL_ext hE cs _ h3,fun o hx=>h4 o (hi o (by rw[hb] at hx;exact hx))⟩
 |grow es n cs frz =>
  obtain⟨h1,arr,t,h2,h3,h4,h5,h6,h7,h8⟩:=h
  refine⟨by rw[hb];exact h1,arr,t,by rw[hb,hh];exact h2,by rw[hc];exact h3,by rw[hc];exact h4,h5,relCL_ext hE cs _ h6,fun e o hx=>h7 e o (hi o (by rw[hb] at hx;exact hx)),fun e=>⟨fun o ho=>?_,(h8 e).2⟩⟩
  rw[hb];exact(hE.imm _ _ ((h8 e).1 o ho)).1
 |mapo ks cs =>
  obtain⟨h1,es,cl,h2,h3,h4⟩:=h
  exact⟨by rw[hb];exact h1,es,cl,by rw[hb,hh];exact h2,h3,relCL_ext hE cs _ h4⟩
 |dead=>trivial
theorem relOb_lt {k:Nat}{o:Ob}(h:relOb X G s W k o)(hl:o.live):G.blk k<W.heap.size:=by
 cases o with
 |cells cs frz=>obtain⟨_,_,_,h2,_⟩:=h;exact(Array.getElem?_eq_some_iff.1 h2).1
 |loop r=>obtain⟨_,_,h2,_⟩:=h;exact(Array.getElem?_eq_some_iff.1 h2).1
 |defr=>exact(Array.getElem?_eq_some_iff.1 h.2).1
 |front es n tg=>obtain⟨_,_,_,_,h2,_⟩:=h;exact(Array.getElem?_eq_some_iff.1 h2).1
 |tc t cs=>obtain⟨_,_,h2,_⟩:=h;exact(Array.getElem?_eq_some_iff.1 h2).1
 |grow es n cs frz=>obtain⟨_,_,_,h2,_⟩:=h;exact(Array.getElem?_eq_some_iff.1 h2).1
 |mapo ks cs=>obtain⟨_,_,_,h2,_⟩:=h;exact(Array.getElem?_eq_some_iff.1 h2).1
 |dead=>exact hl.elim
theorem relOb_dead {k:Nat}{o:Ob}(h:¬ o.live):relOb X G s W k o:=by
 cases o<;>first | trivial | exact(h trivial).elim
theorem Inv.upd (hI:Inv X G s W){k0 b0:Nat}{o0:Ob}(hlt:k0<s.nx)(hblk:o0.live→G'.blk k0=b0)(hoth:∀ j,j≠k0→G'.blk j=G.blk j∧G'.cap j=G.cap j)
  (hbel:Below X.B W W') (hheap:∀ b,b≠b0→b<W.heap.size→W'.heap[b]? = W.heap[b]?)
  (hne:∀ j oj,s.get j=some oj→oj.live→j≠k0→G.blk j≠b0)
  (himm:∀ b o,G'.imm b o→G.imm b o∨(b=b0∧b0<W'.heap.size∧X.B≤b0))
  (hext:Ext G s W G' (s.put k0 o0) W') (hnew:relOb X G' (s.put k0 o0) W' k0 o0):Inv X G' (s.put k0 o0) W' where
 below:=hI.below.trans hbel
 bsz:=Nat.le_trans hI.bsz hbel.size
 immlt b o h:=by
  rcases himm b o h with h|⟨rfl,h,_⟩
  ·exact Nat.lt_of_lt_of_le (hI.immlt b o h) hbel.size
  ·exact h
 immnew b o h:=by
  rcases himm b o h with h|⟨rfl,_,h⟩
  ·exact hI.immnew b o h
  ·exact .inr h
 lt k o h:=by
  rw[St.get_put] at h
  split at h
  ·rename_i e;subst e;exact hlt
  ·exact hI.lt k o h
 ob k o h:=by
  rw[St.get_put] at h
  split at h
  ·rename_i e;subst e;cases h;exact hnew
  ·rename_i e
   have e':k≠k0:=fun h=>e h.symm
   by_cases hl:o.live
   ·have h0:=hI.ob k o h
    exact relOb_keep hext (hoth k e').1 (hoth k e').2 (hheap _ (hne k o h hl e') (relOb_lt h0 hl))
     (fun o' ho'=>(himm _ o' ho').resolve_right fun hx=>hne k o h hl e' hx.1) h0
   ·exact relOb_dead hl
 inj j k oj ok hj hk lj lk e:=by
  rw[St.get_put] at hj hk
  by_cases h1:k0=j<;>by_cases h2:k0=k
  ·exact h1.symm.trans h2
  ·rw[if_pos h1] at hj;rw[if_neg h2] at hk
   cases hj;subst h1
   rw[hblk lj,(hoth k (fun h=>h2 h.symm)).1] at e
   exact absurd e.symm (hne k ok hk lk (fun h=>h2 h.symm))
  ·rw[if_neg h1] at hj;rw[if_pos h2] at hk
   cases hk;subst h2
   rw[hblk lk,(hoth j (fun h=>h1 h.symm)).1] at e
   exact absurd e (hne j oj hj lj (fun h=>h1 h.symm))
  ·rw[if_neg h1] at hj;rw[if_neg h2] at hk
   rw[(hoth j (fun h=>h1 h.symm)).1,(hoth k (fun h=>h2 h.symm)).1] at e
   exact hI.inj j k oj ok hj hk lj lk e
theorem Ext.upd {k0:Nat}{o0:Ob}(himm:ImmLe G.imm W G'.imm W')(hoth:∀ j,j≠k0→G'.blk j=G.blk j∧G'.cap j=G.cap j)
  (hk : s.get k0 = none ∨ (∃ o, s.get k0 = some o ∧ o.isMv = false ∧ o0.isMv = false ∧ G'.blk k0 = G.blk k0) ∨
   (∃ es n n' tg tg',s.get k0=some (.front es n tg)∧o0=.front es n' tg'∧n≤n'∧(n=n'→G'.blk k0=G.blk k0∧G'.cap k0=G.cap k0)) ∨
   (∃ es n n' cs cs' fz fz',s.get k0=some (.grow es n cs fz)∧o0=.grow es n' cs' fz'∧n≤n'∧(n=n'→G'.blk k0=G.blk k0∧G'.cap k0=G.cap k0))) :
  Ext G s W G' (s.put k0 o0) W' where
 imm:=himm
 nx:=Nat.le_refl _
 has k h:=by
  obtain⟨o,ho⟩:=h
  by_cases e:k0=k
  ·exact⟨o0,by rw[St.get_put,if_pos e]⟩
  ·exact⟨o,by rw[St.get_put,if_neg e];exact ho⟩
 fr k es m' tg' h hf:=by
  rw[St.get_put] at hf
  by_cases e:k0=k
  ·rw[if_pos e] at hf
   subst e;cases hf;rcases hk with hk|⟨o,h1,h2,h3,_⟩|⟨es',n,n',tg0,tg1,h1,h2,h3,h4⟩|⟨es',n,n',tg0,tg1,fz0,fz1,h1,h2,h3,h4⟩
   ·obtain⟨o,ho⟩:=h;rw[hk] at ho;cases ho
   ·cases h3
   ·cases h2;exact⟨n,tg0,h1,h3,h4⟩
   ·cases h2
  ·rw[if_neg e] at hf
   exact⟨m',tg',hf,Nat.le_refl _,fun _=>hoth k fun h=>e h.symm⟩
 bl k h:=by
  obtain⟨o,ho,hnf⟩:=h
  by_cases e:k0=k
  ·subst e;rcases hk with hk|⟨o',h1,h2,h3,h4⟩|⟨es',n,n',tg0,tg1,h1,h2,h3,h4⟩|⟨es',n,n',tg0,tg1,fz0,fz1,h1,h2,h3,h4⟩
   ·rw[hk] at ho;cases ho
   ·exact⟨⟨o0,St.get_put_same _ _ _,h3⟩,h4⟩
   ·rw[h1] at ho;cases ho;cases hnf
   ·rw[h1] at ho;cases ho;cases hnf
  ·exact⟨⟨o,by rw[St.get_put,if_neg e];exact ho,hnf⟩,(hoth k fun h=>e h.symm).1⟩
 gr k es m' cs' fz' h hf:=by
  rw[St.get_put] at hf
  by_cases e:k0=k
  ·rw[if_pos e] at hf
   subst e;cases hf;rcases hk with hk|⟨o,h1,h2,h3,_⟩|⟨es',n,n',tg0,tg1,h1,h2,h3,h4⟩|⟨es',n,n',tg0,tg1,fz0,fz1,h1,h2,h3,h4⟩
   ·obtain⟨o,ho⟩:=h;rw[hk] at ho;cases ho
   ·cases h3
   ·cases h2
   ·cases h2;exact⟨n,tg0,fz0,h1,h3,h4⟩
  ·rw[if_neg e] at hf
   exact⟨m',cs',fz',hf,Nat.le_refl _,fun _=>hoth k fun h=>e h.symm⟩
def Gh.set (G:Gh)(k b c:Nat):Gh:={ G with blk:=fun j=>if j=k then b else G.blk j,cap:=fun j=>if j=k then c else G.cap j }
def Gh.addImm (G:Gh)(I:Nat→Nat→Prop):Gh:={ G with imm:=fun b o=>G.imm b o∨I b o }
theorem Gh.set_oth (G:Gh)(k b c j:Nat)(h:j≠k):(G.set k b c).blk j=G.blk j∧(G.set k b c).cap j=G.cap j:=by simp[Gh.set,h]
theorem Gh.set_same (G:Gh)(k b c:Nat):(G.set k b c).blk k=b∧(G.set k b c).cap k=c:=by simp[Gh.set]
theorem Inv.blk_lt (hI:Inv X G s W){j:Nat}{oj:Ob}(h:s.get j=some oj)(hl:oj.live):G.blk j<W.heap.size:=relOb_lt (hI.ob j oj h) hl
theorem heap_alloc_new (W:World)(o:Obj):(W.alloc o).heap[W.heap.size]? = some o:=World.alloc_heap_new W o
theorem cell_alloc_old (W:World)(o:Obj){b:Nat}(off:Nat)(h:b<W.heap.size):(W.alloc o).cell? ⟨b,off,none⟩=W.cell? ⟨b,off,none⟩ :=
 World.cell?_of_block (w:=W) (Below.heap_alloc W o b h)
theorem Inv.drew (hI:Inv X G s W):Inv X G s W.drew where
 below:=hI.below.drew
 bsz:=hI.bsz
 immlt:=hI.immlt
 immnew:=hI.immnew
 lt:=hI.lt
 ob k o h:=relOb_keep (G:=G) (s:=s) (W:=W) (Ext.refl G s W |> fun e=>⟨fun b o hi=>⟨hi,rfl⟩,e.nx,e.has,e.fr,e.bl,e.gr⟩) rfl rfl rfl (fun _ h=>h) (hI.ob k o h)
 inj:=hI.inj
theorem Ext.drew (G:Gh)(s:St)(W:World):Ext G s W G s W.drew:=⟨fun b o hi=>⟨hi,rfl⟩,(Ext.refl G s W).nx,(Ext.refl G s W).has,(Ext.refl G s W).fr,(Ext.refl G s W).bl,(Ext.refl G s W).gr⟩
theorem Inv.more (hI:Inv X G s W)(n:Nat):Inv X G { s with nx:=s.nx+n } W∧Ext G s W G { s with nx:=s.nx+n } W:=by
 have hg:∀ k,({ s with nx:=s.nx+n }:St).get k=s.get k:=fun k=>rfl
 have e:Ext G s W G { s with nx:=s.nx+n } W:=⟨fun b o hi=>⟨hi,rfl⟩,by simp,fun k h=>h,fun k es m' tg' h hf=>⟨m',tg',hf,Nat.le_refl _,fun _=>⟨rfl,rfl⟩⟩,fun k h=>⟨h,rfl⟩,fun k es m' cs' fz' h hf=>⟨m',cs',fz',hf,Nat.le_refl _,fun _=>⟨rfl,rfl⟩⟩⟩
 exact⟨⟨hI.below,hI.bsz,hI.immlt,hI.immnew,fun k o h=>Nat.lt_of_lt_of_le (hI.lt k o h) (by simp),fun k o h=>relOb_keep e rfl rfl rfl (fun _ h=>h) (hI.ob k o h),hI.inj⟩,e⟩
/-! ### a new object -/
theorem new_cells (hI:Inv X G s W){k:Nat}(hk:k<s.nx)(hn:s.get k=none){cs:List C}{arr:Array Value}(t:TypeId)(hr:relCL G s W cs arr.toList) :
  Inv X (G.set k W.heap.size 0) (s.put k (.cells cs false)) (W.alloc (.cells arr t))∧Ext G s W (G.set k W.heap.size 0) (s.put k (.cells cs false)) (W.alloc (.cells arr t)):=by
 have hoth:=Gh.set_oth G k W.heap.size 0
 have hext:Ext G s W (G.set k W.heap.size 0) (s.put k (.cells cs false)) (W.alloc (.cells arr t)) :=
  Ext.upd (fun b o hi=>⟨hi,cell_alloc_old W _ o (hI.immlt b o hi)⟩) (fun j h=>hoth j h) (.inl hn)
 refine ⟨hI.upd (b0 := W.heap.size) hk (fun _ => (Gh.set_same G k _ 0).1) (fun j h => hoth j h) ((Below.refl _ W).alloc hI.bsz _) (fun b hb hlt => Below.heap_alloc W _ b hlt)
  (fun j oj hj hl _=>Nat.ne_of_lt (hI.blk_lt hj hl)) (fun b o h=>.inl h) hext ?_,hext⟩
 refine⟨by rw[(Gh.set_same G k _ 0).1];exact hI.bsz,arr,t,by rw[(Gh.set_same G k _ 0).1];exact heap_alloc_new W _,relCL_ext hext cs _ hr,fun _ o h=>?_,fun h=>by cases h⟩
 rw[(Gh.set_same G k _ 0).1] at h
 exact absurd (hI.immlt _ _ h) (Nat.lt_irrefl _)
theorem new_tc (hI:Inv X G s W){k:Nat}(hk:k<s.nx)(hn:s.get k=none){cs:List C}{arr:Array Value}(t:TypeId)(hr:relCL G s W cs arr.toList) :
  Inv X (G.set k W.heap.size 0) (s.put k (.tc t cs)) (W.alloc (.cells arr t))∧Ext G s W (G.set k W.heap.size 0) (s.put k (.tc t cs)) (W.alloc (.cells arr t)):=by
 have hoth:=Gh.set_oth G k W.heap.size 0
 have hext:Ext G s W (G.set k W.heap.size 0) (s.put k (.tc t cs)) (W.alloc (.cells arr t)) :=
  Ext.upd (fun b o hi=>⟨hi,cell_alloc_old W _ o (hI.immlt b o hi)⟩) (fun j h=>hoth j h) (.inl hn)
 refine ⟨hI.upd (b0 := W.heap.size) hk (fun _ => (Gh.set_same G k _ 0).1) (fun j h => hoth j h) ((Below.refl _ W).alloc hI.bsz _) (fun b hb hlt => Below.heap_alloc W _ b hlt)
  (fun j oj hj hl _=>Nat.ne_of_lt (hI.blk_lt hj hl)) (fun b o h=>.inl h) hext ?_,hext⟩
 refine⟨by rw[(Gh.set_same G k _ 0).1];exact hI.bsz,arr,by rw[(Gh.set_same G k _ 0).1];exact heap_alloc_new W _,relCL_ext hext cs _ hr,fun o h=>?_⟩
 rw[(Gh.set_same G k _ 0).1] at h
 exact absurd (hI.immlt _ _ h) (Nat.lt_irrefl _)
theorem new_front (hI:Inv X G s W){k es n tg:Nat}(hk:k<s.nx)(hn:s.get k=none∨∃ n0 tg0,s.get k=some (.front es n0 tg0)∧n0<n){ys:List Pd}{arr:Array Value}(t:TypeId){fz:Nat×Nat}{cap:Nat}
  (hsz:arr.size=cap*es) (hnc:n≤cap) (hys:ys.length=n*es) (hfz:fz.2≤n*es∨arr.size≤fz.1) (htg:tg=0∨(tg≠999983∧t=tg∧fz.2≤n*es)∨tg=999983∧fz=(0,0))
  (hr:∀(j:Nat) y,ys[j]? = some y→∃ v,arr[j]? = some v∧relPd G.imm W y v) :
  ∃ G',Inv X G' (s.put k (.front es n tg)) (W.alloc (.cells arr t fz))∧Ext G s W G' (s.put k (.front es n tg)) (W.alloc (.cells arr t fz))∧G'.blk k=W.heap.size∧G'.cap k=cap ∧
   relCs G'.imm (W.alloc (.cells arr t fz)) W.heap.size 0 ys:=by
 let G':Gh:=(G.set k W.heap.size cap).addImm fun b o=>b=W.heap.size∧o<n*es
 have hoth:∀ j,j≠k→G'.blk j=G.blk j∧G'.cap j=G.cap j:=fun j h=>Gh.set_oth G k W.heap.size cap j h
 have hb:G'.blk k=W.heap.size:=(Gh.set_same G k _ cap).1
 have hc:G'.cap k=cap:=(Gh.set_same G k W.heap.size cap).2
 have himm:ImmLe G.imm W G'.imm (W.alloc (.cells arr t fz)):=fun b o hi=>⟨.inl hi,cell_alloc_old W _ o (hI.immlt b o hi)⟩
 have hext:Ext G s W G' (s.put k (.front es n tg)) (W.alloc (.cells arr t fz)) :=
  Ext.upd himm hoth (by
   rcases hn with hn|⟨n0,tg0,h1,h2⟩
   ·exact .inl hn
   ·exact .inr (.inr (.inl ⟨es,n0,n,tg0,tg,h1,rfl,by omega,fun h=>by omega⟩)))
 refine ⟨G', hI.upd (b0 := W.heap.size) hk (fun _ => hb) hoth ((Below.refl _ W).alloc hI.bsz _) (fun b hb hlt => Below.heap_alloc W _ b hlt)
  (fun j oj hj hl _=>Nat.ne_of_lt (hI.blk_lt hj hl)) (fun b o h=>?_) hext ?_,hext,hb,hc,?_⟩
 ·rcases h with h|⟨rfl,_⟩
  ·exact .inl h
  ·exact .inr ⟨rfl,by simp,hI.bsz⟩
 ·refine⟨by rw[hb];exact hI.bsz,arr,t,fz,by rw[hb];exact heap_alloc_new W _,by rw[hc];exact hsz,by rw[hc];exact hnc,fun o ho h=>?_,hfz,htg⟩
  rw[hb] at h
  rcases h with h|⟨_,h⟩
  ·exact absurd (hI.immlt _ _ h) (Nat.lt_irrefl _)
  ·omega
 ·refine relCs_mk fun j y hj=>?_
  obtain⟨v,h1,h2⟩:=hr j y hj
  have hlt:j<ys.length:=(List.getElem?_eq_some_iff.1 hj).1
  refine⟨v,?_,.inr ⟨rfl,by omega⟩,relPd_mono himm y v h2⟩
  rw[cell_of_row _ _ _ arr t fz (heap_alloc_new W _)]
  simpa using h1
/-! ### writing cells -/
theorem Below.row {B:Nat}{w:World}{g:Nat}(h:B≤g)(cs:Array Value):Below B w (w.setRow g cs):=by
 refine⟨rfl,rfl,rfl,by simp[World.setRow],fun k hk=>?_⟩
 simp only[World.setRow,Array.getElem?_modify]
 rw[if_neg (by omega)]
theorem setRow_other {w:World}{g k:Nat}(h:k≠g)(cs:Array Value):(w.setRow g cs).heap[k]? = w.heap[k]?:=by
 simp only[World.setRow,Array.getElem?_modify]
 rw[if_neg (fun e=>h e.symm)]
theorem run_storeCells_fz (P:Program)(g o:Nat)(t:TypeId)(fz:Nat×Nat):∀(vs:List Value) (i:Nat) (cur:Array Value) (w:World),w.heap[g]? = some (.cells cur t fz) →
  o+i+vs.length≤cur.size→(fz.2≤o+i∨cur.size≤fz.1)→(∀ v∈vs,v.oneCell'=true) →
  (storeCells ⟨g,o,none⟩ vs i).run P w=.ok () (w.setRow g (cur.toList.take (o+i)++vs++cur.toList.drop (o+i+vs.length)).toArray)
 |[],i,cur,w,hg,_,_,_=>by
  simp only[storeCells,List.append_nil,List.length_nil,Nat.add_zero,List.take_append_drop,Array.toArray_toList]
  rw[setRow_self w g cur t fz hg]
  rfl
 |v::rest,i,cur,w,hg,hl,hf,h1=>by
  have hi:o+i<cur.size:=by simp at hl;omega
  have hadd:(⟨g,o,none⟩:Addr).add i=⟨g,o+i,none⟩:=by unfold Addr.add;split<;>simp_all
  have hcell:w.cell? ⟨g,o+i,none⟩=some cur[o+i]:=by simp[World.cell?,hg,hi]
  have hfro:w.frozen? ⟨g,o+i,none⟩=false:=by
   simp only[World.frozen?,hg,Bool.and_eq_false_iff,decide_eq_false_iff_not];omega
  have hst:(store ((⟨g,o,none⟩:Addr).add i) v).run P w=.ok () (w.setRow g (cur.setIfInBounds (o+i) v)):=by
   rw[hadd,run_store P w _ v _ (h1 v (by simp)),hcell]
   simp[hfro,setCell_eq_setRow w g (o+i) cur t fz v hg]
  have ih:=run_storeCells_fz P g o t fz rest (i+1) (cur.setIfInBounds (o+i) v) (w.setRow g (cur.setIfInBounds (o+i) v)) (setRow_heap w g cur _ t _ hg) (by simp at hl ⊢;omega) (by simp;omega) (fun x hx=>h1 x (by simp[hx]))
  simp only[storeCells,Sem.run_bind,hst,Result.andThen_ok,ih,setRow_setRow]
  congr 3
  have e:=list_seg_step cur.toList (o+i) v rest (by simp at hl ⊢;omega)
  simpa[Array.toList_setIfInBounds,Nat.add_assoc] using e
theorem store_cells (hI:Inv X G s W){k off:Nat}{cs xs:List C}(hk:s.get k=some (.cells cs false)){ws:List Value}(hws:relCL G s W xs ws)(hfit:off+xs.length≤cs.length) :
  ∃ W',(storeCells ⟨G.blk k,off,none⟩ ws 0).run P W=.ok () W'∧Inv X G (s.put k (.cells (setR cs off xs) false)) W'∧Ext G s W G (s.put k (.cells (setR cs off xs) false)) W':=by
 obtain⟨h1,arr,t,h2,h3,h4,_⟩:=hI.ob k _ hk
 have hal:arr.size=cs.length:=by have:=relCL_length h3;simpa using this
 have hwl:ws.length=xs.length:=relCL_length hws
 have hrun:=run_storeCells_fz P (G.blk k) off t (0,0) ws 0 arr W h2 (by omega) (.inl (by simp)) (relCL_one hws)
 refine⟨_,hrun,?_⟩
 obtain⟨arr',harr⟩:∃ a,(arr.toList.take (off+0)++ws++arr.toList.drop (off+0+ws.length)).toArray=a:=⟨_,rfl⟩
 rw[harr]
 have hnew:=setRow_heap W (G.blk k) arr arr' t (0,0) h2
 have hoth:∀ j,j≠k→G.blk j=G.blk j∧G.cap j=G.cap j:=fun _ _=>⟨rfl,rfl⟩
 have hext:Ext G s W G (s.put k (.cells (setR cs off xs) false)) (W.setRow (G.blk k) arr') :=
  Ext.upd (fun b o hi=>⟨hi,World.cell?_of_block (w:=W) (setRow_other (fun e=>h4 rfl o (by rw[← e];exact hi)) _)⟩) hoth (.inr (.inl ⟨_,hk,rfl,rfl,rfl⟩))
 refine ⟨hI.upd (b0 := G.blk k) (hI.lt k _ hk) (fun _ => rfl) hoth (Below.row h1 _) (fun b hb _ => setRow_other hb _)
  (fun j oj hj hl hne e=>hne (hI.inj j k oj _ hj hk hl trivial e)) (fun b o h=>.inl h) hext ?_,hext⟩
 refine⟨h1,arr',t,hnew,?_,fun _=>h4 rfl,fun h=>by cases h⟩
 have hset:=setR_rel off h3 hws
 have e:arr'.toList=arr.toList.take off++ws++arr.toList.drop (off+ws.length):=by rw[← harr];simp
 rw[e]
 exact relCL_ext hext _ _ hset
theorem store_tc (hI:Inv X G s W){k off t:Nat}{cs xs:List C}(hk:s.get k=some (.tc t cs)){ws:List Value}(hws:relCL G s W xs ws)(hfit:off+xs.length≤cs.length) :
  ∃ W',(storeCells ⟨G.blk k,off,none⟩ ws 0).run P W=.ok () W'∧Inv X G (s.put k (.tc t (setR cs off xs))) W'∧Ext G s W G (s.put k (.tc t (setR cs off xs))) W':=by
 obtain⟨h1,arr,h2,h3,h4⟩:=hI.ob k _ hk
 have hal:arr.size=cs.length:=by have:=relCL_length h3;simpa using this
 have hwl:ws.length=xs.length:=relCL_length hws
 have hrun:=run_storeCells_fz P (G.blk k) off t (0,0) ws 0 arr W h2 (by omega) (.inl (by simp)) (relCL_one hws)
 refine⟨_,hrun,?_⟩
 obtain⟨arr',harr⟩:∃ a,(arr.toList.take (off+0)++ws++arr.toList.drop (off+0+ws.length)).toArray=a:=⟨_,rfl⟩
 rw[harr]
 have hnew:=setRow_heap W (G.blk k) arr arr' t (0,0) h2
 have hoth:∀ j,j≠k→G.blk j=G.blk j∧G.cap j=G.cap j:=fun _ _=>⟨rfl,rfl⟩
 have hext:Ext G s W G (s.put k (.tc t (setR cs off xs))) (W.setRow (G.blk k) arr') :=
  Ext.upd (fun b o hi=>⟨hi,World.cell?_of_block (w:=W) (setRow_other (fun e=>h4 o (by rw[← e];exact hi)) _)⟩) hoth (.inr (.inl ⟨_,hk,rfl,rfl,rfl⟩))
 refine ⟨hI.upd (b0 := G.blk k) (hI.lt k _ hk) (fun _ => rfl) hoth (Below.row h1 _) (fun b hb _ => setRow_other hb _)
  (fun j oj hj hl hne e=>hne (hI.inj j k oj _ hj hk hl trivial e)) (fun b o h=>.inl h) hext ?_,hext⟩
 refine⟨h1,arr',hnew,?_,h4⟩
 have hset:=setR_rel off h3 hws
 have e:arr'.toList=arr.toList.take off++ws++arr.toList.drop (off+ws.length):=by rw[← harr];simp
 rw[e]
 exact relCL_ext hext _ _ hset
theorem front_grow (hI:Inv X G s W){k es n m tg tg':Nat}(hk:s.get k=some (.front es n tg))(htg:tg'=0∨tg'=tg)(hfit:n+m≤G.cap k)(hm:0<m){ys:List Pd}(hys:ys.length=m*es){ws:List Value}
  (hwl:ws.length=ys.length) (hr:∀(j:Nat) y,ys[j]? = some y→∃ v,ws[j]? = some v∧relPd G.imm W y v) :
  ∃ W' G',(storeCells ⟨G.blk k,n*es,none⟩ ws 0).run P W=.ok () W'∧Inv X G' (s.put k (.front es (n+m) tg')) W'∧Ext G s W G' (s.put k (.front es (n+m) tg')) W' ∧
   G'.blk k=G.blk k∧G'.cap k=G.cap k∧relCs G'.imm W' (G.blk k) (n*es) ys:=by
 obtain⟨h1,arr,t,fz,h2,h3,h4,h5,h6,h7⟩:=hI.ob k _ hk
 have hmul:(n+m)*es≤G.cap k*es:=Nat.mul_le_mul_right _ hfit
 rw[Nat.add_mul] at hmul
 have h1c:∀ v∈ws,v.oneCell'=true:=fun v hv=>by
  obtain⟨j,hj,rfl⟩:=List.getElem_of_mem hv
  have hj':j<ys.length:=by omega
  obtain⟨u,hu,hru⟩:=hr j ys[j] (List.getElem?_eq_getElem hj')
  rw[List.getElem?_eq_getElem hj] at hu
  cases hu;exact relPd_one hru
 have hrun:=run_storeCells_fz P (G.blk k) (n*es) t fz ws 0 arr W h2 (by omega) (by simpa using h6) h1c
 obtain⟨arr',harr⟩:∃ a,(arr.toList.take (n*es+0)++ws++arr.toList.drop (n*es+0+ws.length)).toArray=a:=⟨_,rfl⟩
 rw[harr] at hrun
 have hnew:=setRow_heap W (G.blk k) arr arr' t fz h2
 let G':Gh:=G.addImm fun b o=>b=G.blk k∧n*es≤o∧o<(n+m)*es
 have hsz':arr'.size=arr.size:=by
  rw[← harr];simp;omega
 have hold:∀ o,o<n*es→arr'[o]? = arr[o]?:=fun o ho=>by
  rw[← harr]
  simp only[Nat.add_zero,List.getElem?_toArray,List.append_assoc]
  rw[List.getElem?_append_left (by simp;omega),List.getElem?_take,if_pos ho]
  simp
 have hat:∀ j,j<ws.length→arr'[n*es+j]? = ws[j]?:=fun j hj=>by
  rw[← harr]
  simp only[Nat.add_zero,List.getElem?_toArray,List.append_assoc]
  rw[List.getElem?_append_right (by simp;omega)]
  have:min (n*es) arr.size=n*es:=by omega
  simp only[List.length_take,Array.length_toList,this,Nat.add_sub_cancel_left]
  rw[List.getElem?_append_left hj]
 have hoth:∀ j,j≠k→G'.blk j=G.blk j∧G'.cap j=G.cap j:=fun _ _=>⟨rfl,rfl⟩
 have himm:ImmLe G.imm W G'.imm (W.setRow (G.blk k) arr'):=fun b o hi=>by
  refine⟨.inl hi,?_⟩
  by_cases e:b=G.blk k
  ·subst e
   rw[cell_of_row _ _ _ arr' t fz hnew,cell_of_row _ _ _ arr t fz h2]
   refine hold o ?_;rcases Nat.lt_or_ge o (n*es) with h|h
   ·exact h
   ·exact absurd hi (h5 o h)
  ·exact World.cell?_of_block (w:=W) (setRow_other e _)
 have hext:Ext G s W G' (s.put k (.front es (n+m) tg')) (W.setRow (G.blk k) arr') :=
  Ext.upd himm hoth (.inr (.inr (.inl ⟨es,n,n+m,tg,tg',hk,rfl,by omega,fun _=>⟨rfl,rfl⟩⟩)))
 have hbs:G.blk k<(W.setRow (G.blk k) arr').heap.size:=(Array.getElem?_eq_some_iff.1 hnew).1
 refine ⟨_, G', hrun, hI.upd (b0 := G.blk k) (hI.lt k _ hk) (fun _ => rfl) hoth (Below.row h1 _) (fun b hb _ => setRow_other hb _)
  (fun j oj hj hl hne e=>hne (hI.inj j k oj _ hj hk hl trivial e)) (fun b o h=>?_) hext ?_,hext,rfl,rfl,?_⟩
 ·rcases h with h|⟨rfl,_⟩
  ·exact .inl h
  ·exact .inr ⟨rfl,hbs,h1⟩
 ·refine⟨h1,arr',t,fz,hnew,by rw[hsz'];exact h3,hfit,fun o ho hx=>?_,?_,?_⟩
  ·rcases hx with hx|⟨_,_,hx⟩
   ·rw[Nat.add_mul] at ho;exact h5 o (by omega) hx
   ·omega
  ·rw[hsz',Nat.add_mul];omega
  ·rcases htg with h|h
   ·exact .inl h
   ·rw[h];exact h7.imp id fun h8=>h8.imp (fun ⟨a0,a,b⟩=>⟨a0,a,by rw[Nat.add_mul];omega⟩) id
 ·refine relCs_mk fun j y hj=>?_
  obtain⟨v,hv,hrv⟩:=hr j y hj
  have hjl:j<ys.length:=(List.getElem?_eq_some_iff.1 hj).1
  refine⟨v,?_,.inr ⟨rfl,by omega,by rw[Nat.add_mul];omega⟩,relPd_mono himm y v hrv⟩
  rw[cell_of_row _ _ _ arr' t fz hnew,hat j (by omega)]
  exact hv
/-! ### slices that are objects of the state -/
theorem new_grow (hI:Inv X G s W){k es n:Nat}(hk:k<s.nx)(hn:s.get k=none∨∃ n0 cs0,s.get k=some (.grow es n0 cs0 false)∧n0<n){cs:List C}{arr:Array Value}(t:TypeId){cap:Nat}
  (hsz:arr.size=cap*es) (hnc:n≤cap) (hcs:cs.length=n*es) (hr:relCL G s W cs (arr.toList.take (n*es))) :
  Inv X (G.set k W.heap.size cap) (s.put k (.grow es n cs false)) (W.alloc (.cells arr t))∧Ext G s W (G.set k W.heap.size cap) (s.put k (.grow es n cs false)) (W.alloc (.cells arr t)):=by
 have hoth:=Gh.set_oth G k W.heap.size cap
 have hb:(G.set k W.heap.size cap).blk k=W.heap.size:=(Gh.set_same G k _ cap).1
 have hc:(G.set k W.heap.size cap).cap k=cap:=(Gh.set_same G k W.heap.size cap).2
 have hext:Ext G s W (G.set k W.heap.size cap) (s.put k (.grow es n cs false)) (W.alloc (.cells arr t)) :=
  Ext.upd (fun b o hi => ⟨hi, cell_alloc_old W _ o (hI.immlt b o hi)⟩) (fun j h => hoth j h) (by
   rcases hn with hn|⟨n0,cs0,h1,h2⟩
   ·exact .inl hn
   ·exact .inr (.inr (.inr ⟨es,n0,n,cs0,cs,false,false,h1,rfl,by omega,fun h=>by omega⟩)))
 refine ⟨hI.upd (b0 := W.heap.size) hk (fun _ => hb) (fun j h => hoth j h) ((Below.refl _ W).alloc hI.bsz _) (fun b hb hlt => Below.heap_alloc W _ b hlt)
  (fun j oj hj hl _=>Nat.ne_of_lt (hI.blk_lt hj hl)) (fun b o h=>.inl h) hext ?_,hext⟩
 refine⟨by rw[hb];exact hI.bsz,arr,t,by rw[hb];exact heap_alloc_new W _,by rw[hc];exact hsz,by rw[hc];exact hnc,hcs,relCL_ext hext cs _ hr,fun _ o h=>?_,fun h=>by cases h⟩
 rw[hb] at h
 exact absurd (hI.immlt _ _ h) (Nat.lt_irrefl _)
theorem grow_put (hI:Inv X G s W){k es n n' off:Nat}{cs cs' xs:List C}(hk:s.get k=some (.grow es n cs false)){ws:List Value}(hws:relCL G s W xs ws)(hn:n≤n')(hcap:n'≤G.cap k)(hfit:off+xs.length≤n' * es)(hlo:off≤n*es)
  (hcs':cs'=cs.take off++xs++cs.drop (off+xs.length)) (hl':cs'.length=n' * es) :
  ∃ W',(storeCells ⟨G.blk k,off,none⟩ ws 0).run P W=.ok () W'∧Inv X G (s.put k (.grow es n' cs' false)) W'∧Ext G s W G (s.put k (.grow es n' cs' false)) W':=by
 obtain⟨h1,arr,t,h2,h3,h4,h5,h6,h7,_⟩:=hI.ob k _ hk
 have hwl:ws.length=xs.length:=relCL_length hws
 have hmul:n' * es≤G.cap k*es:=Nat.mul_le_mul_right _ hcap
 have hmul2:n*es≤n' * es:=Nat.mul_le_mul_right _ hn
 have hrun:=run_storeCells_fz P (G.blk k) off t (0,0) ws 0 arr W h2 (by omega) (.inl (by simp)) (relCL_one hws)
 refine⟨_,hrun,?_⟩
 obtain⟨arr',harr⟩:∃ a,(arr.toList.take (off+0)++ws++arr.toList.drop (off+0+ws.length)).toArray=a:=⟨_,rfl⟩
 rw[harr]
 have hnew:=setRow_heap W (G.blk k) arr arr' t (0,0) h2
 have hoth:∀ j,j≠k→G.blk j=G.blk j∧G.cap j=G.cap j:=fun _ _=>⟨rfl,rfl⟩
 have hext:Ext G s W G (s.put k (.grow es n' cs' false)) (W.setRow (G.blk k) arr') :=
  Ext.upd (fun b o hi=>⟨hi,World.cell?_of_block (w:=W) (setRow_other (fun e=>h7 rfl o (by rw[← e];exact hi)) _)⟩) hoth (.inr (.inr (.inr ⟨es,n,n',cs,cs',false,false,hk,rfl,hn,fun _=>⟨rfl,rfl⟩⟩)))
 have e:arr'.toList=arr.toList.take off++ws++arr.toList.drop (off+ws.length):=by rw[← harr];simp
 have hsz:arr'.size=arr.size:=by
  have:=congrArg List.length e
  simp only[Array.length_toList,List.length_append,List.length_take,List.length_drop] at this;omega
 refine ⟨hI.upd (b0 := G.blk k) (hI.lt k _ hk) (fun _ => rfl) hoth (Below.row h1 _) (fun b hb _ => setRow_other hb _)
  (fun j oj hj hl hne e=>hne (hI.inj j k oj _ hj hk hl trivial e)) (fun b o h=>.inl h) hext ?_,hext⟩
 refine⟨h1,arr',t,hnew,by rw[hsz];exact h3,hcap,hl',relCL_ext hext _ _ ?_,fun _=>h7 rfl,fun h=>by cases h⟩
 refine relCL_mk (by simp only[List.length_take,Array.length_toList,hl',hsz];omega) fun i c v hc hv=>?_
 rw[List.getElem?_take] at hv
 split at hv
 ·rename_i hi
  rw[e] at hv
  have ltk:(arr.toList.take off).length=off:=by simp only[List.length_take,Array.length_toList];omega
  have ctk:(cs.take off).length=off:=by simp only[List.length_take];omega
  rw[hcs'] at hc
  by_cases hio:i<off
  ·rw[List.append_assoc,List.getElem?_append_left (by omega),List.getElem?_take,if_pos hio] at hc hv
   obtain⟨u,hu,hr⟩:=relCL_get h6 i c hc
   rw[List.getElem?_take,if_pos (by omega)] at hu
   rw[hu] at hv;cases hv;exact hr
  ·by_cases hix:i<off+xs.length
   ·rw[List.append_assoc,List.getElem?_append_right (by omega),List.getElem?_append_left (by omega)] at hc hv
    rw[ctk] at hc
    rw[ltk] at hv
    obtain⟨u,hu,hr⟩:=relCL_get hws _ c hc
    rw[hu] at hv;cases hv;exact hr
   ·rw[List.getElem?_append_right (by rw[List.length_append];omega),List.length_append,List.getElem?_drop] at hc hv
    rw[ctk,show off+xs.length+(i-(off+xs.length))=i by omega] at hc
    rw[ltk,hwl,show off+xs.length+(i-(off+xs.length))=i by omega] at hv
    obtain⟨u,hu,hr⟩:=relCL_get h6 i c hc
    have hlt:i<n*es:=by
     have:=(List.getElem?_eq_some_iff.1 hc).1
     omega
    rw[List.getElem?_take,if_pos hlt] at hu
    rw[hu] at hv;cases hv;exact hr
 ·cases hv
end
end Go.Proofs.YtedcnhbblgmdnaaGreat.Ab
