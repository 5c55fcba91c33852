/- A part of the proof. -/
import Derived.Test.YtedcnhbblgmdnaaGreatT6
set_option maxHeartbeats 8000000
set_option maxRecDepth 10000
set_option linter.unusedSimpArgs false
set_option linter.unusedVariables false
/- An evaluator of the model's code with slices as pure lists: it is the machine's. -/
namespace Go.Proofs.YtedcnhbblgmdnaaGreat.Ab
open Go.RowKit
section
variable {X:Ctx} {G G':Gh} {s s':St} {W W':World} {P:Program} {E:Env} {T:CallT}
theorem purC_free {c:C}{x:Pd}(h:purC s c=some (x,s')):s.nx≤s'.nx∧Fresh s s':=by
 have rf:s.nx≤s.nx∧Fresh s s:=⟨Nat.le_refl _,Fresh.refl _⟩
 cases c with
 |mt r off n es =>
  simp only[purC] at h
  split at h
  ·rename_i cs fz hg
   split at h
   ·split at h
    ·cases h;exact fresh_putt (by rw[hg];rfl)
    ·cases h
   ·cases h
  ·cases h
 |gs m id off n es =>
  simp only[purC] at h
  split at h
  ·rename_i hg
   split at h
   ·split at h
    ·cases h;exact fresh_putt (by rw[hg];rfl)
    ·cases h
   ·cases h
  ·cases h
 |_ =>
  simp only[purC] at h
  split at h
  ·cases h;exact rf
  ·cases h
theorem purCs_free:∀ {l:List C}{s s':St}{ps:List Pd},purCs s l=some (ps,s')→s.nx≤s'.nx∧Fresh s s'
 |[],s,s',ps,h=>by simp only[purCs] at h;cases h;exact⟨Nat.le_refl _,Fresh.refl _⟩
 |c::r,s,s',ps,h=>by
  simp only[purCs] at h
  split at h
  ·cases h
  ·rename_i x s1 hc
   split at h
   ·cases h
   ·rename_i xs s2 hcs
    cases h;exact fresh_trans (purC_free hc) (purCs_free hcs)
theorem purV_free {v v':V}(h:purV s v=some (v',s')):s.nx≤s'.nx∧Fresh s s':=by
 cases v with
 |c x =>
  simp only[purV] at h
  split at h
  ·cases h
  ·rename_i hc;cases h;exact purC_free hc
 |agg xs =>
  simp only[purV] at h
  split at h
  ·cases h
  ·rename_i hc;cases h;exact purCs_free hc
theorem purVs_free:∀ {l l':List V}{s s':St},purVs s l=some (l',s')→s.nx≤s'.nx∧Fresh s s'
 |[],l',s,s',h=>by simp only[purVs] at h;cases h;exact⟨Nat.le_refl _,Fresh.refl _⟩
 |c::r,l',s,s',h=>by
  simp only[purVs] at h
  split at h
  ·cases h
  ·rename_i x s1 hc
   split at h
   ·cases h
   ·rename_i xs s2 hcs
    cases h;exact fresh_trans (purV_free hc) (purVs_free hcs)
theorem purC_plain {c:C}(h:plainC c=true):∃ x,∀ t:St,purC t c=some (x,t):=by
 cases c<;>first
  |(simp[plainC] at h;done)
  |exact⟨_,fun t=>rfl⟩
theorem purCs_plain:∀ {l:List C},l.all plainC=true→∃ xs,∀ t:St,purCs t l=some (xs,t)
 |[],_=>⟨[],fun _=>rfl⟩
 |c::r,h=>by
  simp only[List.all_cons,Bool.and_eq_true] at h
  obtain⟨x,hx⟩:=purC_plain h.1
  obtain⟨xs,hxs⟩:=purCs_plain h.2
  exact⟨x::xs,fun t=>by simp only[purCs,hx,hxs]⟩
theorem purV_plain {v:V}(h:plainV v=true):∃ x,∀ t:St,purV t v=some (x,t):=by
 cases v with
 |c x=>obtain⟨y,hy⟩:=purC_plain h;exact⟨.c (.p y),fun t=>by simp only[purV,hy]⟩
 |agg xs=>obtain⟨y,hy⟩:=purCs_plain h;exact⟨.agg (y.map .p),fun t=>by simp only[purV,hy]⟩
theorem purVs_plain:∀ {l:List V},(∀ v∈l,plainV v=true)→∃ xs,∀ t:St,purVs t l=some (xs,t)
 |[],_=>⟨[],fun _=>rfl⟩
 |c::r,h=>by
  obtain⟨x,hx⟩:=purV_plain (h c (List.mem_cons_self ..))
  obtain⟨xs,hxs⟩:=purVs_plain fun v hv=>h v (List.mem_cons_of_mem _ hv)
  exact⟨x::xs,fun t=>by simp only[purVs,hx,hxs]⟩
theorem runF_free (hE:EnvOK P E):∀ n,CallsFree (runF E n)
 |0=>⟨fun t args s d s' h=>by simp[runF] at h⟩
 | n + 1 => ⟨fun t args s d s' h => by
  have ih:=runF_free hE n
  cases t with
  |y l=>exact roundD_free ih h
  |o g=>exact bodyD_free ih h
  |f g =>
   simp only[runF] at h
   split at h
   ·rename_i hx hxt;exact(hE.xt g hx hxt).free _ _ _ _ h
   ·split at h
    ·exact bodyD_free ih h
    ·split at h
     ·exact bodyD_free ih h
     ·rename_i as s1 hp
      split at h
      ·cases h
      ·split at h
       ·cases h
       ·cases h;exact purVs_free hp⟩
theorem runF_plain (E:Env):∀ n,CallsPlain (runF E n) E
 |0=>⟨fun g args s d s' h1 h2 hp h=>by simp[runF] at h⟩
 | n + 1 => ⟨fun g args s d s' h1 h2 hp h => by
  obtain⟨xs,hxs⟩:=purVs_plain hp
  simp only[runF,h2,h1,Bool.false_eq_true,if_false,hxs] at h ⊢
  split at h
  ·cases h
  ·rename_i d2 s2 hb
   split at h
   ·cases h
   ·rename_i d3 s3 hd
    cases h
    exact⟨rfl,fun t=>by simp only[hb,hd]⟩⟩
theorem pure_call (hE:EnvOK P E)(hTc:CallsOK P E T)(hT:CallsPlain T E)(hTf:CallsFree T){n g:Nat}{args as:List V}{vargs:Array Value}{d d':D}{s1 s2 s3:St}(hI:Inv X G s W)(ha:relVL G s W args vargs.toList)
  (hp:purVs s args=some (as,s1)) (hb:bodyD E T n g as { ob:=[],nx:=0 }=some (d,s2)) (hd:purD s2 d=some (d',s3)) :
  (∀ W,(callFunc g vargs).run P W=.ok (.enter g vargs) W)∧CallsIn (FW none) 0 P g vargs W (PostT X G s W d' s1):=by
 obtain⟨G1,i1,e1,r1,p1⟩:=purVs_ok hI hp ha
 let X':Ctx:={ B:=W.heap.size,W0:=W,imm0:=G1.imm }
 let s0:St:={ ob:=[],nx:=0 }
 have hnone:∀ k,s0.get k=none:=fun k=>rfl
 have i0:Inv X' G1 s0 W:=⟨Below.refl _ W,Nat.le_refl _,i1.immlt,fun b o h=>.inl h,fun k o h=>(by rw[hnone] at h;cases h),fun k o h=>(by rw[hnone] at h;cases h),fun j k oj ok h=>(by rw[hnone] at h;cases h)⟩
 have r0:relVL G1 s0 W as vargs.toList:=relVL_pure p1 (fun b o h=>⟨h,rfl⟩) r1
 obtain⟨hin,hc⟩:=bodyD_ok hE hTc hT hTf i0 r0 hb
 refine⟨hin,hc.mono fun e W2 hpost=>?_⟩
 obtain⟨v,G2,rfl,i2,e2,r2⟩:=hpost
 obtain⟨G3,i3,e3,r3,p3⟩:=purD_ok i2 hd r2
 have e23:=e2.trans e3
 let G4:Gh:={ imm:=G3.imm,blk:=G1.blk,cap:=G1.cap }
 have hbel:Below W.heap.size W W2:=i3.below
 have hold:∀ b o,b<W.heap.size→G3.imm b o→G1.imm b o:=fun b o hb h=>(i3.immnew b o h).resolve_right (Nat.not_le.2 hb)
 have e4:Ext G1 s1 W G4 s1 W2:=⟨e23.imm,Nat.le_refl _,fun k h=>h,fun k es m' tg' h hf=>⟨m',tg',hf,Nat.le_refl _,fun _=>⟨rfl,rfl⟩⟩,fun k h=>⟨h,rfl⟩,fun k es m' cs' fz' h hf=>⟨m',cs',fz',hf,Nat.le_refl _,fun _=>⟨rfl,rfl⟩⟩⟩
 have i4:Inv X G4 s1 W2:=by
  refine⟨i1.below.trans (hbel.mono i1.bsz),Nat.le_trans i1.bsz hbel.size,i3.immlt,fun b o h=>?_,i1.lt,fun k o h=>?_,i1.inj⟩
  ·by_cases hb:b<W.heap.size
   ·exact i1.immnew b o (hold b o hb h)
   ·exact .inr (Nat.le_trans i1.bsz (Nat.not_lt.1 hb))
  ·have h0:=i1.ob k o h
   by_cases hl:o.live
   ·have hlt:=relOb_lt h0 hl
    exact relOb_keep e4 rfl rfl (hbel.block _ hlt) (fun o h=>hold _ o hlt h) h0
   ·exact relOb_dead hl
 exact⟨v,G4,rfl,i4,e1.trans e4,relD_pure (G1:=G3) (G2:=G4) p3 (fun b o h=>⟨h,rfl⟩) r3⟩
theorem runF_ok (hE:EnvOK P E):∀ n,CallsOK P E (runF E n)
 |0=>⟨fun t args s d s' h=>by simp[runF] at h,fun g args s d s' X G W vargs hI ha h=>by simp[runF] at h,fun l args s d s' X G W vargs hI ha h=>by simp[runF] at h⟩
 |n+1=>by
  have ih:=runF_ok hE n
  have ihf:=runF_free hE n
  have ihp:=runF_plain E n
  refine⟨fun t args s d s' h=>((runF_free hE (n+1)).free t args s d s' h).2,fun g args s d s' X G W vargs hI ha h=>?_,fun l args s d s' X G W vargs hI ha h=>roundD_ok hE ih ihp ihf hI ha h⟩
  rcases h with h|h
  ·simp only[runF] at h
   split at h
   ·rename_i hx hxt;exact(hE.xt g hx hxt).calls _ _ _ _ X G W vargs hI ha h
   ·split at h
    ·exact bodyD_ok hE ih ihp ihf hI ha h
    ·split at h
     ·exact bodyD_ok hE ih ihp ihf hI ha h
     ·rename_i as s1 hp
      split at h
      ·cases h
      ·rename_i d2 s2 hb
       split at h
       ·cases h
       ·rename_i d3 s3 hd
        cases h;exact pure_call hE ih ihp ihf hI ha hp hb hd
  ·exact bodyD_ok hE ih ihp ihf hI ha h
end
end Go.Proofs.YtedcnhbblgmdnaaGreat.Ab
