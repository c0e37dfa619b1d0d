/- Lemmas that the proofs of this seat use (Qrs Qc Mf Mu). Conditions: those that stand in each theorem. -/
import Derived.Test.YtaomhdljcdadaaaGreatQad
import Derived.Test.YtaomhdljcdadaaaGreatQrf
import Derived.Test.YtaomhdljcdadaaaGreatQrr
import Derived.Test.YtaomhdljcdadaaaGreatMtt
import Derived.Test.YtaomhdljcdadaaaGreatN13
import Derived.Test.YtaomhdljcdadaaaGreatSh
set_option linter.unusedVariables false
set_option linter.unusedSimpArgs false
section
namespace Go.Proofs.YtaomhdljcdadaaaGreat
open Go.Sx Go.Pk Go.Mc
set_option maxRecDepth 4000
set_option maxHeartbeats 2000000
theorem aP_Qrs {A B K:Prop} (k:K) (a:A:=by(simp only [zA,zT,zD,zC,zN,ints_len,zR,Go.Cv.vals_len];omega)) (b:B:=by(simp only [zA,zT,zD,zC,zN,ints_len,zR,Go.Cv.vals_len];omega)):(A∧B)∧K:=⟨⟨a,b⟩,k⟩
theorem z3_Qrs {G H:Prop} (k:H) (h:H→G:=by first|exact fun r=>aS r|exact fun r=>aG r|exact fun r=>aD r|exact fun r=>aP_Qrs r|exact fun r=>aI r|exact fun r=>aJ r|exact fun r=>aW (.qs [0,1,2,3,4,5,6,7,8,9,10,11,12] (.l 13 [7] (.qs [14,15] .nil) .no)) r):G:=h k
theorem z2_Qrs {G H:Prop} (k:H) (h:H→G:=by first|exact fun r=>aS r|exact fun r=>aG r|exact fun r=>aH r|exact fun r=>aP_Qrs r|exact fun r=>aI r|exact fun r=>aJ r|exact fun r=>aW (.qs [0,1,2,3,4,5,6,7,8,9,10,11,12] (.l 13 [7] (.qs [14,15] .nil) .no)) r):G:=h k
theorem z1_Qrs {G H:Prop} (k:H) (h:H→G:=by first|exact fun r=>aS r|exact fun r=>aG r|exact fun r=>aD r|exact fun r=>aH r|exact fun r=>aP_Qrs r|exact fun r=>aI r|exact fun r=>aJ r|exact fun r=>aW (.qs [0,1,2,3,4,5,6,7,8,9,10,11,12] (.l 13 [7] (.qs [14,15] .nil) .no)) r):G:=h k
theorem DRuns_ok (p:List Pk) (c N T:Nat) (h:FitP p c N T) (tb:List Int) (h0:tb≠[]) (hl:tb.length≤1000):
  Ctr Tryz.prog 126 [i64 c,i64 N, .psl 1 (ints tb), .psl 3 (pks p),i64 T] [] (fun r o=>o=[]∧RunR p.length (run (slotC c tb) p c T).dn r):=by
 refine fn_intro (E:=env 0) tys_ok rfl rfl rfl Tryz.func126 (by kernel_rfl) rfl (by kernel_rfl) ?_
 have hp:=h.hp
 have hpl:=pks_len p
 have h60:=hp.l
 have hc:=h.c1;have hc2:=h.c2;have hN:=h.n1;have hN2:=h.n2;have hT:=h.t
 have hcl:=h.cl
 (repeat' (conv=>whnf);first|(refine aC (fun _=>?_) (fun _=>?_)<;>try (exfalso;omega))|refine z1_Qrs ?_|(refine aK [] (RBad_ok p c N T h) ?_)|fail);all_goals try (conv=>whnf)
 have hil0:=ints_len tb
 have hlp:0<tb.length:=List.length_pos_iff.2 h0
 refine aK [] (RNew_ok N hN hN2 p hp.l) ?_
 (repeat' (conv=>whnf);first|(refine aC (fun _=>?_) (fun _=>?_)<;>try (exfalso;omega))|refine z1_Qrs ?_|fail);all_goals try (conv=>whnf)
 have hil:=fun F=>ivs_len p.length F
 have hg0:ivs p.length (gvn p (run (slotC c tb) p c 0))=ivs p.length (fun _=>0):=ivs_congr fun j hj=>rfl
 refine LoopOb.mk (Y:=Nat×List (List Int)) (st:=fun y=>⟨[(13, .ptr 4 0),(10, .ptr 0 0),(0,i64 c),(1,i64 N),(2, .psl 1 (ints tb)),(3, .psl 3 (pks p)),(4,i64 T)],[.box [.nil, .nil], .vec 1 (ivs p.length (gvn p (run (slotC c tb) p c y.1))), .vec 1 (ivs p.length (run (slotC c tb) p c y.1).dn), .mat 1 (mtz y.2), .box [i64 y.1, .vec 1,i64 (cI (run (slotC c tb) p c y.1).cur), .vec 2, .vec 3]]⟩)
  (inv:=fun y=>RnD (slotC c tb) p c N T y.1 y.2) (fun y=>T-y.1) (0,rw0 N N) [0,1,2,3,5] ?_ ?_ ?_
 ·exact⟨Nat.zero_le _,by simpa using rw0_sn N,fun c h=>by cases h⟩
 ·dsimp only
  rw [hg0]
  (exact aL)
 rintro⟨t,ms⟩ hI
 dsimp only at hI⊢
 obtain⟨ht,hm,hq⟩:=hI
 have hinv:=run_inv (C:=(slotC c tb)) (c:=c) hp.a t
 have hml:=(mtz_len ms).trans hm.l
 have hrch:=run_rch (C:=(slotC c tb)) (p:=p) (c:=c) t
 by_cases hlt:t<T
 ·have hS:run (slotC c tb) p c (t+1)=tk (slotC c tb) p t c (run (slotC c tb) p c t):=rfl
  generalize run (slotC c tb) p c t=S at*
  (repeat' (conv=>whnf);first|(refine aC (fun _=>?_) (fun _=>?_)<;>try (exfalso;omega))|refine z1_Qrs ?_|fail);all_goals try (conv=>whnf)
  refine aM [1,2,3] (RBegin_ok N t (by omega) (4000*t) (by omega) t (cI S.cur) p.length (gvn p S) S.dn ms hm hN hN2) rfl rfl ?_
  rintro _ _ ⟨m2,hm2,rfl,rfl⟩
  have hm3:Sn N (fun _=>t+2) (4000*(t+1)-c) m2:=⟨hm2.l,hm2.r,fun j hj q=>by have:=hm2.v j hj q;omega⟩
  have hm0:t%tb.length<tb.length:=Nat.mod_lt _ hlp
  have hg0:=ints_get hm0
  have et0:((t:Int)).tmod (ints tb).length =(t%tb.length:Nat):=by rw [hil0,Int.tmod_eq_emod_of_nonneg (by omega)];rfl
  (repeat' (conv=>whnf);first|refine⟨_,_,et0,hg0,?_⟩|(refine aC (fun _=>?_) (fun _=>?_)<;>try (exfalso;omega))|refine z1_Qrs ?_|refine And.intro (by omega) ?_|fail);all_goals try (conv=>whnf)
  refine LoopOb.mk (Y:=Nat×St (slotC c tb).σ ×List (List Int)) (st:=fun y=>⟨[(14,i64 (tb.getD (t%tb.length) 0)),(15,i64 y.1),(13, .ptr 4 0),(10, .ptr 0 0),(0,i64 c),(1,i64 N),(2, .psl 1 (ints tb)),(3, .psl 3 (pks p)),(4,i64 T)],[.box [.nil, .nil], .vec 1 (ivs p.length (gvn p y.2.1)), .vec 1 (ivs p.length y.2.1.dn), .mat 1 (mtz y.2.2), .box [i64 t, .vec 1,i64 (cI y.2.1.cur), .vec 2, .vec 3]]⟩)
   (inv:=fun y=>TkD (slotC c tb) p c N t y.1 y.2.1 y.2.2) (fun y=>y.1) (c,S,m2) [0,1,2,6,4] ⟨hc2,hm3,hq,hinv.inT,hS.symm,hrch⟩ (by(exact aL)) ?_
  clear hS hinv hq hm3 hm hml hrch hm2
  clear m2 S ms
  rintro⟨left,S,ms⟩ hI
  dsimp only at hI⊢
  obtain⟨hl4,hm,hq,hi,hk,hv⟩:=hI
  have hml:=(mtz_len ms).trans hm.l
  by_cases hlt2:0<left
  ·(repeat' (conv=>whnf);first|(refine aC (fun _=>?_) (fun _=>?_)<;>try (exfalso;omega))|refine z2_Qrs ?_|fail);all_goals try (conv=>whnf)
   refine CutOb.cut (Y:=St (slotC c tb).σ) (st:=fun S=>⟨[(14,i64 (tb.getD (t%tb.length) 0)),(15,i64 left),(13, .ptr 4 0),(10, .ptr 0 0),(0,i64 c),(1,i64 N),(2, .psl 1 (ints tb)),(3, .psl 3 (pks p)),(4,i64 T)],[.box [.nil, .nil], .vec 1 (ivs p.length (gvn p S)), .vec 1 (ivs p.length S.dn), .mat 1 (mtz ms), .box [i64 t, .vec 1,i64 (cI S.cur), .vec 2, .vec 3]]⟩)
    (inv:=fun S=>(S.cur≠none∧TkD (slotC c tb) p c N t left S ms)∨(S.cur=none∧run (slotC c tb) p c (t+1)=S)) ?_ ?_
   ·cases hcur:S.cur with
    |some cc=>
     have hci:¬(cI (some cc)= -1):=by unfold cI;simp only;omega
     (repeat' (conv=>whnf);first|(refine aC (fun _=>?_) (fun _=>?_)<;>try (exfalso;omega))|refine z1_Qrs ?_|fail);all_goals try (conv=>whnf)
     exact⟨S,[0,1,2,3,4], .inl ⟨by rw [hcur];simp,hl4,hm,hq,hi,hk,hv⟩,by rw [hcur];(exact aL)⟩
    |none=>
     have hcn:cI none= -1:=rfl
     rw [hcn]
     have hb:∀j,wt p t (bgO (gvn p S) (-1)) j=wt p t S.bg j:=fun j=>by rw [←wt_gvn hp hi hq,hcur];rfl
     cases hch:((slotC c tb).ch p t left (wt p t S.bg) S.s).2 with
     |none=>
      have e:=hk.symm.trans (tk_non hcur hch hlt2)
      have hon:oI none= -1:=rfl
      have hch2:(if tb.getD (t%tb.length) 0<0 then none else match fc p (wt p t S.bg) (tb.getD (t%tb.length) 0)with
       |none=>none
       |some i=>match ahd tb (tb.getD (t%tb.length) 0) t tb.length with
        |none=>some i
        |some n=>if(sz p i:Int)>(left:Int)+((n:Int)-1)*c then none else some i)=none:=hch
      by_cases hneg:tb.getD (t%tb.length) 0<0
      ·(repeat' (conv=>whnf);first|(refine aC (fun _=>?_) (fun _=>?_)<;>try (exfalso;omega))|refine z1_Qrs ?_|fail);all_goals try (conv=>whnf)
       exact⟨⟨((slotC c tb).ch p t left (wt p t S.bg) S.s).1,none,S.bg,S.dn⟩,[0,1,2,3,4], .inr ⟨rfl,e⟩,by rw [gvn_non hcur];(exact aL)⟩
      rw [if_neg hneg]at hch2
      cases hf:fc p (wt p t S.bg) (tb.getD (t%tb.length) 0)with
      |none=>
       (repeat' (conv=>whnf);first|(refine aC (fun _=>?_) (fun _=>?_)<;>try (exfalso;omega))|refine z1_Qrs ?_|fail);all_goals try (conv=>whnf)
       refine aK [1,2,3] (RFc_ok p (by omega) t (-1) (gvn p S) S.dn ms S.bg hb (tb.getD (t%tb.length) 0) (by omega)) ?_
       rw [hf,hon]
       (repeat' (conv=>whnf);first|(refine aC (fun _=>?_) (fun _=>?_)<;>try (exfalso;omega))|refine z1_Qrs ?_|fail);all_goals try (conv=>whnf)
       exact⟨⟨((slotC c tb).ch p t left (wt p t S.bg) S.s).1,none,S.bg,S.dn⟩,[0,1,2,3,4], .inr ⟨rfl,e⟩,by rw [gvn_non hcur];(exact aL)⟩
      |some i=>
       have hip:=(fc_some.1 hf).1
       have hgp:=pks_get hip
       have hzz:=hp.s i hip
       have hz2:(sz p i:Int)=(p.getD i pk0).s :=by unfold sz;omega
       have ho2:oI (some i)=i:=rfl
       rw [hf]at hch2
       simp only at hch2
       have cR:=Room_ok c hc2 tb t left (by omega) hl4 h0 hl
       cases ha:ahd tb (tb.getD (t%tb.length) 0) t tb.length with
       |none=>rw [ha]at hch2;cases hch2
       |some n=>
        rw [ha]at hch2 cR
        simp only at hch2
        have hgt:(sz p i:Int)>(left:Int)+((n:Int)-1)*c:=Classical.byContradiction fun h=>by rw [if_neg h]at hch2;cases hch2
        have hrm:romI c left (some n)=left+((n:Int)-1)*c:=by rw [Int.mul_comm];rfl
        rw [hrm]at cR
        generalize (left:Int)+((n:Int)-1)*c=rm at*
        generalize p.getD i pk0=x at*
        (repeat' (conv=>whnf);first|(refine aC (fun _=>?_) (fun _=>?_)<;>try (exfalso;omega))|refine z1_Qrs ?_|fail);all_goals try (conv=>whnf)
        refine aK [1,2,3] (RFc_ok p (by omega) t (-1) (gvn p S) S.dn ms S.bg hb (tb.getD (t%tb.length) 0) (by omega)) ?_
        rw [hf,ho2]
        (repeat' (conv=>whnf);first|refine⟨i,_,rfl,hgp,?_⟩|(refine aC (fun _=>?_) (fun _=>?_)<;>try (exfalso;omega))|refine z1_Qrs ?_|(refine aK [] cR ?_)|fail);all_goals try (conv=>whnf)
        exact⟨⟨((slotC c tb).ch p t left (wt p t S.bg) S.s).1,none,S.bg,S.dn⟩,[0,1,2,3,4], .inr ⟨rfl,e⟩,by rw [gvn_non hcur];(exact aL)⟩
     |some i=>
      have e:=hk.symm.trans (tk_new hcur hch hlt2)
      have hni:=new_inv hp.a hi hcur hch
      have hvs:=Rch.s (p:=p) (t:=t) (l:=left) (w:=wt p t S.bg) hv
      have hon:oI (some i)=i:=rfl
      obtain⟨w1,_⟩:=(slotC c tb).sub (fun j hj=>(wt_iff.1 hj).1) hch
      obtain⟨w2,_,w3⟩:=wt_iff.1 w1
      have hgn:=gvn_new (p:=p) (S:=S) (s':=((slotC c tb).ch p t left (wt p t S.bg) S.s).1) hcur w3
      have hch2:(if tb.getD (t%tb.length) 0<0 then none else match fc p (wt p t S.bg) (tb.getD (t%tb.length) 0)with
       |none=>none
       |some i=>match ahd tb (tb.getD (t%tb.length) 0) t tb.length with
        |none=>some i
        |some n=>if(sz p i:Int)>(left:Int)+((n:Int)-1)*c then none else some i)=some i:=hch
      have hneg:¬tb.getD (t%tb.length) 0<0:=fun h=>by rw [if_pos h]at hch2;cases hch2
      rw [if_neg hneg]at hch2
      cases hf:fc p (wt p t S.bg) (tb.getD (t%tb.length) 0)with
      |none=>rw [hf]at hch2;cases hch2
      |some j=>
       have hip:=(fc_some.1 hf).1
       have hzz:=hp.s j hip
       rw [hf]at hch2
       simp only at hch2
       have cR:=Room_ok c hc2 tb t left (by omega) hl4 h0 hl
       have hrm:∃rm,romI c left (ahd tb (tb.getD (t%tb.length) 0) t tb.length)=rm∧(sz p j:Int)≤rm∧j=i:=by
        cases ha:ahd tb (tb.getD (t%tb.length) 0) t tb.length with
        |none=>
         rw [ha]at hch2
         refine⟨1073741824,rfl,?_,by injection hch2⟩
         unfold sz;omega
        |some n=>
         rw [ha]at hch2
         simp only at hch2
         refine⟨left+((n:Int)-1)*c,by rw [Int.mul_comm];rfl,?_⟩
         by_cases h:(sz p j:Int)>(left:Int)+((n:Int)-1)*c
         ·rw [if_pos h]at hch2;cases hch2
         ·rw [if_neg h]at hch2;exact⟨by omega,by injection hch2⟩
       obtain⟨rm,hrm1,hrm2,rfl⟩:=hrm
       rw [hrm1]at cR
       have hgp:=pks_get hip
       have hz2:(sz p j:Int)=(p.getD j pk0).s :=by unfold sz;omega
       generalize p.getD j pk0=x at*
       (repeat' (conv=>whnf);first|(refine aC (fun _=>?_) (fun _=>?_)<;>try (exfalso;omega))|refine z1_Qrs ?_|fail);all_goals try (conv=>whnf)
       refine aK [1,2,3] (RFc_ok p (by omega) t (-1) (gvn p S) S.dn ms S.bg hb (tb.getD (t%tb.length) 0) (by omega)) ?_
       rw [hf,hon]
       (repeat' (conv=>whnf);first|refine⟨j,_,rfl,hgp,?_⟩|(refine aC (fun _=>?_) (fun _=>?_)<;>try (exfalso;omega))|refine z1_Qrs ?_|(refine aK [] cR ?_)|fail);all_goals try (conv=>whnf)
       exact⟨⟨((slotC c tb).ch p t left (wt p t S.bg) S.s).1,some (j,sz p j),upd S.bg j true,S.dn⟩,[0,1,2,3,4],show _ from .inl ⟨by simp,hl4,hm,RqS.new hp w2,hni,e.symm,hvs⟩,by rw [hgn];(exact aL)⟩
   ·clear hq hi hk hv
    clear S
    rintro S (⟨hne,hl4,hm,hq,hi,hk,hv⟩|⟨hcur,e⟩)
    ·cases hcur:S.cur with
     |none=>exact absurd hcur hne
     |some cc=>
     obtain⟨i,r⟩:=cc
     obtain⟨r1,r2⟩:=hq _ hcur
     have hil:=(hi.b i (hi.c i r hcur).1).1
     have hci:cI (some (i,r))=i:=rfl
     have hgt:=gvn_at hi hcur
     have hgt2:gvn p S i=(sz p i-r:Nat):=by rw [hgt];dsimp only at r2;omega
     rw [hci]
     (repeat' (conv=>whnf);first|(refine aC (fun _=>?_) (fun _=>?_)<;>try (exfalso;omega))|refine z1_Qrs ?_|fail);all_goals try (conv=>whnf)
     have hgr:sz p i-(sz p i-r)=r:=by dsimp only at r2;omega
     dsimp only at r1 r2
     refine aM [1,2,3] (RSend_ok N t hN2 (by omega) _ (by omega) p hp hcl t i (sz p i-r) (gvn p S) S.dn ms hm hil hgt2 (by omega) left hlt2 hl4) rfl rfl ?_
     rintro _ _ ⟨m2,(⟨hfn,hm2,rfl,rfl⟩|⟨hmo,hm2,rfl,rfl⟩)⟩
     ·have hrl:r≤left:=by omega
      have e:=(tk_some hcur r1 hrl).symm.trans hk
      rw [hgr]at hm2⊢
      (repeat' (conv=>whnf);first|(refine aC (fun _=>?_) (fun _=>?_)<;>try (exfalso;omega))|refine z1_Qrs ?_|fail);all_goals try (conv=>whnf)
      exact⟨(left-r,S.fi i t,m2),[0,7,8,3,4],⟨by omega,hm2.up (by omega),fun c h=>(by cases h),fi_inv hp.a hi hcur,e,hv⟩,by dsimp only;omega,by dsimp only;rw [gvn_fi hi hcur,show((left-r:Nat):Int)=(left:Int)-r by omega];(exact aL)⟩
     ·have e:=(tk_more hcur hlt2 (by omega)).symm.trans hk
      (repeat' (conv=>whnf);first|(refine aC (fun _=>?_) (fun _=>?_)<;>try (exfalso;omega))|refine z1_Qrs ?_|fail);all_goals try (conv=>whnf)
      exact⟨(0,S.cu (some (i,r-left)),m2),[0,7,2,3,4],⟨by omega,hm2.up (by dsimp only;omega),fun c h=>(by simp only [Option.some.injEq]at h;subst h;simp only;omega),cu_inv hi hcur,e,hv⟩,by dsimp only;omega,by dsimp only;rw [gvn_cu hi hcur,show(sz p i:Int)-((r-left:Nat):Int)=((sz p i-r+left:Nat):Int)by omega,show((0:Nat):Int)=(left:Int)-left by omega];(exact aL)⟩
    ·rw [hcur]
     have hcn:cI none= -1:=rfl
     rw [hcn]
     (repeat' (conv=>whnf);first|(refine aC (fun _=>?_) (fun _=>?_)<;>try (exfalso;omega))|refine z1_Qrs ?_|fail);all_goals try (conv=>whnf)
     exact⟨(t+1,ms),[0,1,2,3,4],RnD.of hlt e hm (by omega) (fun c h=>by rw [hcur]at h;cases h),by dsimp only;omega,by dsimp only;rw [e,hcur];(exact aL)⟩
  ·obtain rfl:left=0:=by omega
   have e:run (slotC c tb) p c (t+1)=S:=by rw [←hk,tk]
   (repeat' (conv=>whnf);first|(refine aC (fun _=>?_) (fun _=>?_)<;>try (exfalso;omega))|refine z1_Qrs ?_|fail);all_goals try (conv=>whnf)
   exact⟨(t+1,ms),[0,1,2,3,4],RnD.of hlt e hm (by omega) hq,by dsimp only;omega,by dsimp only;rw [e];(exact aL)⟩
 ·obtain rfl:T=t:=by omega
  (repeat' (conv=>whnf);first|(refine aC (fun _=>?_) (fun _=>?_)<;>try (exfalso;omega))|refine z3_Qrs ?_|fail);all_goals try (conv=>whnf)
  refine .mk [.fz 2, .fm 3] ?_
  (repeat' (conv=>whnf);first|(refine aC (fun _=>?_) (fun _=>?_)<;>try (exfalso;omega))|refine z3_Qrs ?_|fail);all_goals try (conv=>whnf)
  exact⟨rfl,_,⟨ms,by have:=hm.l;omega,rfl⟩,rfl⟩
end Go.Proofs.YtaomhdljcdadaaaGreat
end
section
namespace Go.Proofs.YtaomhdljcdadaaaGreat
open Go.Sx Go.Pk Go.Mc Go.Np
set_option maxRecDepth 4000
set_option maxHeartbeats 2000000
theorem aP_Qc {A B K:Prop} (k:K) (a:A:=by(simp only [zA,zT,zD,zC,zN,ints_len,zR,Go.Cv.vals_len];omega)) (b:B:=by(simp only [zA,zT,zD,zC,zN,ints_len,zR,Go.Cv.vals_len];omega)):(A∧B)∧K:=⟨⟨a,b⟩,k⟩
theorem z1_Qc {G H:Prop} (k:H) (h:H→G:=by first|exact fun r=>aS r|exact fun r=>aG r|exact fun r=>aD r|exact fun r=>aH r|exact fun r=>aP_Qc r|exact fun r=>aI r|exact fun r=>aJ r):G:=h k
theorem DRun_ok (l:Ln) (hl:LL l) (he:lnErr l=0) (p:List Pk) (T:Nat) (hp:PL p) (hcl:∀i,i<p.length→0≤cl p i∧cl p i<l.n) (hT:T≤2000):Ctr Tryz.prog 98 [lv l, .psl 3 (pks p),i64 T] [] (fun r o=>o=[]∧RunR p.length (run (chL l) p l.c.toNat T).dn r):=by
 refine fn_intro (E:=env 0) tys_ok rfl rfl rfl Tryz.func98 (by kernel_rfl) rfl (by kernel_rfl) ?_
 obtain⟨h,hc,hn,k1,k5,hr,hd,hs⟩:=lRun_fit he hp hcl hT
 (repeat' (conv=>whnf);first|(refine aC (fun _=>?_) (fun _=>?_)<;>try (exfalso;omega))|refine z1_Qc ?_|fail);all_goals try (conv=>whnf)
 refine aK [] (rlCheck_ok l hl) ?_
 rw [he]
 rcases(show l.k=1∨l.k=2∨l.k=3∨l.k=4∨l.k=5 by omega)with hk|hk|hk|hk|hk
 ·have e:chL l=fifoC:=if_pos hk
  rw [e]
  (repeat' (conv=>whnf);first|(refine aC (fun _=>?_) (fun _=>?_)<;>try (exfalso;omega))|refine z1_Qc ?_|(refine CallOb.mk [] (DRunf_ok p _ _ T h) rfl ⟨Imp.num (by omega),Imp.num (by omega),Imp.refl _,Imp.refl _,trivial⟩ rfl rfl ?_;rintro _ _ ⟨rfl,x,⟨ms,hms,rfl⟩,rfl⟩)|fail);all_goals try (conv=>whnf)
  exact⟨rfl,_,⟨ms,hms,rfl⟩,rfl⟩
 ·have e:chL l=prioC l.n.toNat:=by unfold chL;rw [if_neg (by omega),if_pos hk]
  rw [e]
  (repeat' (conv=>whnf);first|(refine aC (fun _=>?_) (fun _=>?_)<;>try (exfalso;omega))|refine z1_Qc ?_|(refine CallOb.mk [] (DRunp_ok p _ _ T h) rfl ⟨Imp.num (by omega),Imp.num (by omega),Imp.refl _,Imp.refl _,trivial⟩ rfl rfl ?_;rintro _ _ ⟨rfl,x,⟨ms,hms,rfl⟩,rfl⟩)|fail);all_goals try (conv=>whnf)
  exact⟨rfl,_,⟨ms,hms,rfl⟩,rfl⟩
 ·have e:chL l=robinC l.w:=by unfold chL;rw [if_neg (by omega),if_neg (by omega),if_pos hk]
  rw [e]
  obtain⟨w1,w2⟩:=hr hk
  (repeat' (conv=>whnf);first|(refine aC (fun _=>?_) (fun _=>?_)<;>try (exfalso;omega))|refine z1_Qc ?_|(refine CallOb.mk [] (DRunr_ok p _ _ T h l.w w1 (fun c hc=>inR_get w2 (by omega))) rfl ⟨Imp.num (by omega),Imp.refl _,Imp.refl _,Imp.refl _,trivial⟩ rfl rfl ?_;rintro _ _ ⟨rfl,x,⟨ms,hms,rfl⟩,rfl⟩)|fail);all_goals try (conv=>whnf)
  exact⟨rfl,_,⟨ms,hms,rfl⟩,rfl⟩
 ·have e:chL l=defC l.w:=by unfold chL;rw [if_neg (by omega),if_neg (by omega),if_neg (by omega),if_pos hk]
  rw [e]
  obtain⟨w1,w2⟩:=hd hk
  (repeat' (conv=>whnf);first|(refine aC (fun _=>?_) (fun _=>?_)<;>try (exfalso;omega))|refine z1_Qc ?_|(refine CallOb.mk [] (DRund_ok p _ _ T h l.w w1 (fun c hc=>inR_get w2 (by omega))) rfl ⟨Imp.num (by omega),Imp.refl _,Imp.refl _,Imp.refl _,trivial⟩ rfl rfl ?_;rintro _ _ ⟨rfl,x,⟨ms,hms,rfl⟩,rfl⟩)|fail);all_goals try (conv=>whnf)
  exact⟨rfl,_,⟨ms,hms,rfl⟩,rfl⟩
 ·have e:chL l=slotC l.c.toNat l.s:=by unfold chL;rw [if_neg (by omega),if_neg (by omega),if_neg (by omega),if_neg (by omega)]
  rw [e]
  obtain⟨w1,w2⟩:=hs hk
  (repeat' (conv=>whnf);first|(refine aC (fun _=>?_) (fun _=>?_)<;>try (exfalso;omega))|refine z1_Qc ?_|(refine CallOb.mk [] (DRuns_ok p _ _ T h l.s w1 (by omega)) rfl ⟨Imp.num (by omega),Imp.num (by omega),Imp.refl _,Imp.refl _,Imp.refl _,trivial⟩ rfl rfl ?_;rintro _ _ ⟨rfl,x,⟨ms,hms,rfl⟩,rfl⟩)|fail);all_goals try (conv=>whnf)
  exact⟨rfl,_,⟨ms,hms,rfl⟩,rfl⟩
end Go.Proofs.YtaomhdljcdadaaaGreat
end
section
namespace Go.Mc
open Go.Pk Go.Np
variable {x:Pk} {c:Nat}
theorem asc_one:Asc [x]:=fun i j hij hj=>by
 have:j<1:=hj
 have e1:j=0:=by omega
 have e2:i=0:=by omega
 subst e1 e2;exact Int.le_refl _
theorem one_step {t:Nat} {S:St fifoC.σ} (hS:InvT [x] t S) {r:Nat} (hc:S.cur=some (0,r)) (h1:1≤r) (hc1:1≤c):
  (r≤c→(tk fifoC [x] t c S).dn 0=t)∧(c<r→(tk fifoC [x] t c S).cur =some (0,r-c)∧(tk fifoC [x] t c S).dn =S.dn):=by
 constructor
 ·intro h
  rw [tk_some hc h1 h]
  have h2:=(tk_inv asc_one (c-r) (fi_inv asc_one hS hc)).2 0
  have e:(S.fi 0 t).dn 0=t:=by show upd S.dn 0 (t:Int) 0=_;exact upd_same
  rcases h2 with h2|h2
  ·rw [h2,e]
  ·rw [e]at h2;omega
 ·intro h
  rw [tk_more hc hc1 h,tk]
  exact⟨rfl,rfl⟩
theorem one_go (hc1:1≤c):∀(k t r:Nat),(run fifoC [x] c t).cur =some (0,r)→k*c<r→r≤(k+1)*c→(run fifoC [x] c (t+k+1)).dn 0=(t+k:Nat)
 |0,t,r,hc,h1,h2=>by
  rw [Nat.zero_add,Nat.one_mul]at h2
  exact(one_step (run_inv asc_one t).inT hc (by omega) hc1).1 h2
 |k+1,t,r,hc,h1,h2=>by
  have hm:(k+1)*c=k*c+c:=Nat.succ_mul k c
  have hm2:(k+1+1)*c=(k+1)*c+c:=Nat.succ_mul (k+1) c
  have:=(one_step (run_inv asc_one t).inT hc (by omega) hc1).2 (by omega)
  have hg:=one_go hc1 k (t+1) (r-c) this.1 (by omega) (by omega)
  rw [show t+1+k+1=t+(k+1)+1 by omega,show t+1+k=t+(k+1)by omega]at hg
  exact hg
theorem one_rest (hc1:1≤c):∀t:Nat,(t:Int)≤x.t→run fifoC [x] c t=⟨(),none,fun _=>false,fun _=> -1⟩
 |0,_=>rfl
 |t+1,h=>by
  have ih:=one_rest hc1 t (by omega)
  show tk fifoC [x] t c (run fifoC [x] c t)=_
  rw [ih,tk_non rfl ?_ hc1]
  ·rfl
  ·show fst _ _=none
   refine fst_none.2 fun j hj=>?_
   have:j<1:=hj
   have e:j=0:=by omega
   subst e
   cases hw:wt [x] t (fun _=>false) 0 with
   |false=>rfl
   |true=>
    have:=(wt_iff.1 hw).2.1
    unfold tm at this
    have e:([x].getD 0 pk0).t =x.t:=rfl
    omega
theorem one_done (hc1:1≤c) {a K z N:Nat} (ha:x.t=a) (hz:x.s.toNat=z) (h1:K*c<z) (h2:z≤(K+1)*c) (hN:a+K+1≤N):(run fifoC [x] c N).dn 0=(a+K:Nat):=by
 have key:(run fifoC [x] c (a+K+1)).dn 0=(a+K:Nat):=by
  have h0:=one_rest (x:=x) hc1 a (by omega)
  have hk:(fifoC.ch [x] a c (wt [x] a fun _=>false) ()).2 =some 0:=by
   show fst _ _=some 0
   refine fst_some.2 ⟨by simp,wt_iff.2 ⟨by simp,?_,rfl⟩,fun j hj=>by omega⟩
   show x.t≤(a:Int);omega
  have e1:run fifoC [x] c (a+1)=tk fifoC [x] a c ⟨(),some (0,z),upd (fun _=>false) 0 true,fun _=> -1⟩:=by
   show tk fifoC [x] a c (run fifoC [x] c a)=_
   rw [h0,tk_new rfl hk hc1]
   congr 2
   show some (0,sz [x] 0)=_
   unfold sz
   rw [show([x].getD 0 pk0)=x from rfl,hz]
  have hI:=new_inv (C:=fifoC) (left:=c) asc_one (run_inv (C:=fifoC) (p:=[x]) (c:=c) asc_one a).inT (i:=0) (by rw [h0]) (by rw [h0];exact hk)
  have hz1:sz [x] 0=z:=by unfold sz;rw [show([x].getD 0 pk0)=x from rfl,hz]
  rw [hz1,h0]at hI
  have hs:=one_step (c:=c) hI rfl (show 1≤z by omega) hc1
  cases K with
  |zero=>
   rw [Nat.zero_add,Nat.one_mul]at h2
   have:=hs.1 h2
   rw [show a+0+1=a+1 by omega,e1]
   exact this
  |succ K=>
   have hm:(K+1)*c=K*c+c:=Nat.succ_mul K c
   have hm2:(K+1+1)*c=(K+1)*c+c:=Nat.succ_mul (K+1) c
   have hcz:c<z:=by
    have:=Nat.zero_le (K*c);omega
   have:=(hs.2 hcz).1
   have e2:(run fifoC [x] c (a+1)).cur =some (0,z-c):=by rw [e1];exact this
   have hg:=one_go hc1 K (a+1) (z-c) e2 (by omega) (by omega)
   rw [show a+1+K+1=a+(K+1)+1 by omega,show a+1+K=a+(K+1)by omega]at hg
   exact hg
 obtain⟨k,rfl⟩:∃k,N=a+K+1+k:=⟨N-(a+K+1),by omega⟩
 rcases run_le asc_one (C:=fifoC) (c:=c) (t:=a+K+1) k 0 with h|⟨h,_⟩
 ·rw [h,key]
 ·rw [key]at h;omega
end Go.Mc
end
section
namespace Go.Mc
open Go.Pk Go.Np
def dnA (t:Nat) (K:Nat→Nat):Nat→Nat
 |0=>t+K 0
 |h+1=>dnA t K h+1+K (h+1)
theorem qu_one {F:Tf} (h1:F.np=1) {D:Tp} {l h:Nat} {a:Int} (hh:hp F l 0=some h) (ha:arr F D 0 h=some a):qu F D l=[⟨a,F.fl 0,0⟩]:=by
 refine(qu_ok F D l).uniq ⟨List.pairwise_singleton _ _,fun y=>?_⟩
 rw [List.mem_singleton]
 constructor
 ·rintro rfl
  exact⟨by rw [h1];exact Nat.one_pos,⟨h,hh,ha⟩,rfl⟩
 ·rintro⟨e1,⟨k,e2,e3⟩,e4⟩
  have e0:y.i=0:=by omega
  rw [e0]at e2 e3 e4
  have ek:h=k:=by rw [hh]at e2;exact Option.some.inj e2
  subst ek
  refine Wt.ext' ?_ e4 e0
  rw [ha]at e3;exact(Option.some.inj e3).symm
theorem tr_one {F:Tf} {Z:Li} {N t z:Nat} {K:Nat→Nat} (h1:F.np=1) (hR:Rts F) (ht:F.t 0=t) (hz:(F.s 0).toNat =z)
  (hf:∀h,h<(F.rt 0).length →Z.C (lin F 0 h)=fifoC∧1≤Z.c (lin F 0 h)∧K h*Z.c (lin F 0 h)<z∧z≤(K h+1)*Z.c (lin F 0 h)):
  ∀h,h<(F.rt 0).length →dnA t K h+1≤N→tr F Z N 0 h=dnA t K h:=by
 have h0:0<F.np:=by omega
 intro h
 induction h using Nat.strongRecOn with
 |ind h ih=>
  intro hh hN
  have hmono:∀j k,j≤k→dnA t K j≤dnA t K k:=by
   intro j k
   induction k with
   |zero=>intro e;rw [show j=0 by omega];exact Nat.le_refl _
   |succ k ihk=>
    intro e
    rcases Nat.lt_or_ge j (k+1)with e2|e2
    ·have:=ihk (by omega)
     simp only [dnA];omega
    ·rw [show j=k+1 by omega];exact Nat.le_refl _
  obtain⟨a,ha,hd⟩:∃a:Nat,arr F (tr F Z N) 0 h=some (a:Int)∧dnA t K h=a+K h:=by
   cases h with
   |zero=>exact⟨t,by unfold arr;rw [if_pos rfl,ht],rfl⟩
   |succ h=>
    refine⟨dnA t K h+1,?_,rfl⟩
    have hall:∀j,j<h+1→tr F Z N 0 j=dnA t K j:=fun j hj=>ih j hj (by omega) (by have:=hmono j (h+1) (by omega);omega)
    unfold arr
    rw [if_neg (by omega),if_pos fun j hj=>by rw [hall j hj];omega]
    rw [show h+1-1=h by omega,hall h (by omega)]
    rfl
  rw [tr_con hR Z N 0 h h0 hh]
  have hp0:=hp_lin hR h0 hh
  have hq:=qu_one h1 hp0 ha
  obtain⟨f1,f2,f3,f4⟩:=hf h hh
  unfold pas
  rw [hq]
  have hpl:plc [(⟨(a:Int),F.fl 0,0⟩:Wt)] 0=some 0:=rfl
  rw [hpl,f1]
  show(run fifoC [⟨F.cs 0,(a:Int),F.s 0⟩] (Z.c (lin F 0 h)) N).dn 0=_
  rw [one_done f2 (a:=a) (K:=K h) (z:=z) rfl hz f3 f4 (by omega),hd]
end Go.Mc
end
