/- Lemmas of this seat. Conditions: as stated. -/
import Derived.Test.YtaomhdljcdadaaaGreatQad
import Derived.Test.YtaomhdljcdadaaaGreatQrf
import Derived.Test.YtaomhdljcdadaaaGreatQrr
import Derived.Test.YtaomhdljcdadaaaGreatC2
import Derived.Test.YtaomhdljcdadaaaGreatS2
import Derived.Test.YtaomhdljcdadaaaGreatS2d
import Derived.Test.YtaomhdljcdadaaaGreatMtt
import Derived.Test.YtaomhdljcdadaaaGreatN13
import Derived.Test.YtaomhdljcdadaaaGreatS8
set_option linter.unusedVariables false
set_option linter.unusedSimpArgs false
set_option maxHeartbeats 2000000
set_option maxRecDepth 4000
namespace Go.Proofs.YtaomhdljcdadaaaGreat
section
open Go.Sx Go.Pk Go.Mc
theorem z3_Qrs {G H:Prop} (k:H) (h:H→G:=by first|exact fun r=>aS r|exact fun r=>aG r|exact fun r=>aD r|exact fun r=>aP_T1 r|exact fun r=>aI r|exact fun r=>aJ r|exact fun r=>aW (.qs [0,1,2,3,4,5,6,7,8,9,10,11,12] (.l 13 [7] (.qs [14,15] .nil) .no)) r):G:=h k
theorem z2_Qrs {G H:Prop} (k:H) (h:H→G:=by first|exact fun r=>aS r|exact fun r=>aG r|exact fun r=>aH r|exact fun r=>aP_T1 r|exact fun r=>aI r|exact fun r=>aJ r|exact fun r=>aW (.qs [0,1,2,3,4,5,6,7,8,9,10,11,12] (.l 13 [7] (.qs [14,15] .nil) .no)) r):G:=h k
theorem z1_Qrs {G H:Prop} (k:H) (h:H→G:=by first|exact fun r=>aS r|exact fun r=>aG r|exact fun r=>aD r|exact fun r=>aH r|exact fun r=>aP_T1 r|exact fun r=>aI r|exact fun r=>aJ r|exact fun r=>aW (.qs [0,1,2,3,4,5,6,7,8,9,10,11,12] (.l 13 [7] (.qs [14,15] .nil) .no)) r):G:=h k
theorem DRuns_ok (p:List Pk) (c N T:Nat) (h:FitP p c N T) (tb:List Int) (h0:tb≠[]) (hl:tb.length≤1000):
  Ctr Tryz.prog 126 [i64 c,i64 N, .psl 1 (ints tb), .psl 3 (pks p),i64 T] [] (fun r o=>o=[]∧RunR p.length (run (slotC c tb) p c T).dn r):=by
 refine fI 0 Tryz.func126 ?_
 have hp:=h.hp
 have hpl:=pks_len p
 have h60:=hp.l
 have hc:=h.c1;have hc2:=h.c2;have hN:=h.n1;have hN2:=h.n2;have hT:=h.t
 have hcl:=h.cl
 (repeat' (conv=>whnf);first|refine aC ?_ ?_<;>intro<;>try omega|refine z1_Qrs ?_|(refine aK [] (RBad_ok p c N T h) ?_)|fail);all_goals try (conv=>whnf)
 have hil0:=ints_len tb
 have hlp:0<tb.length:=List.length_pos_iff.2 h0
 refine aK [] (RNew_ok N hN hN2 p hp.l) ?_
 (repeat' (conv=>whnf);first|refine aC ?_ ?_<;>intro<;>try omega|refine z1_Qrs ?_|fail);all_goals try (conv=>whnf)
 have hil:=fun F=>ivs_len p.length F
 have hg0:ivs p.length (gvn p (run (slotC c tb) p c 0))=ivs p.length (fun _=>0):=ivs_congr fun j hj=>rfl
 refine LoopOb.mk (Y:=Nat×List (List Int)) (st:=fun y=>⟨[(13, .ptr 4 0),(10, .ptr 0 0),(0,i64 c),(1,i64 N),(2, .psl 1 (ints tb)),(3, .psl 3 (pks p)),(4,i64 T)],[.box [.nil, .nil], .vec 1 (ivs p.length (gvn p (run (slotC c tb) p c y.1))), .vec 1 (ivs p.length (run (slotC c tb) p c y.1).dn), .mat 1 (mtz y.2), .box [i64 y.1, .vec 1,i64 (cI (run (slotC c tb) p c y.1).cur), .vec 2, .vec 3]]⟩)
  (inv:=fun y=>RnD (slotC c tb) p c N T y.1 y.2) (fun y=>T-y.1) (0,rw0 N N) [0,1,2,3,5] ?_ ?_ ?_
 ·exact⟨Nat.zero_le _,by simpa using rw0_sn N,fun c h=>by cases h⟩
 ·dsimp only
  rw [hg0]
  (exact aL)
 rintro⟨t,ms⟩ hI
 dsimp only at hI⊢
 obtain⟨ht,hm,hq⟩:=hI
 have hinv:=run_inv (C:=(slotC c tb)) (c:=c) hp.a t
 have hml:=(mtz_len ms).trans hm.l
 have hrch:=run_rch (C:=(slotC c tb)) (p:=p) (c:=c) t
 by_cases hlt:t<T
 ·have hS:run (slotC c tb) p c (t+1)=tk (slotC c tb) p t c (run (slotC c tb) p c t):=rfl
  generalize run (slotC c tb) p c t=S at*
  (repeat' (conv=>whnf);first|refine aC ?_ ?_<;>intro<;>try omega|refine z1_Qrs ?_|fail);all_goals try (conv=>whnf)
  refine aM [1,2,3] (RBegin_ok N t (by omega) (4000*t) (by omega) t (cI S.cur) p.length (gvn p S) S.dn ms hm hN hN2) rfl rfl ?_
  rintro _ _ ⟨m2,hm2,rfl,rfl⟩
  have hm3:Sn N (fun _=>t+2) (4000*(t+1)-c) m2:=⟨hm2.l,hm2.r,fun j hj q=>by have:=hm2.v j hj q;omega⟩
  have hm0:t%tb.length<tb.length:=Nat.mod_lt _ hlp
  have hg0:=ints_get hm0
  have et0:((t:Int)).tmod (ints tb).length =(t%tb.length:Nat):=by rw [hil0,Int.tmod_eq_emod_of_nonneg (by omega)];rfl
  (repeat' (conv=>whnf);first|refine⟨_,_,et0,hg0,?_⟩|refine aC ?_ ?_<;>intro<;>try omega|refine z1_Qrs ?_|refine And.intro (by omega) ?_|fail);all_goals try (conv=>whnf)
  refine LoopOb.mk (Y:=Nat×St (slotC c tb).σ ×List (List Int)) (st:=fun y=>⟨[(14,i64 (tb.getD (t%tb.length) 0)),(15,i64 y.1),(13, .ptr 4 0),(10, .ptr 0 0),(0,i64 c),(1,i64 N),(2, .psl 1 (ints tb)),(3, .psl 3 (pks p)),(4,i64 T)],[.box [.nil, .nil], .vec 1 (ivs p.length (gvn p y.2.1)), .vec 1 (ivs p.length y.2.1.dn), .mat 1 (mtz y.2.2), .box [i64 t, .vec 1,i64 (cI y.2.1.cur), .vec 2, .vec 3]]⟩)
   (inv:=fun y=>TkD (slotC c tb) p c N t y.1 y.2.1 y.2.2) (fun y=>y.1) (c,S,m2) [0,1,2,6,4] ⟨hc2,hm3,hq,hinv.inT,hS.symm,hrch⟩ (by(exact aL)) ?_
  clear hS hinv hq hm3 hm hml hrch hm2
  clear m2 S ms
  rintro⟨left,S,ms⟩ hI
  dsimp only at hI⊢
  obtain⟨hl4,hm,hq,hi,hk,hv⟩:=hI
  have hml:=(mtz_len ms).trans hm.l
  by_cases hlt2:0<left
  ·(repeat' (conv=>whnf);first|refine aC ?_ ?_<;>intro<;>try omega|refine z2_Qrs ?_|fail);all_goals try (conv=>whnf)
   refine CutOb.cut (Y:=St (slotC c tb).σ) (st:=fun S=>⟨[(14,i64 (tb.getD (t%tb.length) 0)),(15,i64 left),(13, .ptr 4 0),(10, .ptr 0 0),(0,i64 c),(1,i64 N),(2, .psl 1 (ints tb)),(3, .psl 3 (pks p)),(4,i64 T)],[.box [.nil, .nil], .vec 1 (ivs p.length (gvn p S)), .vec 1 (ivs p.length S.dn), .mat 1 (mtz ms), .box [i64 t, .vec 1,i64 (cI S.cur), .vec 2, .vec 3]]⟩)
    (inv:=fun S=>(S.cur≠none∧TkD (slotC c tb) p c N t left S ms)∨(S.cur=none∧run (slotC c tb) p c (t+1)=S)) ?_ ?_
   ·cases hcur:S.cur with
    |some cc=>
     have hci:¬(cI (some cc)= -1):=by unfold cI;simp only;omega
     (repeat' (conv=>whnf);first|refine aC ?_ ?_<;>intro<;>try omega|refine z1_Qrs ?_|fail);all_goals try (conv=>whnf)
     exact⟨S,[0,1,2,3,4], .inl ⟨by rw [hcur];simp,hl4,hm,hq,hi,hk,hv⟩,by rw [hcur];(exact aL)⟩
    |none=>
     have hcn:cI none= -1:=rfl
     rw [hcn]
     have hb:∀j,wt p t (bgO (gvn p S) (-1)) j=wt p t S.bg j:=fun j=>by rw [←wt_gvn hp hi hq,hcur];rfl
     cases hch:((slotC c tb).ch p t left (wt p t S.bg) S.s).2 with
     |none=>
      have e:=hk.symm.trans (tk_non hcur hch hlt2)
      have hon:oI none= -1:=rfl
      have hch2:(if tb.getD (t%tb.length) 0<0 then none else match fc p (wt p t S.bg) (tb.getD (t%tb.length) 0)with
       |none=>none
       |some i=>match ahd tb (tb.getD (t%tb.length) 0) t tb.length with
        |none=>some i
        |some n=>if(sz p i:Int)>(left:Int)+((n:Int)-1)*c then none else some i)=none:=hch
      by_cases hneg:tb.getD (t%tb.length) 0<0
      ·(repeat' (conv=>whnf);first|refine aC ?_ ?_<;>intro<;>try omega|refine z1_Qrs ?_|fail);all_goals try (conv=>whnf)
       exact⟨⟨((slotC c tb).ch p t left (wt p t S.bg) S.s).1,none,S.bg,S.dn⟩,[0,1,2,3,4], .inr ⟨rfl,e⟩,by rw [gvn_non hcur];(exact aL)⟩
      rw [if_neg hneg]at hch2
      cases hf:fc p (wt p t S.bg) (tb.getD (t%tb.length) 0)with
      |none=>
       (repeat' (conv=>whnf);first|refine aC ?_ ?_<;>intro<;>try omega|refine z1_Qrs ?_|fail);all_goals try (conv=>whnf)
       refine aK [1,2,3] (RFc_ok p (by omega) t (-1) (gvn p S) S.dn ms S.bg hb (tb.getD (t%tb.length) 0) (by omega)) ?_
       rw [hf,hon]
       (repeat' (conv=>whnf);first|refine aC ?_ ?_<;>intro<;>try omega|refine z1_Qrs ?_|fail);all_goals try (conv=>whnf)
       exact⟨⟨((slotC c tb).ch p t left (wt p t S.bg) S.s).1,none,S.bg,S.dn⟩,[0,1,2,3,4], .inr ⟨rfl,e⟩,by rw [gvn_non hcur];(exact aL)⟩
      |some i=>
       have hip:=(fc_some.1 hf).1
       have hgp:=pks_get hip
       have hzz:=hp.s i hip
       have hz2:(sz p i:Int)=(p.getD i pk0).s :=by unfold sz;omega
       have ho2:oI (some i)=i:=rfl
       rw [hf]at hch2
       simp only at hch2
       have cR:=Room_ok c hc2 tb t left (by omega) hl4 h0 hl
       cases ha:ahd tb (tb.getD (t%tb.length) 0) t tb.length with
       |none=>rw [ha]at hch2;cases hch2
       |some n=>
        rw [ha]at hch2 cR
        simp only at hch2
        have hgt:(sz p i:Int)>(left:Int)+((n:Int)-1)*c:=Classical.byContradiction fun h=>by rw [if_neg h]at hch2;cases hch2
        have hrm:romI c left (some n)=left+((n:Int)-1)*c:=by rw [Int.mul_comm];rfl
        rw [hrm]at cR
        generalize (left:Int)+((n:Int)-1)*c=rm at*
        generalize p.getD i pk0=x at*
        (repeat' (conv=>whnf);first|refine aC ?_ ?_<;>intro<;>try omega|refine z1_Qrs ?_|fail);all_goals try (conv=>whnf)
        refine aK [1,2,3] (RFc_ok p (by omega) t (-1) (gvn p S) S.dn ms S.bg hb (tb.getD (t%tb.length) 0) (by omega)) ?_
        rw [hf,ho2]
        (repeat' (conv=>whnf);first|refine⟨i,_,rfl,hgp,?_⟩|refine aC ?_ ?_<;>intro<;>try omega|refine z1_Qrs ?_|(refine aK [] cR ?_)|fail);all_goals try (conv=>whnf)
        exact⟨⟨((slotC c tb).ch p t left (wt p t S.bg) S.s).1,none,S.bg,S.dn⟩,[0,1,2,3,4], .inr ⟨rfl,e⟩,by rw [gvn_non hcur];(exact aL)⟩
     |some i=>
      have e:=hk.symm.trans (tk_new hcur hch hlt2)
      have hni:=new_inv hp.a hi hcur hch
      have hvs:=Rch.s (p:=p) (t:=t) (l:=left) (w:=wt p t S.bg) hv
      have hon:oI (some i)=i:=rfl
      obtain⟨w1,_⟩:=(slotC c tb).sub (fun j hj=>(wt_iff.1 hj).1) hch
      obtain⟨w2,_,w3⟩:=wt_iff.1 w1
      have hgn:=gvn_new (p:=p) (S:=S) (s':=((slotC c tb).ch p t left (wt p t S.bg) S.s).1) hcur w3
      have hch2:(if tb.getD (t%tb.length) 0<0 then none else match fc p (wt p t S.bg) (tb.getD (t%tb.length) 0)with
       |none=>none
       |some i=>match ahd tb (tb.getD (t%tb.length) 0) t tb.length with
        |none=>some i
        |some n=>if(sz p i:Int)>(left:Int)+((n:Int)-1)*c then none else some i)=some i:=hch
      have hneg:¬tb.getD (t%tb.length) 0<0:=fun h=>by rw [if_pos h]at hch2;cases hch2
      rw [if_neg hneg]at hch2
      cases hf:fc p (wt p t S.bg) (tb.getD (t%tb.length) 0)with
      |none=>rw [hf]at hch2;cases hch2
      |some j=>
       have hip:=(fc_some.1 hf).1
       have hzz:=hp.s j hip
       rw [hf]at hch2
       simp only at hch2
       have cR:=Room_ok c hc2 tb t left (by omega) hl4 h0 hl
       have hrm:∃rm,romI c left (ahd tb (tb.getD (t%tb.length) 0) t tb.length)=rm∧(sz p j:Int)≤rm∧j=i:=by
        cases ha:ahd tb (tb.getD (t%tb.length) 0) t tb.length with
        |none=>
         rw [ha]at hch2
         refine⟨1073741824,rfl,?_,by injection hch2⟩
         unfold sz;omega
        |some n=>
         rw [ha]at hch2
         simp only at hch2
         refine⟨left+((n:Int)-1)*c,by rw [Int.mul_comm];rfl,?_⟩
         by_cases h:(sz p j:Int)>(left:Int)+((n:Int)-1)*c
         ·rw [if_pos h]at hch2;cases hch2
         ·rw [if_neg h]at hch2;exact⟨by omega,by injection hch2⟩
       obtain⟨rm,hrm1,hrm2,rfl⟩:=hrm
       rw [hrm1]at cR
       have hgp:=pks_get hip
       have hz2:(sz p j:Int)=(p.getD j pk0).s :=by unfold sz;omega
       generalize p.getD j pk0=x at*
       (repeat' (conv=>whnf);first|refine aC ?_ ?_<;>intro<;>try omega|refine z1_Qrs ?_|fail);all_goals try (conv=>whnf)
       refine aK [1,2,3] (RFc_ok p (by omega) t (-1) (gvn p S) S.dn ms S.bg hb (tb.getD (t%tb.length) 0) (by omega)) ?_
       rw [hf,hon]
       (repeat' (conv=>whnf);first|refine⟨j,_,rfl,hgp,?_⟩|refine aC ?_ ?_<;>intro<;>try omega|refine z1_Qrs ?_|(refine aK [] cR ?_)|fail);all_goals try (conv=>whnf)
       exact⟨⟨((slotC c tb).ch p t left (wt p t S.bg) S.s).1,some (j,sz p j),upd S.bg j true,S.dn⟩,[0,1,2,3,4],show _ from .inl ⟨by simp,hl4,hm,RqS.new hp w2,hni,e.symm,hvs⟩,by rw [hgn];(exact aL)⟩
   ·clear hq hi hk hv
    clear S
    rintro S (⟨hne,hl4,hm,hq,hi,hk,hv⟩|⟨hcur,e⟩)
    ·cases hcur:S.cur with
     |none=>exact absurd hcur hne
     |some cc=>
     obtain⟨i,r⟩:=cc
     obtain⟨r1,r2⟩:=hq _ hcur
     have hil:=(hi.b i (hi.c i r hcur).1).1
     have hci:cI (some (i,r))=i:=rfl
     have hgt:=gvn_at hi hcur
     have hgt2:gvn p S i=(sz p i-r:Nat):=by rw [hgt];dsimp only at r2;omega
     rw [hci]
     (repeat' (conv=>whnf);first|refine aC ?_ ?_<;>intro<;>try omega|refine z1_Qrs ?_|fail);all_goals try (conv=>whnf)
     have hgr:sz p i-(sz p i-r)=r:=by dsimp only at r2;omega
     dsimp only at r1 r2
     refine aM [1,2,3] (RSend_ok N t hN2 (by omega) _ (by omega) p hp hcl t i (sz p i-r) (gvn p S) S.dn ms hm hil hgt2 (by omega) left hlt2 hl4) rfl rfl ?_
     rintro _ _ ⟨m2,(⟨hfn,hm2,rfl,rfl⟩|⟨hmo,hm2,rfl,rfl⟩)⟩
     ·have hrl:r≤left:=by omega
      have e:=(tk_some hcur r1 hrl).symm.trans hk
      rw [hgr]at hm2⊢
      (repeat' (conv=>whnf);first|refine aC ?_ ?_<;>intro<;>try omega|refine z1_Qrs ?_|fail);all_goals try (conv=>whnf)
      exact⟨(left-r,S.fi i t,m2),[0,7,8,3,4],⟨by omega,hm2.up (by omega),fun c h=>(by cases h),fi_inv hp.a hi hcur,e,hv⟩,by dsimp only;omega,by dsimp only;rw [gvn_fi hi hcur,show((left-r:Nat):Int)=(left:Int)-r by omega];(exact aL)⟩
     ·have e:=(tk_more hcur hlt2 (by omega)).symm.trans hk
      (repeat' (conv=>whnf);first|refine aC ?_ ?_<;>intro<;>try omega|refine z1_Qrs ?_|fail);all_goals try (conv=>whnf)
      exact⟨(0,S.cu (some (i,r-left)),m2),[0,7,2,3,4],⟨by omega,hm2.up (by dsimp only;omega),fun c h=>(by simp only [Option.some.injEq]at h;subst h;simp only;omega),cu_inv hi hcur,e,hv⟩,by dsimp only;omega,by dsimp only;rw [gvn_cu hi hcur,show(sz p i:Int)-((r-left:Nat):Int)=((sz p i-r+left:Nat):Int)by omega,show((0:Nat):Int)=(left:Int)-left by omega];(exact aL)⟩
    ·rw [hcur]
     have hcn:cI none= -1:=rfl
     rw [hcn]
     (repeat' (conv=>whnf);first|refine aC ?_ ?_<;>intro<;>try omega|refine z1_Qrs ?_|fail);all_goals try (conv=>whnf)
     exact⟨(t+1,ms),[0,1,2,3,4],RnD.of hlt e hm (by omega) (fun c h=>by rw [hcur]at h;cases h),by dsimp only;omega,by dsimp only;rw [e,hcur];(exact aL)⟩
  ·obtain rfl:left=0:=by omega
   have e:run (slotC c tb) p c (t+1)=S:=by rw [←hk,tk]
   (repeat' (conv=>whnf);first|refine aC ?_ ?_<;>intro<;>try omega|refine z1_Qrs ?_|fail);all_goals try (conv=>whnf)
   exact⟨(t+1,ms),[0,1,2,3,4],RnD.of hlt e hm (by omega) hq,by dsimp only;omega,by dsimp only;rw [e];(exact aL)⟩
 ·obtain rfl:T=t:=by omega
  (repeat' (conv=>whnf);first|refine aC ?_ ?_<;>intro<;>try omega|refine z3_Qrs ?_|fail);all_goals try (conv=>whnf)
  refine .mk [.fz 2, .fm 3] ?_
  (repeat' (conv=>whnf);first|refine aC ?_ ?_<;>intro<;>try omega|refine z3_Qrs ?_|fail);all_goals try (conv=>whnf)
  exact⟨rfl,_,⟨ms,by have:=hm.l;omega,rfl⟩,rfl⟩
end
section
open Go.Sx Go.Pk Go.Mc Go.Np
theorem DRun_ok (l:Ln) (hl:LL l) (he:lnErr l=0) (p:List Pk) (T:Nat) (hp:PL p) (hcl:∀i,i<p.length→0≤cl p i∧cl p i<l.n) (hT:T≤2000):Ctr Tryz.prog 98 [lv l, .psl 3 (pks p),i64 T] [] (fun r o=>o=[]∧RunR p.length (run (chL l) p l.c.toNat T).dn r):=by
 refine fI 0 Tryz.func98 ?_
 obtain⟨h,hc,hn,k1,k5,hr,hd,hs⟩:=lRun_fit he hp hcl hT
 (repeat' (conv=>whnf);first|refine aC ?_ ?_<;>intro<;>try omega|refine z2_T1 ?_|fail);all_goals try (conv=>whnf)
 refine aK [] (rlCheck_ok l hl) ?_
 rw [he]
 rcases(show l.k=1∨l.k=2∨l.k=3∨l.k=4∨l.k=5 by omega)with hk|hk|hk|hk|hk
 ·have e:chL l=fifoC:=if_pos hk
  rw [e]
  (repeat' (conv=>whnf);first|refine aC ?_ ?_<;>intro<;>try omega|refine z2_T1 ?_|(refine CallOb.mk [] (DRunf_ok p _ _ T h) rfl ⟨Imp.num (by omega),Imp.num (by omega),Imp.refl _,Imp.refl _,trivial⟩ rfl rfl ?_;rintro _ _ ⟨rfl,x,⟨ms,hms,rfl⟩,rfl⟩)|fail);all_goals try (conv=>whnf)
  exact⟨rfl,_,⟨ms,hms,rfl⟩,rfl⟩
 ·have e:chL l=prioC l.n.toNat:=by unfold chL;rw [if_neg (by omega),if_pos hk]
  rw [e]
  (repeat' (conv=>whnf);first|refine aC ?_ ?_<;>intro<;>try omega|refine z2_T1 ?_|(refine CallOb.mk [] (DRunp_ok p _ _ T h) rfl ⟨Imp.num (by omega),Imp.num (by omega),Imp.refl _,Imp.refl _,trivial⟩ rfl rfl ?_;rintro _ _ ⟨rfl,x,⟨ms,hms,rfl⟩,rfl⟩)|fail);all_goals try (conv=>whnf)
  exact⟨rfl,_,⟨ms,hms,rfl⟩,rfl⟩
 ·have e:chL l=robinC l.w:=by unfold chL;rw [if_neg (by omega),if_neg (by omega),if_pos hk]
  rw [e]
  obtain⟨w1,w2⟩:=hr hk
  (repeat' (conv=>whnf);first|refine aC ?_ ?_<;>intro<;>try omega|refine z2_T1 ?_|(refine CallOb.mk [] (DRunr_ok p _ _ T h l.w w1 (fun c hc=>inR_get w2 (by omega))) rfl ⟨Imp.num (by omega),Imp.refl _,Imp.refl _,Imp.refl _,trivial⟩ rfl rfl ?_;rintro _ _ ⟨rfl,x,⟨ms,hms,rfl⟩,rfl⟩)|fail);all_goals try (conv=>whnf)
  exact⟨rfl,_,⟨ms,hms,rfl⟩,rfl⟩
 ·have e:chL l=defC l.w:=by unfold chL;rw [if_neg (by omega),if_neg (by omega),if_neg (by omega),if_pos hk]
  rw [e]
  obtain⟨w1,w2⟩:=hd hk
  (repeat' (conv=>whnf);first|refine aC ?_ ?_<;>intro<;>try omega|refine z2_T1 ?_|(refine CallOb.mk [] (DRund_ok p _ _ T h l.w w1 (fun c hc=>inR_get w2 (by omega))) rfl ⟨Imp.num (by omega),Imp.refl _,Imp.refl _,Imp.refl _,trivial⟩ rfl rfl ?_;rintro _ _ ⟨rfl,x,⟨ms,hms,rfl⟩,rfl⟩)|fail);all_goals try (conv=>whnf)
  exact⟨rfl,_,⟨ms,hms,rfl⟩,rfl⟩
 ·have e:chL l=slotC l.c.toNat l.s:=by unfold chL;rw [if_neg (by omega),if_neg (by omega),if_neg (by omega),if_neg (by omega)]
  rw [e]
  obtain⟨w1,w2⟩:=hs hk
  (repeat' (conv=>whnf);first|refine aC ?_ ?_<;>intro<;>try omega|refine z2_T1 ?_|(refine CallOb.mk [] (DRuns_ok p _ _ T h l.s w1 (by omega)) rfl ⟨Imp.num (by omega),Imp.num (by omega),Imp.refl _,Imp.refl _,Imp.refl _,trivial⟩ rfl rfl ?_;rintro _ _ ⟨rfl,x,⟨ms,hms,rfl⟩,rfl⟩)|fail);all_goals try (conv=>whnf)
  exact⟨rfl,_,⟨ms,hms,rfl⟩,rfl⟩
end
end Go.Proofs.YtaomhdljcdadaaaGreat
section
namespace Go.Mc
open Go.Pk Go.Np
structure SndP (n:Nt) (p:List Pk):Prop where
 f:∀i,i<p.length→0≤(p.getD i pk0).f ∧(p.getD i pk0).f <n.fl.length
 s:∀i,i<p.length→(pfl n (p.getD i pk0)).lo ≤(p.getD i pk0).s ∧(p.getD i pk0).s ≤(pfl n (p.getD i pk0)).hi
 t:∀i,i≤p.length→0≤lst p i∧lst p i≤5*i
 o:∀i,i<p.length→lst p i≤(p.getD i pk0).t
theorem SndP.nil (n:Nt):SndP n []:=
 ⟨fun i hi=>by simp at hi,fun i hi=>by simp at hi,fun i hi=>by
  have:i=0:=by simpa using hi
  subst this;simp [lst],fun i hi=>by simp at hi⟩
theorem app_lt {p:List Pk} {x:Pk} {i:Nat} (h:i<p.length):(p++[x]).getD i pk0=p.getD i pk0:=by
 simp [List.getD_eq_getElem?_getD,List.getElem?_append_left h]
theorem app_eq {p:List Pk} {x:Pk}:(p++[x]).getD p.length pk0=x:=by simp [List.getD_eq_getElem?_getD]
theorem lst_app {p:List Pk} {x:Pk} {i:Nat} (h:i≤p.length):lst (p++[x]) i=lst p i:=by
 cases i with
 |zero=>rfl
 |succ i=>simp only [lst];rw [app_lt (by omega)]
theorem SndP.app {n:Nt} {p:List Pk} (h:SndP n p) {x:Pk} (hf:0≤x.f∧x.f<n.fl.length) (hs:(pfl n x).lo ≤x.s∧x.s≤(pfl n x).hi) (ht:lst p p.length≤x.t∧x.t≤lst p p.length+5):SndP n (p++[x])∧lst (p++[x]) (p++[x]).length =x.t:=by
 have hl:(p++[x]).length =p.length+1:=by simp
 have he:lst (p++[x]) (p.length+1)=x.t:=by simp only [lst];rw [app_eq]
 have h0:=h.t p.length (Nat.le_refl _)
 refine⟨⟨fun i hi=>?_,fun i hi=>?_,fun i hi=>?_,fun i hi=>?_⟩,by rw [hl,he]⟩
 ·rcases Nat.lt_succ_iff_lt_or_eq.1 (by omega:i<p.length+1)with e|e
  ·rw [app_lt e];exact h.f i e
  ·subst e;rw [app_eq];exact hf
 ·rcases Nat.lt_succ_iff_lt_or_eq.1 (by omega:i<p.length+1)with e|e
  ·rw [app_lt e];exact h.s i e
  ·subst e;rw [app_eq];exact hs
 ·rcases Nat.lt_succ_iff_lt_or_eq.1 (by omega:i<p.length+2)with e|e
  ·rw [lst_app (by omega)];exact h.t i (by omega)
  ·subst e;rw [he];omega
 ·rcases Nat.lt_succ_iff_lt_or_eq.1 (by omega:i<p.length+1)with e|e
  ·rw [app_lt e,lst_app (by omega)];exact h.o i e
  ·subst e;rw [app_eq,lst_app (by omega)];exact ht.1
end Go.Mc
end
section
namespace Go.Mc
open Go.Pk Go.Np
def byN (p:List Pk) (i:Nat):Nat:=sumN (fun k=>(p.getD k pk0).s.toNat) i
def laN (p:List Pk):Nat→Int
 |0=>0
 |i+1=>max (laN p i) (p.getD i pk0).t
theorem laN_bd {p:List Pk} {B:Int} (h0:0≤B):∀{m:Nat},(∀i,i<m→(p.getD i pk0).t ≤B)→0≤laN p m∧laN p m≤B∧∀i,i<m→(p.getD i pk0).t ≤laN p m
 |0,_=>⟨Int.le_refl _,h0,fun i hi=>by omega⟩
 |m+1,h=>by
  obtain⟨a,b,c⟩:=laN_bd h0 (m:=m) fun i hi=>h i (by omega)
  have:=h m (by omega)
  simp only [laN]
  refine⟨by omega,by omega,fun i hi=>?_⟩
  rcases Nat.lt_succ_iff_lt_or_eq.1 hi with e|e
  ·have:=c i e;omega
  ·subst e;omega
theorem byN_bd {p:List Pk} {B:Nat}:∀{m:Nat},(∀i,i<m→(p.getD i pk0).s ≤B)→byN p m≤B*m
 |0,_=>Nat.zero_le _
 |m+1,h=>by
  have:=byN_bd (p:=p) (B:=B) (m:=m) fun i hi=>h i (by omega)
  have h2:=h m (by omega)
  unfold byN at*
  simp only [sumN]
  rw [Nat.mul_succ]
  omega
end Go.Mc
end
