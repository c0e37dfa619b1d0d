/- Lemmas of this seat. Conditions: as stated. -/
import Derived.Test.YtaomhdljcdadaaaGreatS13
set_option linter.unusedVariables false
set_option linter.unusedSimpArgs false
set_option maxHeartbeats 2000000
set_option maxRecDepth 4000
namespace Go.Proofs.YtaomhdljcdadaaaGreat
section
open Go.Sx Go.Pk Go.Mc
theorem z2_Qrf {G H:Prop} (k:H) (h:H→G:=by first|exact fun r=>aS r|exact fun r=>aG r|exact fun r=>aH r|exact fun r=>aP_T1 r|exact fun r=>aI r|exact fun r=>aJ r):G:=h k
theorem DRunf_ok (p:List Pk) (c N T:Nat) (h:FitP p c N T):
  Ctr Tryz.prog 127 [i64 c,i64 N, .psl 3 (pks p),i64 T] [] (fun r o=>o=[]∧RunR p.length (run fifoC p c T).dn r):=by
 refine fI 0 Tryz.func127 ?_
 have hp:=h.hp
 have hpl:=pks_len p
 have h60:=hp.l
 have hc:=h.c1;have hc2:=h.c2;have hN:=h.n1;have hN2:=h.n2;have hT:=h.t
 have hcl:=h.cl
 (repeat' (conv=>whnf);first|refine aC ?_ ?_<;>intro<;>try omega|refine z2_T1 ?_|(refine aK [] (RBad_ok p c N T h) ?_)|fail);all_goals try (conv=>whnf)
 refine aK [] (RNew_ok N hN hN2 p hp.l) ?_
 (repeat' (conv=>whnf);first|refine aC ?_ ?_<;>intro<;>try omega|refine z2_T1 ?_|fail);all_goals try (conv=>whnf)
 have hil:=fun F=>ivs_len p.length F
 have hg0:ivs p.length (gvn p (run fifoC p c 0))=ivs p.length (fun _=>0):=ivs_congr fun j hj=>rfl
 refine LoopOb.mk (Y:=Nat×List (List Int)) (st:=fun y=>⟨[(11, .ptr 4 0),(8, .ptr 0 0),(0,i64 c),(1,i64 N),(2, .psl 3 (pks p)),(3,i64 T)],[.box [.nil, .nil], .vec 1 (ivs p.length (gvn p (run fifoC p c y.1))), .vec 1 (ivs p.length (run fifoC p c y.1).dn), .mat 1 (mtz y.2), .box [i64 y.1, .vec 1,i64 (cI (run fifoC p c y.1).cur), .vec 2, .vec 3]]⟩)
  (inv:=fun y=>RnD fifoC p c N T y.1 y.2) (fun y=>T-y.1) (0,rw0 N N) [0,1,2,3,5] ?_ ?_ ?_
 ·exact⟨Nat.zero_le _,by simpa using rw0_sn N,fun c h=>by cases h⟩
 ·dsimp only
  rw [hg0]
  (exact aL)
 rintro⟨t,ms⟩ hI
 dsimp only at hI⊢
 obtain⟨ht,hm,hq⟩:=hI
 have hinv:=run_inv (C:=fifoC) (c:=c) hp.a t
 have hml:=(mtz_len ms).trans hm.l
 have hrch:=run_rch (C:=fifoC) (p:=p) (c:=c) t
 by_cases hlt:t<T
 ·have hS:run fifoC p c (t+1)=tk fifoC p t c (run fifoC p c t):=rfl
  generalize run fifoC p c t=S at*
  (repeat' (conv=>whnf);first|refine aC ?_ ?_<;>intro<;>try omega|refine z2_T1 ?_|fail);all_goals try (conv=>whnf)
  refine aM [1,2,3] (RBegin_ok N t (by omega) (4000*t) (by omega) t (cI S.cur) p.length (gvn p S) S.dn ms hm hN hN2) rfl rfl ?_
  rintro _ _ ⟨m2,hm2,rfl,rfl⟩
  have hm3:Sn N (fun _=>t+2) (4000*(t+1)-c) m2:=⟨hm2.l,hm2.r,fun j hj q=>by have:=hm2.v j hj q;omega⟩
  (repeat' (conv=>whnf);first|refine aC ?_ ?_<;>intro<;>try omega|refine z2_T1 ?_|fail);all_goals try (conv=>whnf)
  refine LoopOb.mk (Y:=Nat×St fifoC.σ×List (List Int)) (st:=fun y=>⟨[(12,i64 y.1),(11, .ptr 4 0),(8, .ptr 0 0),(0,i64 c),(1,i64 N),(2, .psl 3 (pks p)),(3,i64 T)],[.box [.nil, .nil], .vec 1 (ivs p.length (gvn p y.2.1)), .vec 1 (ivs p.length y.2.1.dn), .mat 1 (mtz y.2.2), .box [i64 t, .vec 1,i64 (cI y.2.1.cur), .vec 2, .vec 3]]⟩)
   (inv:=fun y=>TkD fifoC p c N t y.1 y.2.1 y.2.2) (fun y=>y.1) (c,S,m2) [0,1,2,6,4] ⟨hc2,hm3,hq,hinv.inT,hS.symm,hrch⟩ (by(exact aL)) ?_
  clear hS hinv hq hm3 hm hml hrch hm2
  clear m2 S ms
  rintro⟨left,S,ms⟩ hI
  dsimp only at hI⊢
  obtain⟨hl4,hm,hq,hi,hk,hv⟩:=hI
  have hml:=(mtz_len ms).trans hm.l
  by_cases hlt2:0<left
  ·(repeat' (conv=>whnf);first|refine aC ?_ ?_<;>intro<;>try omega|refine z2_Qrf ?_|fail);all_goals try (conv=>whnf)
   refine CutOb.cut (Y:=St fifoC.σ) (st:=fun S=>⟨[(12,i64 left),(11, .ptr 4 0),(8, .ptr 0 0),(0,i64 c),(1,i64 N),(2, .psl 3 (pks p)),(3,i64 T)],[.box [.nil, .nil], .vec 1 (ivs p.length (gvn p S)), .vec 1 (ivs p.length S.dn), .mat 1 (mtz ms), .box [i64 t, .vec 1,i64 (cI S.cur), .vec 2, .vec 3]]⟩)
    (inv:=fun S=>(S.cur≠none∧TkD fifoC p c N t left S ms)∨(S.cur=none∧run fifoC p c (t+1)=S)) ?_ ?_
   ·cases hcur:S.cur with
    |some cc=>
     have hci:¬(cI (some cc)= -1):=by unfold cI;simp only;omega
     (repeat' (conv=>whnf);first|refine aC ?_ ?_<;>intro<;>try omega|refine z2_T1 ?_|fail);all_goals try (conv=>whnf)
     exact⟨S,[0,1,2,3,4], .inl ⟨by rw [hcur];simp,hl4,hm,hq,hi,hk,hv⟩,by rw [hcur];(exact aL)⟩
    |none=>
     have hcn:cI none= -1:=rfl
     rw [hcn]
     have hb:∀j,wt p t (bgO (gvn p S) (-1)) j=wt p t S.bg j:=fun j=>by rw [←wt_gvn hp hi hq,hcur];rfl
     cases hch:(fifoC.ch p t left (wt p t S.bg) S.s).2 with
     |none=>
      have e:=hk.symm.trans (tk_non hcur hch hlt2)
      have hon:oI none= -1:=rfl
      (repeat' (conv=>whnf);first|refine aC ?_ ?_<;>intro<;>try omega|refine z2_T1 ?_|fail);all_goals try (conv=>whnf)
      refine aK [1,2,3] (RFa_ok p (by omega) t (-1) (gvn p S) S.dn ms S.bg hb) ?_
      rw [show fst (wt p t S.bg) p.length=none from hch,hon]
      (repeat' (conv=>whnf);first|refine aC ?_ ?_<;>intro<;>try omega|refine z2_T1 ?_|fail);all_goals try (conv=>whnf)
      exact⟨⟨(fifoC.ch p t left (wt p t S.bg) S.s).1,none,S.bg,S.dn⟩,[0,1,2,3,4], .inr ⟨rfl,e⟩,by rw [gvn_non hcur];(exact aL)⟩
     |some i=>
      have e:=hk.symm.trans (tk_new hcur hch hlt2)
      have hni:=new_inv hp.a hi hcur hch
      have hvs:=Rch.s (p:=p) (t:=t) (l:=left) (w:=wt p t S.bg) hv
      have hon:oI (some i)=i:=rfl
      obtain⟨w1,_⟩:=fifoC.sub (fun j hj=>(wt_iff.1 hj).1) hch
      obtain⟨w2,_,w3⟩:=wt_iff.1 w1
      have hgn:=gvn_new (p:=p) (S:=S) (s':=(fifoC.ch p t left (wt p t S.bg) S.s).1) hcur w3
      (repeat' (conv=>whnf);first|refine aC ?_ ?_<;>intro<;>try omega|refine z2_T1 ?_|fail);all_goals try (conv=>whnf)
      refine aK [1,2,3] (RFa_ok p (by omega) t (-1) (gvn p S) S.dn ms S.bg hb) ?_
      rw [show fst (wt p t S.bg) p.length=some i from hch,hon]
      (repeat' (conv=>whnf);first|refine aC ?_ ?_<;>intro<;>try omega|refine z2_T1 ?_|fail);all_goals try (conv=>whnf)
      exact⟨⟨(fifoC.ch p t left (wt p t S.bg) S.s).1,some (i,sz p i),upd S.bg i true,S.dn⟩,[0,1,2,3,4],show _ from .inl ⟨by simp,hl4,hm,RqS.new hp w2,hni,e.symm,hvs⟩,by rw [hgn];(exact aL)⟩
   ·clear hq hi hk hv
    clear S
    rintro S (⟨hne,hl4,hm,hq,hi,hk,hv⟩|⟨hcur,e⟩)
    ·cases hcur:S.cur with
     |none=>exact absurd hcur hne
     |some cc=>
     obtain⟨i,r⟩:=cc
     obtain⟨r1,r2⟩:=hq _ hcur
     have hil:=(hi.b i (hi.c i r hcur).1).1
     have hci:cI (some (i,r))=i:=rfl
     have hgt:=gvn_at hi hcur
     have hgt2:gvn p S i=(sz p i-r:Nat):=by rw [hgt];dsimp only at r2;omega
     rw [hci]
     (repeat' (conv=>whnf);first|refine aC ?_ ?_<;>intro<;>try omega|refine z2_T1 ?_|fail);all_goals try (conv=>whnf)
     have hgr:sz p i-(sz p i-r)=r:=by dsimp only at r2;omega
     dsimp only at r1 r2
     refine aM [1,2,3] (RSend_ok N t hN2 (by omega) _ (by omega) p hp hcl t i (sz p i-r) (gvn p S) S.dn ms hm hil hgt2 (by omega) left hlt2 hl4) rfl rfl ?_
     rintro _ _ ⟨m2,(⟨hfn,hm2,rfl,rfl⟩|⟨hmo,hm2,rfl,rfl⟩)⟩
     ·have hrl:r≤left:=by omega
      have e:=(tk_some hcur r1 hrl).symm.trans hk
      rw [hgr]at hm2⊢
      (repeat' (conv=>whnf);first|refine aC ?_ ?_<;>intro<;>try omega|refine z2_T1 ?_|fail);all_goals try (conv=>whnf)
      exact⟨(left-r,S.fi i t,m2),[0,7,8,3,4],⟨by omega,hm2.up (by omega),fun c h=>(by cases h),fi_inv hp.a hi hcur,e,hv⟩,by dsimp only;omega,by dsimp only;rw [gvn_fi hi hcur,show((left-r:Nat):Int)=(left:Int)-r by omega];(exact aL)⟩
     ·have e:=(tk_more hcur hlt2 (by omega)).symm.trans hk
      (repeat' (conv=>whnf);first|refine aC ?_ ?_<;>intro<;>try omega|refine z2_T1 ?_|fail);all_goals try (conv=>whnf)
      exact⟨(0,S.cu (some (i,r-left)),m2),[0,7,2,3,4],⟨by omega,hm2.up (by dsimp only;omega),fun c h=>(by simp only [Option.some.injEq]at h;subst h;simp only;omega),cu_inv hi hcur,e,hv⟩,by dsimp only;omega,by dsimp only;rw [gvn_cu hi hcur,show(sz p i:Int)-((r-left:Nat):Int)=((sz p i-r+left:Nat):Int)by omega,show((0:Nat):Int)=(left:Int)-left by omega];(exact aL)⟩
    ·rw [hcur]
     have hcn:cI none= -1:=rfl
     rw [hcn]
     (repeat' (conv=>whnf);first|refine aC ?_ ?_<;>intro<;>try omega|refine z2_T1 ?_|fail);all_goals try (conv=>whnf)
     exact⟨(t+1,ms),[0,1,2,3,4],RnD.of hlt e hm (by omega) (fun c h=>by rw [hcur]at h;cases h),by dsimp only;omega,by dsimp only;rw [e,hcur];(exact aL)⟩
  ·obtain rfl:left=0:=by omega
   have e:run fifoC p c (t+1)=S:=by rw [←hk,tk]
   (repeat' (conv=>whnf);first|refine aC ?_ ?_<;>intro<;>try omega|refine z2_T1 ?_|fail);all_goals try (conv=>whnf)
   exact⟨(t+1,ms),[0,1,2,3,4],RnD.of hlt e hm (by omega) hq,by dsimp only;omega,by dsimp only;rw [e];(exact aL)⟩
 ·obtain rfl:T=t:=by omega
  (repeat' (conv=>whnf);first|refine aC ?_ ?_<;>intro<;>try omega|refine z1_T1 ?_|fail);all_goals try (conv=>whnf)
  refine .mk [.fz 2, .fm 3] ?_
  (repeat' (conv=>whnf);first|refine aC ?_ ?_<;>intro<;>try omega|refine z1_T1 ?_|fail);all_goals try (conv=>whnf)
  exact⟨rfl,_,⟨ms,by have:=hm.l;omega,rfl⟩,rfl⟩
end
section
open Go.Sx Go.Pk Go.Mc
theorem DRunp_ok (p:List Pk) (c N T:Nat) (h:FitP p c N T):
  Ctr Tryz.prog 123 [i64 c,i64 N, .psl 3 (pks p),i64 T] [] (fun r o=>o=[]∧RunR p.length (run (prioC N) p c T).dn r):=by
 refine fI 0 Tryz.func123 ?_
 have hp:=h.hp
 have hpl:=pks_len p
 have h60:=hp.l
 have hc:=h.c1;have hc2:=h.c2;have hN:=h.n1;have hN2:=h.n2;have hT:=h.t
 have hcl:=h.cl
 (repeat' (conv=>whnf);first|refine aC ?_ ?_<;>intro<;>try omega|refine z2_T1 ?_|(refine aK [] (RBad_ok p c N T h) ?_)|fail);all_goals try (conv=>whnf)
 refine aK [] (RNew_ok N hN hN2 p hp.l) ?_
 (repeat' (conv=>whnf);first|refine aC ?_ ?_<;>intro<;>try omega|refine z2_T1 ?_|fail);all_goals try (conv=>whnf)
 have hil:=fun F=>ivs_len p.length F
 have hg0:ivs p.length (gvn p (run (prioC N) p c 0))=ivs p.length (fun _=>0):=ivs_congr fun j hj=>rfl
 refine LoopOb.mk (Y:=Nat×List (List Int)) (st:=fun y=>⟨[(11, .ptr 4 0),(8, .ptr 0 0),(0,i64 c),(1,i64 N),(2, .psl 3 (pks p)),(3,i64 T)],[.box [.nil, .nil], .vec 1 (ivs p.length (gvn p (run (prioC N) p c y.1))), .vec 1 (ivs p.length (run (prioC N) p c y.1).dn), .mat 1 (mtz y.2), .box [i64 y.1, .vec 1,i64 (cI (run (prioC N) p c y.1).cur), .vec 2, .vec 3]]⟩)
  (inv:=fun y=>RnD (prioC N) p c N T y.1 y.2) (fun y=>T-y.1) (0,rw0 N N) [0,1,2,3,5] ?_ ?_ ?_
 ·exact⟨Nat.zero_le _,by simpa using rw0_sn N,fun c h=>by cases h⟩
 ·dsimp only
  rw [hg0]
  (exact aL)
 rintro⟨t,ms⟩ hI
 dsimp only at hI⊢
 obtain⟨ht,hm,hq⟩:=hI
 have hinv:=run_inv (C:=(prioC N)) (c:=c) hp.a t
 have hml:=(mtz_len ms).trans hm.l
 have hrch:=run_rch (C:=(prioC N)) (p:=p) (c:=c) t
 by_cases hlt:t<T
 ·have hS:run (prioC N) p c (t+1)=tk (prioC N) p t c (run (prioC N) p c t):=rfl
  generalize run (prioC N) p c t=S at*
  (repeat' (conv=>whnf);first|refine aC ?_ ?_<;>intro<;>try omega|refine z2_T1 ?_|fail);all_goals try (conv=>whnf)
  refine aM [1,2,3] (RBegin_ok N t (by omega) (4000*t) (by omega) t (cI S.cur) p.length (gvn p S) S.dn ms hm hN hN2) rfl rfl ?_
  rintro _ _ ⟨m2,hm2,rfl,rfl⟩
  have hm3:Sn N (fun _=>t+2) (4000*(t+1)-c) m2:=⟨hm2.l,hm2.r,fun j hj q=>by have:=hm2.v j hj q;omega⟩
  (repeat' (conv=>whnf);first|refine aC ?_ ?_<;>intro<;>try omega|refine z2_T1 ?_|fail);all_goals try (conv=>whnf)
  refine LoopOb.mk (Y:=Nat×St (prioC N).σ ×List (List Int)) (st:=fun y=>⟨[(12,i64 y.1),(11, .ptr 4 0),(8, .ptr 0 0),(0,i64 c),(1,i64 N),(2, .psl 3 (pks p)),(3,i64 T)],[.box [.nil, .nil], .vec 1 (ivs p.length (gvn p y.2.1)), .vec 1 (ivs p.length y.2.1.dn), .mat 1 (mtz y.2.2), .box [i64 t, .vec 1,i64 (cI y.2.1.cur), .vec 2, .vec 3]]⟩)
   (inv:=fun y=>TkD (prioC N) p c N t y.1 y.2.1 y.2.2) (fun y=>y.1) (c,S,m2) [0,1,2,6,4] ⟨hc2,hm3,hq,hinv.inT,hS.symm,hrch⟩ (by(exact aL)) ?_
  clear hS hinv hq hm3 hm hml hrch hm2
  clear m2 S ms
  rintro⟨left,S,ms⟩ hI
  dsimp only at hI⊢
  obtain⟨hl4,hm,hq,hi,hk,hv⟩:=hI
  have hml:=(mtz_len ms).trans hm.l
  by_cases hlt2:0<left
  ·(repeat' (conv=>whnf);first|refine aC ?_ ?_<;>intro<;>try omega|refine z2_Qrf ?_|fail);all_goals try (conv=>whnf)
   refine CutOb.cut (Y:=St (prioC N).σ) (st:=fun S=>⟨[(12,i64 left),(11, .ptr 4 0),(8, .ptr 0 0),(0,i64 c),(1,i64 N),(2, .psl 3 (pks p)),(3,i64 T)],[.box [.nil, .nil], .vec 1 (ivs p.length (gvn p S)), .vec 1 (ivs p.length S.dn), .mat 1 (mtz ms), .box [i64 t, .vec 1,i64 (cI S.cur), .vec 2, .vec 3]]⟩)
    (inv:=fun S=>(S.cur≠none∧TkD (prioC N) p c N t left S ms)∨(S.cur=none∧run (prioC N) p c (t+1)=S)) ?_ ?_
   ·cases hcur:S.cur with
    |some cc=>
     have hci:¬(cI (some cc)= -1):=by unfold cI;simp only;omega
     (repeat' (conv=>whnf);first|refine aC ?_ ?_<;>intro<;>try omega|refine z2_T1 ?_|fail);all_goals try (conv=>whnf)
     exact⟨S,[0,1,2,3,4], .inl ⟨by rw [hcur];simp,hl4,hm,hq,hi,hk,hv⟩,by rw [hcur];(exact aL)⟩
    |none=>
     have hcn:cI none= -1:=rfl
     rw [hcn]
     have hb:∀j,wt p t (bgO (gvn p S) (-1)) j=wt p t S.bg j:=fun j=>by rw [←wt_gvn hp hi hq,hcur];rfl
     cases hch:((prioC N).ch p t left (wt p t S.bg) S.s).2 with
     |none=>
      have e:=hk.symm.trans (tk_non hcur hch hlt2)
      have hon:oI none= -1:=rfl
      (repeat' (conv=>whnf);first|refine aC ?_ ?_<;>intro<;>try omega|refine z2_T1 ?_|fail);all_goals try (conv=>whnf)
      refine aK [1,2,3] (DChoP_ok p (by omega) N hN2 t (-1) (gvn p S) S.dn ms S.bg hb) ?_
      rw [show pri (fc p (wt p t S.bg)) N=none from hch,hon]
      (repeat' (conv=>whnf);first|refine aC ?_ ?_<;>intro<;>try omega|refine z2_T1 ?_|fail);all_goals try (conv=>whnf)
      exact⟨⟨((prioC N).ch p t left (wt p t S.bg) S.s).1,none,S.bg,S.dn⟩,[0,1,2,3,4], .inr ⟨rfl,e⟩,by rw [gvn_non hcur];(exact aL)⟩
     |some i=>
      have e:=hk.symm.trans (tk_new hcur hch hlt2)
      have hni:=new_inv hp.a hi hcur hch
      have hvs:=Rch.s (p:=p) (t:=t) (l:=left) (w:=wt p t S.bg) hv
      have hon:oI (some i)=i:=rfl
      obtain⟨w1,_⟩:=(prioC N).sub (fun j hj=>(wt_iff.1 hj).1) hch
      obtain⟨w2,_,w3⟩:=wt_iff.1 w1
      have hgn:=gvn_new (p:=p) (S:=S) (s':=((prioC N).ch p t left (wt p t S.bg) S.s).1) hcur w3
      (repeat' (conv=>whnf);first|refine aC ?_ ?_<;>intro<;>try omega|refine z2_T1 ?_|fail);all_goals try (conv=>whnf)
      refine aK [1,2,3] (DChoP_ok p (by omega) N hN2 t (-1) (gvn p S) S.dn ms S.bg hb) ?_
      rw [show pri (fc p (wt p t S.bg)) N=some i from hch,hon]
      (repeat' (conv=>whnf);first|refine aC ?_ ?_<;>intro<;>try omega|refine z2_T1 ?_|fail);all_goals try (conv=>whnf)
      exact⟨⟨((prioC N).ch p t left (wt p t S.bg) S.s).1,some (i,sz p i),upd S.bg i true,S.dn⟩,[0,1,2,3,4],show _ from .inl ⟨by simp,hl4,hm,RqS.new hp w2,hni,e.symm,hvs⟩,by rw [hgn];(exact aL)⟩
   ·clear hq hi hk hv
    clear S
    rintro S (⟨hne,hl4,hm,hq,hi,hk,hv⟩|⟨hcur,e⟩)
    ·cases hcur:S.cur with
     |none=>exact absurd hcur hne
     |some cc=>
     obtain⟨i,r⟩:=cc
     obtain⟨r1,r2⟩:=hq _ hcur
     have hil:=(hi.b i (hi.c i r hcur).1).1
     have hci:cI (some (i,r))=i:=rfl
     have hgt:=gvn_at hi hcur
     have hgt2:gvn p S i=(sz p i-r:Nat):=by rw [hgt];dsimp only at r2;omega
     rw [hci]
     (repeat' (conv=>whnf);first|refine aC ?_ ?_<;>intro<;>try omega|refine z2_T1 ?_|fail);all_goals try (conv=>whnf)
     have hgr:sz p i-(sz p i-r)=r:=by dsimp only at r2;omega
     dsimp only at r1 r2
     refine aM [1,2,3] (RSend_ok N t hN2 (by omega) _ (by omega) p hp hcl t i (sz p i-r) (gvn p S) S.dn ms hm hil hgt2 (by omega) left hlt2 hl4) rfl rfl ?_
     rintro _ _ ⟨m2,(⟨hfn,hm2,rfl,rfl⟩|⟨hmo,hm2,rfl,rfl⟩)⟩
     ·have hrl:r≤left:=by omega
      have e:=(tk_some hcur r1 hrl).symm.trans hk
      rw [hgr]at hm2⊢
      (repeat' (conv=>whnf);first|refine aC ?_ ?_<;>intro<;>try omega|refine z2_T1 ?_|fail);all_goals try (conv=>whnf)
      exact⟨(left-r,S.fi i t,m2),[0,7,8,3,4],⟨by omega,hm2.up (by omega),fun c h=>(by cases h),fi_inv hp.a hi hcur,e,hv⟩,by dsimp only;omega,by dsimp only;rw [gvn_fi hi hcur,show((left-r:Nat):Int)=(left:Int)-r by omega];(exact aL)⟩
     ·have e:=(tk_more hcur hlt2 (by omega)).symm.trans hk
      (repeat' (conv=>whnf);first|refine aC ?_ ?_<;>intro<;>try omega|refine z2_T1 ?_|fail);all_goals try (conv=>whnf)
      exact⟨(0,S.cu (some (i,r-left)),m2),[0,7,2,3,4],⟨by omega,hm2.up (by dsimp only;omega),fun c h=>(by simp only [Option.some.injEq]at h;subst h;simp only;omega),cu_inv hi hcur,e,hv⟩,by dsimp only;omega,by dsimp only;rw [gvn_cu hi hcur,show(sz p i:Int)-((r-left:Nat):Int)=((sz p i-r+left:Nat):Int)by omega,show((0:Nat):Int)=(left:Int)-left by omega];(exact aL)⟩
    ·rw [hcur]
     have hcn:cI none= -1:=rfl
     rw [hcn]
     (repeat' (conv=>whnf);first|refine aC ?_ ?_<;>intro<;>try omega|refine z2_T1 ?_|fail);all_goals try (conv=>whnf)
     exact⟨(t+1,ms),[0,1,2,3,4],RnD.of hlt e hm (by omega) (fun c h=>by rw [hcur]at h;cases h),by dsimp only;omega,by dsimp only;rw [e,hcur];(exact aL)⟩
  ·obtain rfl:left=0:=by omega
   have e:run (prioC N) p c (t+1)=S:=by rw [←hk,tk]
   (repeat' (conv=>whnf);first|refine aC ?_ ?_<;>intro<;>try omega|refine z2_T1 ?_|fail);all_goals try (conv=>whnf)
   exact⟨(t+1,ms),[0,1,2,3,4],RnD.of hlt e hm (by omega) hq,by dsimp only;omega,by dsimp only;rw [e];(exact aL)⟩
 ·obtain rfl:T=t:=by omega
  (repeat' (conv=>whnf);first|refine aC ?_ ?_<;>intro<;>try omega|refine z1_T1 ?_|fail);all_goals try (conv=>whnf)
  refine .mk [.fz 2, .fm 3] ?_
  (repeat' (conv=>whnf);first|refine aC ?_ ?_<;>intro<;>try omega|refine z1_T1 ?_|fail);all_goals try (conv=>whnf)
  exact⟨rfl,_,⟨ms,by have:=hm.l;omega,rfl⟩,rfl⟩
end
end Go.Proofs.YtaomhdljcdadaaaGreat
