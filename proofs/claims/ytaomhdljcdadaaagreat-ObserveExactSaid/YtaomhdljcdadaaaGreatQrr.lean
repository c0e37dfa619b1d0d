/- Lemmas of this seat. Conditions: as stated. -/
import Derived.Test.YtaomhdljcdadaaaGreatQad
set_option linter.unusedVariables false
set_option linter.unusedSimpArgs false
set_option maxHeartbeats 2000000
set_option maxRecDepth 4000
namespace Go.Proofs.YtaomhdljcdadaaaGreat
section
open Go.Sx Go.Pk Go.Mc
theorem z2_Qrr {G H:Prop} (k:H) (h:H→G:=by first|exact fun r=>aS r|exact fun r=>aG r|exact fun r=>aH r|exact fun r=>aP_T1 r|exact fun r=>aI r|exact fun r=>aJ r):G:=h k
theorem DRunr_ok (p:List Pk) (c N T:Nat) (h:FitP p c N T) (wl:List Int) (hl:wl.length=N) (hwl:∀c,c<N→1≤wl.getD c 0∧wl.getD c 0≤20):
  Ctr Tryz.prog 124 [i64 c, .psl 1 (ints wl), .psl 3 (pks p),i64 T] [] (fun r o=>o=[]∧RunR p.length (run (robinC wl) p c T).dn r):=by
 refine fI 0 Tryz.func124 ?_
 have hp:=h.hp
 have hpl:=pks_len p
 have h60:=hp.l
 have hc:=h.c1;have hc2:=h.c2;have hN:=h.n1;have hN2:=h.n2;have hT:=h.t
 have hcl:=h.cl
 (repeat' (conv=>whnf);first|refine aC ?_ ?_<;>intro<;>try omega|refine z2_T1 ?_|fail);all_goals try (conv=>whnf)
 have hil0:=ints_len wl
 have hw:WgP wl N 6000:=⟨hl,fun c hc=>by have:=hwl c hc;omega⟩
 refine CallOb.mk [] (RBad_ok p c N T h) rfl ⟨Imp.refl _,Imp.num (by omega),Imp.refl _,Imp.refl _,trivial⟩ rfl rfl ?_
 rintro _ _ ⟨rfl,rfl⟩
 (repeat' (conv=>whnf);first|refine aC ?_ ?_<;>intro<;>try omega|refine z2_T1 ?_|fail);all_goals try (conv=>whnf)
 refine aK [] (RRightR_ok wl (by omega) fun c hc=>hwl c (by omega)) ?_
 (repeat' (conv=>whnf);first|refine aC ?_ ?_<;>intro<;>try omega|refine z2_T1 ?_|fail);all_goals try (conv=>whnf)
 refine CallOb.mk [] (RNew_ok N hN hN2 p hp.l) rfl ⟨Imp.num (by omega),Imp.refl _,trivial⟩ rfl rfl ?_
 rintro _ _ ⟨rfl,rfl⟩
 (repeat' (conv=>whnf);first|refine aC ?_ ?_<;>intro<;>try omega|refine z2_T1 ?_|fail);all_goals try (conv=>whnf)
 refine aK [] (RBegR_ok wl (by omega)) ?_
 (repeat' (conv=>whnf);first|refine aC ?_ ?_<;>intro<;>try omega|refine z2_T1 ?_|fail);all_goals try (conv=>whnf)
 have hil:=fun F=>ivs_len p.length F
 have hg0:ivs p.length (gvn p (run (robinC wl) p c 0))=ivs p.length (fun _=>0):=ivs_congr fun j hj=>rfl
 refine LoopOb.mk (Y:=Nat×List (List Int)) (st:=fun y=>⟨[(11, .ptr 4 0),(12, .ptr 5 0),(8, .ptr 0 0),(0,i64 c),(1, .psl 1 (ints wl)),(2, .psl 3 (pks p)),(3,i64 T)],[.box [.nil, .nil], .vec 1 (ivs p.length (gvn p (run (robinC wl) p c y.1))), .vec 1 (ivs p.length (run (robinC wl) p c y.1).dn), .mat 1 (mtz y.2), .box [i64 y.1, .vec 1,i64 (cI (run (robinC wl) p c y.1).cur), .vec 2, .vec 3], .box [i64 (((run (robinC wl) p c y.1).s :(robinC wl).σ):Nat×Int).1,i64 (((run (robinC wl) p c y.1).s :(robinC wl).σ):Nat×Int).2]]⟩)
  (inv:=fun y=>RnD (robinC wl) p c N T y.1 y.2) (fun y=>T-y.1) (0,rw0 N N) [0,1,2,3,5,6] ?_ ?_ ?_
 ·exact⟨Nat.zero_le _,by simpa using rw0_sn N,fun c h=>by cases h⟩
 ·dsimp only
  rw [hg0]
  (exact aL)
 rintro⟨t,ms⟩ hI
 dsimp only at hI⊢
 obtain⟨ht,hm,hq⟩:=hI
 have hinv:=run_inv (C:=(robinC wl)) (c:=c) hp.a t
 have hml:=(mtz_len ms).trans hm.l
 have hrch:=run_rch (C:=(robinC wl)) (p:=p) (c:=c) t
 by_cases hlt:t<T
 ·have hS:run (robinC wl) p c (t+1)=tk (robinC wl) p t c (run (robinC wl) p c t):=rfl
  generalize run (robinC wl) p c t=S at*
  (repeat' (conv=>whnf);first|refine aC ?_ ?_<;>intro<;>try omega|refine z2_T1 ?_|fail);all_goals try (conv=>whnf)
  refine aM [1,2,3] (RBegin_ok N t (by omega) (4000*t) (by omega) t (cI S.cur) p.length (gvn p S) S.dn ms hm hN hN2) rfl rfl ?_
  rintro _ _ ⟨m2,hm2,rfl,rfl⟩
  have hm3:Sn N (fun _=>t+2) (4000*(t+1)-c) m2:=⟨hm2.l,hm2.r,fun j hj q=>by have:=hm2.v j hj q;omega⟩
  (repeat' (conv=>whnf);first|refine aC ?_ ?_<;>intro<;>try omega|refine z2_T1 ?_|fail);all_goals try (conv=>whnf)
  refine LoopOb.mk (Y:=Nat×St (robinC wl).σ ×List (List Int)) (st:=fun y=>⟨[(13,i64 y.1),(11, .ptr 4 0),(12, .ptr 5 0),(8, .ptr 0 0),(0,i64 c),(1, .psl 1 (ints wl)),(2, .psl 3 (pks p)),(3,i64 T)],[.box [.nil, .nil], .vec 1 (ivs p.length (gvn p y.2.1)), .vec 1 (ivs p.length y.2.1.dn), .mat 1 (mtz y.2.2), .box [i64 t, .vec 1,i64 (cI y.2.1.cur), .vec 2, .vec 3], .box [i64 ((y.2.1.s:(robinC wl).σ):Nat×Int).1,i64 ((y.2.1.s:(robinC wl).σ):Nat×Int).2]]⟩)
   (inv:=fun y=>TkD (robinC wl) p c N t y.1 y.2.1 y.2.2) (fun y=>y.1) (c,S,m2) [0,1,2,7,4,5] ⟨hc2,hm3,hq,hinv.inT,hS.symm,hrch⟩ (by(exact aL)) ?_
  clear hS hinv hq hm3 hm hml hrch hm2
  clear m2 S ms
  rintro⟨left,S,ms⟩ hI
  dsimp only at hI⊢
  obtain⟨hl4,hm,hq,hi,hk,hv⟩:=hI
  have hml:=(mtz_len ms).trans hm.l
  by_cases hlt2:0<left
  ·(repeat' (conv=>whnf);first|refine aC ?_ ?_<;>intro<;>try omega|refine z2_Qrr ?_|fail);all_goals try (conv=>whnf)
   refine CutOb.cut (Y:=St (robinC wl).σ) (st:=fun S=>⟨[(13,i64 left),(11, .ptr 4 0),(12, .ptr 5 0),(8, .ptr 0 0),(0,i64 c),(1, .psl 1 (ints wl)),(2, .psl 3 (pks p)),(3,i64 T)],[.box [.nil, .nil], .vec 1 (ivs p.length (gvn p S)), .vec 1 (ivs p.length S.dn), .mat 1 (mtz ms), .box [i64 t, .vec 1,i64 (cI S.cur), .vec 2, .vec 3], .box [i64 ((S.s:(robinC wl).σ):Nat×Int).1,i64 ((S.s:(robinC wl).σ):Nat×Int).2]]⟩)
    (inv:=fun S=>(S.cur≠none∧TkD (robinC wl) p c N t left S ms)∨(S.cur=none∧run (robinC wl) p c (t+1)=S)) ?_ ?_
   ·cases hcur:S.cur with
    |some cc=>
     have hci:¬(cI (some cc)= -1):=by unfold cI;simp only;omega
     (repeat' (conv=>whnf);first|refine aC ?_ ?_<;>intro<;>try omega|refine z2_T1 ?_|fail);all_goals try (conv=>whnf)
     exact⟨S,[0,1,2,3,4,5], .inl ⟨by rw [hcur];simp,hl4,hm,hq,hi,hk,hv⟩,by rw [hcur];(exact aL)⟩
    |none=>
     have hcn:cI none= -1:=rfl
     rw [hcn]
     have hb:∀j,wt p t (bgO (gvn p S) (-1)) j=wt p t S.bg j:=fun j=>by rw [←wt_gvn hp hi hq,hcur];rfl
     obtain⟨s1,s2,s3⟩:=rob_rch hN hw hv
     cases hch:((robinC wl).ch p t left (wt p t S.bg) S.s).2 with
     |none=>
      have e:=hk.symm.trans (tk_non hcur hch hlt2)
      have hon:oI none= -1:=rfl
      have hf:fst (wt p t S.bg) p.length=none:=Classical.byContradiction fun hn=>by
       have:=rob_yes hN hw hcl (left:=left) s1 hn
       rw [←this.2]at this
       exact this.1 hch
      have e2:(robinC wl).ch p t left (wt p t S.bg) S.s=(S.s,none):=if_pos hf
      (repeat' (conv=>whnf);first|refine aC ?_ ?_<;>intro<;>try omega|refine z2_T1 ?_|fail);all_goals try (conv=>whnf)
      refine aK [1,2,3] (RFa_ok p (by omega) t (-1) (gvn p S) S.dn ms S.bg hb) ?_
      rw [hf,hon]
      (repeat' (conv=>whnf);first|refine aC ?_ ?_<;>intro<;>try omega|refine z2_T1 ?_|fail);all_goals try (conv=>whnf)
      exact⟨⟨((robinC wl).ch p t left (wt p t S.bg) S.s).1,none,S.bg,S.dn⟩,[0,1,2,3,4,5], .inr ⟨rfl,e⟩,by rw [gvn_non hcur,e2];(exact aL)⟩
     |some i=>
      have e:=hk.symm.trans (tk_new hcur hch hlt2)
      have hni:=new_inv hp.a hi hcur hch
      have hvs:=Rch.s (p:=p) (t:=t) (l:=left) (w:=wt p t S.bg) hv
      have hon:oI (some i)=i:=rfl
      obtain⟨w1,_⟩:=(robinC wl).sub (fun j hj=>(wt_iff.1 hj).1) hch
      obtain⟨w2,_,w3⟩:=wt_iff.1 w1
      have hgn:=gvn_new (p:=p) (S:=S) (s':=((robinC wl).ch p t left (wt p t S.bg) S.s).1) hcur w3
      have hf:fst (wt p t S.bg) p.length≠none:=fun hn=>by
       rw [show(robinC wl).ch p t left (wt p t S.bg) S.s=(S.s,none)from if_pos hn]at hch
       cases hch
      obtain⟨hne,e2⟩:=rob_yes hN hw hcl (left:=left) s1 hf
      obtain⟨i0,hi0⟩:=Option.ne_none_iff_exists'.1 hf
      have ho2:oI (some i0)=i0:=rfl
      (repeat' (conv=>whnf);first|refine aC ?_ ?_<;>intro<;>try omega|refine z2_T1 ?_|fail);all_goals try (conv=>whnf)
      refine aK [1,2,3] (RFa_ok p (by omega) t (-1) (gvn p S) S.dn ms S.bg hb) ?_
      rw [hi0,ho2]
      (repeat' (conv=>whnf);first|refine aC ?_ ?_<;>intro<;>try omega|refine z2_T1 ?_|fail);all_goals try (conv=>whnf)
      refine aK [1,2,3] (DChoR_ok p (by omega) wl N hN hN2 hw t (-1) (gvn p S) S.dn ms S.bg hb S.s s1 s2 s3 hne) ?_
      rw [←e2,hch,hon]
      (repeat' (conv=>whnf);first|refine aC ?_ ?_<;>intro<;>try omega|refine z2_T1 ?_|fail);all_goals try (conv=>whnf)
      exact⟨⟨((robinC wl).ch p t left (wt p t S.bg) S.s).1,some (i,sz p i),upd S.bg i true,S.dn⟩,[0,1,2,3,4,5],show _ from .inl ⟨by simp,hl4,hm,RqS.new hp w2,hni,e.symm,hvs⟩,by rw [hgn];(exact aL)⟩
   ·clear hq hi hk hv
    clear S
    rintro S (⟨hne,hl4,hm,hq,hi,hk,hv⟩|⟨hcur,e⟩)
    ·cases hcur:S.cur with
     |none=>exact absurd hcur hne
     |some cc=>
     obtain⟨i,r⟩:=cc
     obtain⟨r1,r2⟩:=hq _ hcur
     have hil:=(hi.b i (hi.c i r hcur).1).1
     have hci:cI (some (i,r))=i:=rfl
     have hgt:=gvn_at hi hcur
     have hgt2:gvn p S i=(sz p i-r:Nat):=by rw [hgt];dsimp only at r2;omega
     rw [hci]
     (repeat' (conv=>whnf);first|refine aC ?_ ?_<;>intro<;>try omega|refine z2_T1 ?_|fail);all_goals try (conv=>whnf)
     have hgr:sz p i-(sz p i-r)=r:=by dsimp only at r2;omega
     dsimp only at r1 r2
     refine aM [1,2,3] (RSend_ok N t hN2 (by omega) _ (by omega) p hp hcl t i (sz p i-r) (gvn p S) S.dn ms hm hil hgt2 (by omega) left hlt2 hl4) rfl rfl ?_
     rintro _ _ ⟨m2,(⟨hfn,hm2,rfl,rfl⟩|⟨hmo,hm2,rfl,rfl⟩)⟩
     ·have hrl:r≤left:=by omega
      have e:=(tk_some hcur r1 hrl).symm.trans hk
      rw [hgr]at hm2⊢
      (repeat' (conv=>whnf);first|refine aC ?_ ?_<;>intro<;>try omega|refine z2_T1 ?_|fail);all_goals try (conv=>whnf)
      exact⟨(left-r,S.fi i t,m2),[0,8,9,3,4,5],⟨by omega,hm2.up (by omega),fun c h=>(by cases h),fi_inv hp.a hi hcur,e,hv⟩,by dsimp only;omega,by dsimp only;rw [gvn_fi hi hcur,show((left-r:Nat):Int)=(left:Int)-r by omega];(exact aL)⟩
     ·have e:=(tk_more hcur hlt2 (by omega)).symm.trans hk
      (repeat' (conv=>whnf);first|refine aC ?_ ?_<;>intro<;>try omega|refine z2_T1 ?_|fail);all_goals try (conv=>whnf)
      exact⟨(0,S.cu (some (i,r-left)),m2),[0,8,2,3,4,5],⟨by omega,hm2.up (by dsimp only;omega),fun c h=>(by simp only [Option.some.injEq]at h;subst h;simp only;omega),cu_inv hi hcur,e,hv⟩,by dsimp only;omega,by dsimp only;rw [gvn_cu hi hcur,show(sz p i:Int)-((r-left:Nat):Int)=((sz p i-r+left:Nat):Int)by omega,show((0:Nat):Int)=(left:Int)-left by omega];(exact aL)⟩
    ·rw [hcur]
     have hcn:cI none= -1:=rfl
     rw [hcn]
     (repeat' (conv=>whnf);first|refine aC ?_ ?_<;>intro<;>try omega|refine z2_T1 ?_|fail);all_goals try (conv=>whnf)
     exact⟨(t+1,ms),[0,1,2,3,4,5],RnD.of hlt e hm (by omega) (fun c h=>by rw [hcur]at h;cases h),by dsimp only;omega,by dsimp only;rw [e,hcur];(exact aL)⟩
  ·obtain rfl:left=0:=by omega
   have e:run (robinC wl) p c (t+1)=S:=by rw [←hk,tk]
   (repeat' (conv=>whnf);first|refine aC ?_ ?_<;>intro<;>try omega|refine z2_T1 ?_|fail);all_goals try (conv=>whnf)
   exact⟨(t+1,ms),[0,1,2,3,4,5],RnD.of hlt e hm (by omega) hq,by dsimp only;omega,by dsimp only;rw [e];(exact aL)⟩
 ·obtain rfl:T=t:=by omega
  (repeat' (conv=>whnf);first|refine aC ?_ ?_<;>intro<;>try omega|refine z1_T1 ?_|fail);all_goals try (conv=>whnf)
  refine .mk [.fz 2, .fm 3] ?_
  (repeat' (conv=>whnf);first|refine aC ?_ ?_<;>intro<;>try omega|refine z1_T1 ?_|fail);all_goals try (conv=>whnf)
  exact⟨rfl,_,⟨ms,by have:=hm.l;omega,rfl⟩,rfl⟩
end
section
open Go.Sx Go.Pk Go.Mc
theorem DRund_ok (p:List Pk) (c N T:Nat) (h:FitP p c N T) (wl:List Int) (hl:wl.length=N) (hwl:∀c,c<N→1≤wl.getD c 0∧wl.getD c 0≤6000):
  Ctr Tryz.prog 125 [i64 c, .psl 1 (ints wl), .psl 3 (pks p),i64 T] [] (fun r o=>o=[]∧RunR p.length (run (defC wl) p c T).dn r):=by
 refine fI 0 Tryz.func125 ?_
 have hp:=h.hp
 have hpl:=pks_len p
 have h60:=hp.l
 have hc:=h.c1;have hc2:=h.c2;have hN:=h.n1;have hN2:=h.n2;have hT:=h.t
 have hcl:=h.cl
 (repeat' (conv=>whnf);first|refine aC ?_ ?_<;>intro<;>try omega|refine z2_T1 ?_|fail);all_goals try (conv=>whnf)
 have hil0:=ints_len wl
 have hw:QtP wl N:=⟨hl,hwl⟩
 refine CallOb.mk [] (RBad_ok p c N T h) rfl ⟨Imp.refl _,Imp.num (by omega),Imp.refl _,Imp.refl _,trivial⟩ rfl rfl ?_
 rintro _ _ ⟨rfl,rfl⟩
 (repeat' (conv=>whnf);first|refine aC ?_ ?_<;>intro<;>try omega|refine z2_T1 ?_|fail);all_goals try (conv=>whnf)
 refine aK [] (RRightD_ok wl (by omega) fun c hc=>hwl c (by omega)) ?_
 (repeat' (conv=>whnf);first|refine aC ?_ ?_<;>intro<;>try omega|refine z2_T1 ?_|fail);all_goals try (conv=>whnf)
 refine CallOb.mk [] (RNew_ok N hN hN2 p hp.l) rfl ⟨Imp.num (by omega),Imp.refl _,trivial⟩ rfl rfl ?_
 rintro _ _ ⟨rfl,rfl⟩
 (repeat' (conv=>whnf);first|refine aC ?_ ?_<;>intro<;>try omega|refine z2_T1 ?_|fail);all_goals try (conv=>whnf)
 refine aK [] (RBegD_ok wl (by omega)) ?_
 rw [hl]
 (repeat' (conv=>whnf);first|refine aC ?_ ?_<;>intro<;>try omega|refine z2_T1 ?_|fail);all_goals try (conv=>whnf)
 have hil:=fun F=>ivs_len p.length F
 have hg0:ivs p.length (gvn p (run (defC wl) p c 0))=ivs p.length (fun _=>0):=ivs_congr fun j hj=>rfl
 refine LoopOb.mk (Y:=Nat×List (List Int)) (st:=fun y=>⟨[(11, .ptr 4 0),(12, .ptr 5 0),(8, .ptr 0 0),(0,i64 c),(1, .psl 1 (ints wl)),(2, .psl 3 (pks p)),(3,i64 T)],[.box [.nil, .nil], .vec 1 (ivs p.length (gvn p (run (defC wl) p c y.1))), .vec 1 (ivs p.length (run (defC wl) p c y.1).dn), .mat 1 (mtz y.2), .box [i64 y.1, .vec 1,i64 (cI (run (defC wl) p c y.1).cur), .vec 2, .vec 3], .box [i64 (((run (defC wl) p c y.1).s :(defC wl).σ):Df).c, .bl (((run (defC wl) p c y.1).s :(defC wl).σ):Df).b, .vec 6], .vec 1 (ivs N (((run (defC wl) p c y.1).s :(defC wl).σ):Df).d)]⟩)
  (inv:=fun y=>RnD (defC wl) p c N T y.1 y.2) (fun y=>T-y.1) (0,rw0 N N) [0,1,2,3,5,8,7] ?_ ?_ ?_
 ·exact⟨Nat.zero_le _,by simpa using rw0_sn N,fun c h=>by cases h⟩
 ·dsimp only
  rw [hg0]
  (exact aL)
 rintro⟨t,ms⟩ hI
 dsimp only at hI⊢
 obtain⟨ht,hm,hq⟩:=hI
 have hinv:=run_inv (C:=(defC wl)) (c:=c) hp.a t
 have hml:=(mtz_len ms).trans hm.l
 have hrch:=run_rch (C:=(defC wl)) (p:=p) (c:=c) t
 by_cases hlt:t<T
 ·have hS:run (defC wl) p c (t+1)=tk (defC wl) p t c (run (defC wl) p c t):=rfl
  generalize run (defC wl) p c t=S at*
  (repeat' (conv=>whnf);first|refine aC ?_ ?_<;>intro<;>try omega|refine z2_T1 ?_|fail);all_goals try (conv=>whnf)
  refine aM [1,2,3] (RBegin_ok N t (by omega) (4000*t) (by omega) t (cI S.cur) p.length (gvn p S) S.dn ms hm hN hN2) rfl rfl ?_
  rintro _ _ ⟨m2,hm2,rfl,rfl⟩
  have hm3:Sn N (fun _=>t+2) (4000*(t+1)-c) m2:=⟨hm2.l,hm2.r,fun j hj q=>by have:=hm2.v j hj q;omega⟩
  (repeat' (conv=>whnf);first|refine aC ?_ ?_<;>intro<;>try omega|refine z2_T1 ?_|fail);all_goals try (conv=>whnf)
  refine LoopOb.mk (Y:=Nat×St (defC wl).σ ×List (List Int)) (st:=fun y=>⟨[(13,i64 y.1),(11, .ptr 4 0),(12, .ptr 5 0),(8, .ptr 0 0),(0,i64 c),(1, .psl 1 (ints wl)),(2, .psl 3 (pks p)),(3,i64 T)],[.box [.nil, .nil], .vec 1 (ivs p.length (gvn p y.2.1)), .vec 1 (ivs p.length y.2.1.dn), .mat 1 (mtz y.2.2), .box [i64 t, .vec 1,i64 (cI y.2.1.cur), .vec 2, .vec 3], .box [i64 ((y.2.1.s:(defC wl).σ):Df).c, .bl ((y.2.1.s:(defC wl).σ):Df).b, .vec 6], .vec 1 (ivs N ((y.2.1.s:(defC wl).σ):Df).d)]⟩)
   (inv:=fun y=>TkD (defC wl) p c N t y.1 y.2.1 y.2.2) (fun y=>y.1) (c,S,m2) [0,1,2,8,4,5,6] ⟨hc2,hm3,hq,hinv.inT,hS.symm,hrch⟩ (by(exact aL)) ?_
  clear hS hinv hq hm3 hm hml hrch hm2
  clear m2 S ms
  rintro⟨left,S,ms⟩ hI
  dsimp only at hI⊢
  obtain⟨hl4,hm,hq,hi,hk,hv⟩:=hI
  have hml:=(mtz_len ms).trans hm.l
  by_cases hlt2:0<left
  ·(repeat' (conv=>whnf);first|refine aC ?_ ?_<;>intro<;>try omega|refine z2_Qrr ?_|fail);all_goals try (conv=>whnf)
   refine CutOb.cut (Y:=St (defC wl).σ) (st:=fun S=>⟨[(13,i64 left),(11, .ptr 4 0),(12, .ptr 5 0),(8, .ptr 0 0),(0,i64 c),(1, .psl 1 (ints wl)),(2, .psl 3 (pks p)),(3,i64 T)],[.box [.nil, .nil], .vec 1 (ivs p.length (gvn p S)), .vec 1 (ivs p.length S.dn), .mat 1 (mtz ms), .box [i64 t, .vec 1,i64 (cI S.cur), .vec 2, .vec 3], .box [i64 ((S.s:(defC wl).σ):Df).c, .bl ((S.s:(defC wl).σ):Df).b, .vec 6], .vec 1 (ivs N ((S.s:(defC wl).σ):Df).d)]⟩)
    (inv:=fun S=>(S.cur≠none∧TkD (defC wl) p c N t left S ms)∨(S.cur=none∧run (defC wl) p c (t+1)=S)) ?_ ?_
   ·cases hcur:S.cur with
    |some cc=>
     have hci:¬(cI (some cc)= -1):=by unfold cI;simp only;omega
     (repeat' (conv=>whnf);first|refine aC ?_ ?_<;>intro<;>try omega|refine z2_T1 ?_|fail);all_goals try (conv=>whnf)
     exact⟨S,[0,1,2,3,4,5,6], .inl ⟨by rw [hcur];simp,hl4,hm,hq,hi,hk,hv⟩,by rw [hcur];(exact aL)⟩
    |none=>
     have hcn:cI none= -1:=rfl
     rw [hcn]
     have hb:∀j,wt p t (bgO (gvn p S) (-1)) j=wt p t S.bg j:=fun j=>by rw [←wt_gvn hp hi hq,hcur];rfl
     have s1:=dfc_rch hN hw hp hv
     cases hch:((defC wl).ch p t left (wt p t S.bg) S.s).2 with
     |none=>
      have e:=hk.symm.trans (tk_non hcur hch hlt2)
      have hon:oI none= -1:=rfl
      have hf:fst (wt p t S.bg) p.length=none:=Classical.byContradiction fun hn=>by
       have:=dfc_yes hp hN hw hcl (left:=left) s1 hn
       rw [←this.2]at this
       exact this.1 hch
      have e2:(defC wl).ch p t left (wt p t S.bg) S.s=(S.s,none):=if_pos hf
      (repeat' (conv=>whnf);first|refine aC ?_ ?_<;>intro<;>try omega|refine z2_T1 ?_|fail);all_goals try (conv=>whnf)
      refine aK [1,2,3] (RFa_ok p (by omega) t (-1) (gvn p S) S.dn ms S.bg hb) ?_
      rw [hf,hon]
      (repeat' (conv=>whnf);first|refine aC ?_ ?_<;>intro<;>try omega|refine z2_T1 ?_|fail);all_goals try (conv=>whnf)
      exact⟨⟨((defC wl).ch p t left (wt p t S.bg) S.s).1,none,S.bg,S.dn⟩,[0,1,2,3,4,5,6], .inr ⟨rfl,e⟩,by rw [gvn_non hcur,e2];(exact aL)⟩
     |some i=>
      have e:=hk.symm.trans (tk_new hcur hch hlt2)
      have hni:=new_inv hp.a hi hcur hch
      have hvs:=Rch.s (p:=p) (t:=t) (l:=left) (w:=wt p t S.bg) hv
      have hon:oI (some i)=i:=rfl
      obtain⟨w1,_⟩:=(defC wl).sub (fun j hj=>(wt_iff.1 hj).1) hch
      obtain⟨w2,_,w3⟩:=wt_iff.1 w1
      have hgn:=gvn_new (p:=p) (S:=S) (s':=((defC wl).ch p t left (wt p t S.bg) S.s).1) hcur w3
      have hf:fst (wt p t S.bg) p.length≠none:=fun hn=>by
       rw [show(defC wl).ch p t left (wt p t S.bg) S.s=(S.s,none)from if_pos hn]at hch
       cases hch
      obtain⟨hne,e2⟩:=dfc_yes hp hN hw hcl (left:=left) s1 hf
      obtain⟨i0,hi0⟩:=Option.ne_none_iff_exists'.1 hf
      have ho2:oI (some i0)=i0:=rfl
      (repeat' (conv=>whnf);first|refine aC ?_ ?_<;>intro<;>try omega|refine z2_T1 ?_|fail);all_goals try (conv=>whnf)
      refine aK [1,2,3] (RFa_ok p (by omega) t (-1) (gvn p S) S.dn ms S.bg hb) ?_
      rw [hi0,ho2]
      (repeat' (conv=>whnf);first|refine aC ?_ ?_<;>intro<;>try omega|refine z2_T1 ?_|fail);all_goals try (conv=>whnf)
      refine aK [1,2,3,6] (DChoD_ok p hp wl N hN hN2 hw t (-1) (gvn p S) S.dn ms S.bg hb (fuelD N 1500) S.s s1 hne) ?_
      rw [←e2,hch,hon]
      (repeat' (conv=>whnf);first|refine aC ?_ ?_<;>intro<;>try omega|refine z2_T1 ?_|fail);all_goals try (conv=>whnf)
      exact⟨⟨((defC wl).ch p t left (wt p t S.bg) S.s).1,some (i,sz p i),upd S.bg i true,S.dn⟩,[0,1,2,3,4,5,6],show _ from .inl ⟨by simp,hl4,hm,RqS.new hp w2,hni,e.symm,hvs⟩,by rw [hgn];(exact aL)⟩
   ·clear hq hi hk hv
    clear S
    rintro S (⟨hne,hl4,hm,hq,hi,hk,hv⟩|⟨hcur,e⟩)
    ·cases hcur:S.cur with
     |none=>exact absurd hcur hne
     |some cc=>
     obtain⟨i,r⟩:=cc
     obtain⟨r1,r2⟩:=hq _ hcur
     have hil:=(hi.b i (hi.c i r hcur).1).1
     have hci:cI (some (i,r))=i:=rfl
     have hgt:=gvn_at hi hcur
     have hgt2:gvn p S i=(sz p i-r:Nat):=by rw [hgt];dsimp only at r2;omega
     rw [hci]
     (repeat' (conv=>whnf);first|refine aC ?_ ?_<;>intro<;>try omega|refine z2_T1 ?_|fail);all_goals try (conv=>whnf)
     have hgr:sz p i-(sz p i-r)=r:=by dsimp only at r2;omega
     dsimp only at r1 r2
     refine aM [1,2,3] (RSend_ok N t hN2 (by omega) _ (by omega) p hp hcl t i (sz p i-r) (gvn p S) S.dn ms hm hil hgt2 (by omega) left hlt2 hl4) rfl rfl ?_
     rintro _ _ ⟨m2,(⟨hfn,hm2,rfl,rfl⟩|⟨hmo,hm2,rfl,rfl⟩)⟩
     ·have hrl:r≤left:=by omega
      have e:=(tk_some hcur r1 hrl).symm.trans hk
      rw [hgr]at hm2⊢
      (repeat' (conv=>whnf);first|refine aC ?_ ?_<;>intro<;>try omega|refine z2_T1 ?_|fail);all_goals try (conv=>whnf)
      exact⟨(left-r,S.fi i t,m2),[0,9,10,3,4,5,6],⟨by omega,hm2.up (by omega),fun c h=>(by cases h),fi_inv hp.a hi hcur,e,hv⟩,by dsimp only;omega,by dsimp only;rw [gvn_fi hi hcur,show((left-r:Nat):Int)=(left:Int)-r by omega];(exact aL)⟩
     ·have e:=(tk_more hcur hlt2 (by omega)).symm.trans hk
      (repeat' (conv=>whnf);first|refine aC ?_ ?_<;>intro<;>try omega|refine z2_T1 ?_|fail);all_goals try (conv=>whnf)
      exact⟨(0,S.cu (some (i,r-left)),m2),[0,9,2,3,4,5,6],⟨by omega,hm2.up (by dsimp only;omega),fun c h=>(by simp only [Option.some.injEq]at h;subst h;simp only;omega),cu_inv hi hcur,e,hv⟩,by dsimp only;omega,by dsimp only;rw [gvn_cu hi hcur,show(sz p i:Int)-((r-left:Nat):Int)=((sz p i-r+left:Nat):Int)by omega,show((0:Nat):Int)=(left:Int)-left by omega];(exact aL)⟩
    ·rw [hcur]
     have hcn:cI none= -1:=rfl
     rw [hcn]
     (repeat' (conv=>whnf);first|refine aC ?_ ?_<;>intro<;>try omega|refine z2_T1 ?_|fail);all_goals try (conv=>whnf)
     exact⟨(t+1,ms),[0,1,2,3,4,5,6],RnD.of hlt e hm (by omega) (fun c h=>by rw [hcur]at h;cases h),by dsimp only;omega,by dsimp only;rw [e,hcur];(exact aL)⟩
  ·obtain rfl:left=0:=by omega
   have e:run (defC wl) p c (t+1)=S:=by rw [←hk,tk]
   (repeat' (conv=>whnf);first|refine aC ?_ ?_<;>intro<;>try omega|refine z2_T1 ?_|fail);all_goals try (conv=>whnf)
   exact⟨(t+1,ms),[0,1,2,3,4,5,6],RnD.of hlt e hm (by omega) hq,by dsimp only;omega,by dsimp only;rw [e];(exact aL)⟩
 ·obtain rfl:T=t:=by omega
  (repeat' (conv=>whnf);first|refine aC ?_ ?_<;>intro<;>try omega|refine z1_T1 ?_|fail);all_goals try (conv=>whnf)
  refine .mk [.fz 2, .fm 3] ?_
  (repeat' (conv=>whnf);first|refine aC ?_ ?_<;>intro<;>try omega|refine z1_T1 ?_|fail);all_goals try (conv=>whnf)
  exact⟨rfl,_,⟨ms,by have:=hm.l;omega,rfl⟩,rfl⟩
end
end Go.Proofs.YtaomhdljcdadaaaGreat
