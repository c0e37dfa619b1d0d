/- Lemmas of this seat. Conditions: as stated. -/
import Derived.Test.YtjhmjiimpmmnhaaGreatS2d
set_option linter.unusedVariables false
set_option linter.unusedSimpArgs false
set_option maxHeartbeats 2000000
set_option maxRecDepth 4000
namespace Go.Proofs.YtjhmjiimpmmnhaaGreat
open Go.Sx Go.Pk Go.Mc
theorem z3_S3d {G H:Prop} (k:H) (h:H→G:=by first|exact fun r=>aS r|exact fun r=>aG r|exact fun r=>aD r|exact fun r=>aP_R1 r|exact fun r=>aI r|exact fun r=>aJ r|exact fun r=>aW (.qs [0,1,2,3,4] (.l 5 [1] (.qs [6] (.l 7 [] .nil .no)) .no)) r|exact fun r=>aW (.qs [0,1,2,3,4,5,6,7,8,9,10,11,12,13,14,15] (.l 16 [7,4,1] (.l 17 [1] (.qs [18] (.l 19 [] .nil .no)) .no) .no)) r|exact fun r=>aW (.qs [0,1,2,3,4,5,6,7,8,9,10] (.l 11 [] (.qs [12] .nil) .no)) r|exact fun r=>aW (.qs [0,1,2,3,4,5,6,7,8,9,10,11,12,13,14,15] (.l 16 [] .nil .no)) r):G:=h k
theorem z2_S3d {G H:Prop} (k:H) (h:H→G:=by first|exact fun r=>aS r|exact fun r=>aG r|exact fun r=>aH r|exact fun r=>aP_R1 r|exact fun r=>aI r|exact fun r=>aJ r|exact fun r=>aW (.qs [0,1,2,3,4] (.l 5 [1] (.qs [6] (.l 7 [] .nil .no)) .no)) r|exact fun r=>aW (.qs [0,1,2,3,4,5,6,7,8,9,10,11,12,13,14,15] (.l 16 [7,4,1] (.l 17 [1] (.qs [18] (.l 19 [] .nil .no)) .no) .no)) r|exact fun r=>aW (.qs [0,1,2,3,4,5,6,7,8,9,10] (.l 11 [] (.qs [12] .nil) .no)) r|exact fun r=>aW (.qs [0,1,2,3,4,5,6,7,8,9,10,11,12,13,14,15] (.l 16 [] .nil .no)) r):G:=h k
theorem z1_S3d {G H:Prop} (k:H) (h:H→G:=by first|exact fun r=>aS r|exact fun r=>aG r|exact fun r=>aD r|exact fun r=>aH r|exact fun r=>aP_R1 r|exact fun r=>aI r|exact fun r=>aJ r|exact fun r=>aW (.qs [0,1,2,3,4] (.l 5 [1] (.qs [6] (.l 7 [] .nil .no)) .no)) r|exact fun r=>aW (.qs [0,1,2,3,4,5,6,7,8,9,10,11,12,13,14,15] (.l 16 [7,4,1] (.l 17 [1] (.qs [18] (.l 19 [] .nil .no)) .no) .no)) r|exact fun r=>aW (.qs [0,1,2,3,4,5,6,7,8,9,10] (.l 11 [] (.qs [12] .nil) .no)) r|exact fun r=>aW (.qs [0,1,2,3,4,5,6,7,8,9,10,11,12,13,14,15] (.l 16 [] .nil .no)) r):G:=h k
theorem MRund_ok (p:List Pk) (hp:PL p) (c N T:Nat) (hc:1≤c) (hc2:c≤4000) (hN:1≤N) (hN2:N≤6) (hcl:∀i,i<p.length→0≤cl p i∧cl p i<N) (hT:T≤2000) (ql:List Int) (hql:QtP ql N):
  Ctr Tryz.prog 247 [i64 c,i64 N, .psl 3 (pks p),i64 T, .fnb 270 [.ptr 0 0]] [.box [.psl 1 (ints ql), .vec 1,i64 ((((defC ql)).s0 :(defC ql).σ):Df).c, .bl ((((defC ql)).s0 :(defC ql).σ):Df).b], .vec 1 (ivs N ((((defC ql)).s0 :(defC ql).σ):Df).d)] (fun r o=>(∃s:Df,o=[.box [.psl 1 (ints ql), .vec 1,i64 s.c, .bl s.b], .vec 1 (ivs N s.d)])∧RunV p.length (run (defC ql) p c T).dn r):=by
 refine fI 2 Tryz.func247 ?_
 have hpl:=pks_len p
 have h60:=hp.l
 (repeat' (conv=>whnf);first|refine aC ?_ ?_<;>intro<;>try omega|refine aS ?_|refine aG ?_|refine aD ?_|refine aH ?_|refine aP_R1 ?_|refine aI ?_|refine aJ ?_|refine⟨_,_,rfl,rfl,Nat.le_refl _,⟨by(simp only;omega),by omega⟩,?_⟩|refine aW (.qs [0,1,2,3,4] (.l 5 [1] (.qs [6] (.l 7 [] .nil .no)) .no)) ?_|refine aW (.qs [0,1,2,3,4,5,6,7,8,9,10,11,12,13,14,15] (.l 16 [7,4,1] (.l 17 [1] (.qs [18] (.l 19 [] .nil .no)) .no) .no)) ?_|refine aW (.qs [0,1,2,3,4,5,6,7,8,9,10] (.l 11 [] (.qs [12] .nil) .no)) ?_|refine aW (.qs [0,1,2,3,4,5,6,7,8,9,10,11,12,13,14,15] (.l 16 [] .nil .no)) ?_|fail);all_goals try (conv=>whnf)
 refine DrawOb.cut [] (.qs [0,1,3] (.l 2 [] (.l 4 [] (.qs [5] (.l 6 [] (.l 7 [] .nil .no) .no)) (.l 6 [] (.l 4 [] (.qs [5] (.l 7 [] .nil .no)) .no) .no)) (.l 4 [] (.l 2 [] (.qs [5] (.l 6 [] (.l 7 [] .nil .no) .no)) (.l 6 [] (.l 2 [] (.qs [5] (.l 7 [] .nil .no)) .no) .no)) (.l 6 [] (.l 2 [] (.l 4 [] (.qs [5] (.l 7 [] .nil .no)) .no) (.l 4 [] (.l 2 [] (.qs [5] (.l 7 [] .nil .no)) .no) .no)) .no)))) (Y:=Unit) (st:=fun _=>⟨[(11, .ptr 3 0),(10, .ptr 2 0),(0,i64 c),(1,i64 N),(2, .psl 3 (pks p)),(3,i64 T),(4, .fnb 270 [.ptr 0 0])],[.box [.psl 1 (ints ql), .vec 1,i64 (((defC ql).s0 :(defC ql).σ):Df).c, .bl (((defC ql).s0 :(defC ql).σ):Df).b], .vec 1 (ivs N (((defC ql).s0 :(defC ql).σ):Df).d), .box [.nil, .nil], .box [.vec 4, .vec 5], .vec 1 (List.replicate (pks p).length [i64 0]), .mat 1 (List.replicate N [])]⟩) (inv:=fun _=>True) (by decide+kernel) ?_ ?_
 ·(repeat' (conv=>whnf);first|refine And.intro ?_ ?_|refine MakeOb.mat ?_|refine aC ?_ ?_<;>intro<;>try omega|refine aS ?_|refine aG ?_|refine aD ?_|refine aH ?_|refine aP_R1 ?_|refine aI ?_|refine aJ ?_|refine⟨_,_,rfl,rfl,Nat.le_refl _,⟨by(simp only;omega),by omega⟩,?_⟩|refine aW (.qs [0,1,2,3,4] (.l 5 [1] (.qs [6] (.l 7 [] .nil .no)) .no)) ?_|refine aW (.qs [0,1,2,3,4,5,6,7,8,9,10,11,12,13,14,15] (.l 16 [7,4,1] (.l 17 [1] (.qs [18] (.l 19 [] .nil .no)) .no) .no)) ?_|refine aW (.qs [0,1,2,3,4,5,6,7,8,9,10] (.l 11 [] (.qs [12] .nil) .no)) ?_|refine aW (.qs [0,1,2,3,4,5,6,7,8,9,10,11,12,13,14,15] (.l 16 [] .nil .no)) ?_|fail);all_goals try (conv=>whnf)
  ·exact⟨(),[0,1,2,5,3,4],trivial,by(exact aL)⟩
  ·exact⟨(),[0,1,2,4,3,5],trivial,by(exact aL)⟩
  ·exact⟨(),[0,1,2,5,4,3],trivial,by(exact aL)⟩
  ·exact⟨(),[0,1,2,4,5,3],trivial,by(exact aL)⟩
  ·exact⟨(),[0,1,2,3,4,5],trivial,by(exact aL)⟩
  ·exact⟨(),[0,1,2,3,5,4],trivial,by(exact aL)⟩
 rintro _ _
 rw [ivs_rep,pks_len]
 have hil:=fun F=>ivs_len p.length F
 (repeat' (conv=>whnf);first|refine aC ?_ ?_<;>intro<;>try omega|refine z1_S3d ?_|fail);all_goals try (conv=>whnf)
 rw [←neg_zero,rw0_zero]
 refine LoopOb.mk (Y:=Nat) (st:=fun i=>⟨[(29,i64 i),(28,i64 (ivs p.length (neg 0)).length),(11, .ptr 3 0),(10, .ptr 2 0),(0,i64 c),(1,i64 N),(2, .psl 3 (pks p)),(3,i64 T),(4, .fnb 270 [.ptr 0 0])],[.box [.psl 1 (ints ql), .vec 1,i64 (((defC ql).s0 :(defC ql).σ):Df).c, .bl (((defC ql).s0 :(defC ql).σ):Df).b], .vec 1 (ivs N (((defC ql).s0 :(defC ql).σ):Df).d), .box [.nil, .nil], .box [.vec 4, .vec 5], .vec 1 (ivs p.length (neg i)), .mat 1 (mtz (rw0 N 0))]⟩)
  (inv:=fun i=>i≤p.length) (fun i=>p.length-i) 0 [0,1,2,3,4,5] (by omega) (by(exact aL)) ?_
 rintro i hi
 have hi0:=hil (neg 0)
 have hi1:=hil (neg i)
 (repeat' (conv=>whnf);first|refine z1_S3d ?_|fail);all_goals try (conv=>whnf)
 refine CondOb.mk (fun hlt=>?_) (fun hlt=>?_)
 ·have hlt':i<p.length:=by omega
  (repeat' (conv=>whnf);first|refine aC ?_ ?_<;>intro<;>try omega|refine z1_S3d ?_|refine⟨i,rfl,by omega,?_⟩|refine⟨_,ivs_get hlt',?_⟩|fail);all_goals try (conv=>whnf)
  exact⟨i+1,[0,1,2,3,4,5],by omega,by omega,by rw [←neg_set];(exact aL)⟩
 have e:i=p.length:=by omega
 subst e
 rw [neg_all]
 clear hi0 hi1 hi hlt
 have hrl:=fun k=>(mtz_len (rw0 N k)).trans (rw0_len N k)
 (repeat' (conv=>whnf);first|refine aC ?_ ?_<;>intro<;>try omega|refine z1_S3d ?_|fail);all_goals try (conv=>whnf)
 refine LoopOb.mk (Y:=Nat) (st:=fun k=>⟨[(40,i64 k),(39,i64 (mtz (rw0 N 0)).length),(11, .ptr 3 0),(10, .ptr 2 0),(0,i64 c),(1,i64 N),(2, .psl 3 (pks p)),(3,i64 T),(4, .fnb 270 [.ptr 0 0])],[.box [.psl 1 (ints ql), .vec 1,i64 (((defC ql).s0 :(defC ql).σ):Df).c, .bl (((defC ql).s0 :(defC ql).σ):Df).b], .vec 1 (ivs N (((defC ql).s0 :(defC ql).σ):Df).d), .box [.nil, .nil], .box [.vec 4, .vec 5], .vec 1 (ivs p.length fun _=> -1), .mat 1 (mtz (rw0 N k))]⟩)
  (inv:=fun k=>k≤N) (fun k=>N-k) 0 [0,1,2,3,4,5] (by omega) (by(exact aL)) ?_
 rintro k hk
 have hr0:=hrl 0
 have hrk:=hrl k
 (repeat' (conv=>whnf);first|refine z1_S3d ?_|fail);all_goals try (conv=>whnf)
 refine CondOb.mk (fun hlt=>?_) (fun hlt=>?_)
 ·have hlt':k<N:=by omega
  (repeat' (conv=>whnf);first|refine⟨1,T+1,rfl,by omega,by omega,⟨by simp only;omega,by omega⟩,?_⟩|refine aC ?_ ?_<;>intro<;>try omega|refine z1_S3d ?_|refine⟨k,rfl,by omega,?_⟩|refine And.intro (show k<_ by omega) ?_|fail);all_goals try (conv=>whnf)
  exact⟨k+1,[0,1,2,3,4,7],by omega,by omega,by rw [←rw0_set];(exact aL)⟩
 obtain rfl:N=k:=by omega
 clear hr0 hrk hk hlt
 (repeat' (conv=>whnf);first|refine aC ?_ ?_<;>intro<;>try omega|refine aS ?_|refine aG ?_|refine aD ?_|refine aH ?_|refine aP_R1 ?_|refine aI ?_|refine aJ ?_|refine⟨_,_,rfl,rfl,Nat.le_refl _,⟨by(simp only;omega),by omega⟩,?_⟩|refine aW (.qs [0,1,2,3,4] (.l 5 [1] (.qs [6] (.l 7 [] .nil .no)) .no)) ?_|refine aW (.qs [0,1,2,3,4,5,6,7,8,9,10,11,12,13,14,15] (.l 16 [7,4,1] (.l 17 [1] (.qs [18] (.l 19 [] .nil .no)) .no) .no)) ?_|refine aW (.qs [0,1,2,3,4,5,6,7,8,9,10] (.l 11 [] (.qs [12] .nil) .no)) ?_|refine aW (.qs [0,1,2,3,4,5,6,7,8,9,10,11,12,13,14,15] (.l 16 [] .nil .no)) ?_|fail);all_goals try (conv=>whnf)
 refine LoopOb.mk (Y:=Nat×Nat×List (List Int)×Int×Int) (st:=fun y=>⟨[(58,i64 y.1),(57,i64 T),(15,i64 (cI (run (defC ql) p c y.1).cur)),(16,i64 (cR (run (defC ql) p c y.1).cur)),(14, .ptr 7 0),(11, .ptr 3 0),(10, .ptr 2 0),(0,i64 c),(1,i64 N),(2, .psl 3 (pks p)),(3,i64 T),(4, .fnb 270 [.ptr 0 0])],[.box [.psl 1 (ints ql), .vec 1,i64 (((run (defC ql) p c y.1).s :(defC ql).σ):Df).c, .bl (((run (defC ql) p c y.1).s :(defC ql).σ):Df).b], .vec 1 (ivs N (((run (defC ql) p c y.1).s :(defC ql).σ):Df).d), .box [.nil, .nil], .box [.vec 4, .vec 5], .vec 1 (ivs p.length (run (defC ql) p c y.1).dn), .mat 1 (mtz y.2.2.1), .vec 1 (bls p.length (run (defC ql) p c y.1).bg), .box [i64 y.2.2.2.1,i64 y.2.2.2.2, .psl 3 (pks p), .vec 6,i64 y.2.1]]⟩)
  (inv:=fun y=>RunI (defC ql) p c N T y.1 y.2.1 y.2.2.1) (fun y=>T-y.1) (0,0,rw0 N N,0,0) [0,1,2,3,4,5,6,7] ?_ ?_ ?_
 ·exact⟨Nat.zero_le _,⟨Nat.zero_le _,fun j h=>by dsimp only at h;omega⟩,by simpa using rw0_sn N,fun c h=>by cases h⟩
 ·have hb0:bls p.length (run (defC ql) p c 0).bg =List.replicate (pks p).length [SV.bl false]:=by rw [pks_len,bls_rep];rfl
  dsimp only
  rw [hb0]
  (exact aL)
 rintro⟨t,bef,ms,sa,sb⟩ hI
 dsimp only at hI⊢
 obtain⟨ht,hB,hm,hq⟩:=hI
 have hinv:=run_inv (C:=(defC ql)) (c:=c) hp.a t
 have hml:=(mtz_len ms).trans hm.l
 have hrch:=run_rch (C:=(defC ql)) (p:=p) (c:=c) t
 (repeat' (conv=>whnf);first|refine z1_S3d ?_|fail);all_goals try (conv=>whnf)
 refine CondOb.mk (fun hlt=>?_) (fun hlt=>?_)
 ·have htT:t<T:=by omega
  have hS:run (defC ql) p c (t+1)=tk (defC ql) p t c (run (defC ql) p c t):=rfl
  generalize run (defC ql) p c t=S at*
  (repeat' (conv=>whnf);first|refine aC ?_ ?_<;>intro<;>try omega|refine z1_S3d ?_|fail);all_goals try (conv=>whnf)
  have hml0:=hml
  refine LoopOb.mk (Y:=Nat×List (List Int)) (st:=fun y=>⟨[(72,i64 y.1),(71,i64 (mtz ms).length),(17,i64 t),(58,i64 t),(57,i64 T),(15,i64 (cI S.cur)),(16,i64 (cR S.cur)),(14, .ptr 7 0),(11, .ptr 3 0),(10, .ptr 2 0),(0,i64 c),(1,i64 N),(2, .psl 3 (pks p)),(3,i64 T),(4, .fnb 270 [.ptr 0 0])],[.box [.psl 1 (ints ql), .vec 1,i64 ((S.s:(defC ql).σ):Df).c, .bl ((S.s:(defC ql).σ):Df).b], .vec 1 (ivs N ((S.s:(defC ql).σ):Df).d), .box [.nil, .nil], .box [.vec 4, .vec 5], .vec 1 (ivs p.length S.dn), .mat 1 (mtz y.2), .vec 1 (bls p.length S.bg), .box [i64 t,i64 c, .psl 3 (pks p), .vec 6,i64 bef]]⟩)
   (inv:=fun y=>y.1≤N∧Sn N (fun j=>if j<y.1 then t+2 else t+1) (4000*t) y.2) (fun y=>N-y.1) (0,ms) [0,1,2,3,4,5,6,7] ⟨Nat.zero_le _,by simpa using hm⟩ (by(exact aL)) ?_
  rintro⟨k,m2⟩ ⟨hk,hm2⟩
  dsimp only at hk hm2⊢
  have hml2:=(mtz_len m2).trans hm2.l
  (repeat' (conv=>whnf);first|refine z1_S3d ?_|fail);all_goals try (conv=>whnf)
  refine CondOb.mk (fun hlt2=>?_) (fun hlt2=>?_)
  ·have hkN:k<N:=by omega
   have hgr:=mtz_get (ms:=m2) (c:=k) (by have:=hm2.l;omega)
   have hrl:=hm2.r k hkN
   rw [if_neg (by omega)]at hrl
   have hrv:=hm2.v k hkN
   have hst:=fun r h1 h3=>hm2.set (B':=4000*t) (len':=fun j=>if j<k+1 then t+2 else t+1) (Int.le_refl _) hkN (r:=r) h1 (fun j hj=>by
    by_cases h:j<k
    ·rw [if_pos h,if_pos (by omega)]
    ·rw [if_neg h,if_neg (by omega)]) h3
   generalize m2.getD k []=row at*
   have hil2:=ints_len row
   have hgv:=ints_get (l:=row) (j:=t) (by omega)
   generalize hv:row.getD t 0=v at*
   (repeat' (conv=>whnf);first|refine DrawOb.re [] (.qs [0,1,2,3,4,5,6,7,8,9,10,11,12,13,14,15] (.l 16 [7,4,1] (.l 17 [1] (.qs [18] (.l 19 [] .nil .no)) .no) .no)) (by decide+kernel) ?_|refine aC ?_ ?_<;>intro<;>try omega|refine z1_S3d ?_|refine And.intro ⟨rfl,rfl⟩ ?_|refine⟨k,rfl,by omega,?_⟩|refine And.intro (show k<(mtz m2).length by omega) ?_|refine⟨t,_,rfl,hgr,by omega,?_⟩|refine⟨_,_,hgr,hgv,?_⟩|refine⟨_,hgr,?_⟩|refine And.intro (rfl:k=k) ?_|fail);all_goals try (conv=>whnf)
   have h1:(row++[v]).length =if k<k+1 then t+2 else t+1:=by rw [if_pos (by omega),List.length_append,List.length_singleton];omega
   have h3:∀j,0≤(row++[v]).getD j 0∧(row++[v]).getD j 0≤4000*t:=fun j=>by
    rw [getD_app]
    split
    ·exact hrv j
    ·split
     ·rw [←hv];exact hrv t
     ·omega
   exact⟨(k+1,m2.set k (row++[v])),[0,1,2,3,4,12,6,7],⟨by dsimp only;omega,hst _ h1 h3⟩,by dsimp only;omega,by rw [←mtz_set,show ints (row++[v])=ints row++[[i64 v]]by simp [ints]];(exact aL)⟩
  ·obtain rfl:N=k:=by omega
   clear hml2 hk hlt2 hml0
   have hm3:Sn N (fun _=>t+2) (4000*(t+1)-c) m2:=⟨hm2.l,fun j hj=>by rw [hm2.r j hj,if_pos hj],fun j hj q=>by have:=hm2.v j hj q;omega⟩
   clear hm2
   (repeat' (conv=>whnf);first|refine aC ?_ ?_<;>intro<;>try omega|refine z1_S3d ?_|fail);all_goals try (conv=>whnf)
   refine LoopOb.mk (Y:=Nat×Nat×St ((defC ql)).σ ×List (List Int)) (st:=fun y=>⟨[(17,i64 t),(58,i64 t),(57,i64 T),(15,i64 (cI y.2.2.1.cur)),(16,i64 (cR y.2.2.1.cur)),(14, .ptr 7 0),(11, .ptr 3 0),(10, .ptr 2 0),(0,i64 c),(1,i64 N),(2, .psl 3 (pks p)),(3,i64 T),(4, .fnb 270 [.ptr 0 0])],[.box [.psl 1 (ints ql), .vec 1,i64 ((y.2.2.1.s:(defC ql).σ):Df).c, .bl ((y.2.2.1.s:(defC ql).σ):Df).b], .vec 1 (ivs N ((y.2.2.1.s:(defC ql).σ):Df).d), .box [.nil, .nil], .box [.vec 4, .vec 5], .vec 1 (ivs p.length y.2.2.1.dn), .mat 1 (mtz y.2.2.2), .vec 1 (bls p.length y.2.2.1.bg), .box [i64 t,i64 y.1, .psl 3 (pks p), .vec 6,i64 y.2.1]]⟩)
    (inv:=fun y=>TkI (defC ql) p c N t y.1 y.2.1 y.2.2.1 y.2.2.2) (fun y=>y.1) (c,bef,S,m2) [0,1,2,3,4,5,6,7] ⟨hc2,hB,hm3,hq,hinv.inT,hS.symm,hrch⟩ (by(exact aL)) ?_
   clear hS hinv hq hB hm3 hm hml hrch
   clear m2 S bef ms
   rintro⟨left,bef,S,ms⟩ hI
   dsimp only at hI⊢
   obtain⟨hl4,hB,hm,hq,hi,hk,hv⟩:=hI
   have hml:=(mtz_len ms).trans hm.l
   have hil3:=ivs_len p.length S.dn
   have hbl3:=bls_len p.length S.bg
   (repeat' (conv=>whnf);first|refine z1_S3d ?_|fail);all_goals try (conv=>whnf)
   refine CondOb.mk (fun hlt2=>?_) (fun hlt2=>?_)
   ·have h1l:1≤left:=by omega
    (repeat' (conv=>whnf);first|refine aC ?_ ?_<;>intro _|refine z2_S3d ?_|fail);all_goals try (conv=>whnf)
    refine CutOb.cut (Y:=Nat×St ((defC ql)).σ) (st:=fun y=>⟨[(17,i64 t),(58,i64 t),(57,i64 T),(15,i64 (cI y.2.cur)),(16,i64 (cR y.2.cur)),(14, .ptr 7 0),(11, .ptr 3 0),(10, .ptr 2 0),(0,i64 c),(1,i64 N),(2, .psl 3 (pks p)),(3,i64 T),(4, .fnb 270 [.ptr 0 0])],[.box [.psl 1 (ints ql), .vec 1,i64 ((y.2.s:(defC ql).σ):Df).c, .bl ((y.2.s:(defC ql).σ):Df).b], .vec 1 (ivs N ((y.2.s:(defC ql).σ):Df).d), .box [.nil, .nil], .box [.vec 4, .vec 5], .vec 1 (ivs p.length y.2.dn), .mat 1 (mtz ms), .vec 1 (bls p.length y.2.bg), .box [i64 t,i64 left, .psl 3 (pks p), .vec 6,i64 y.1]]⟩)
     (inv:=fun y=>TkI (defC ql) p c N t left y.1 y.2 ms∧y.2.cur≠none) ?_ ?_
    ·cases hcur:S.cur with
     |some cc=>
      have hci:¬(cI (some cc)<0):=by unfold cI;simp only;omega
      (repeat' (conv=>whnf);first|refine aC ?_ ?_<;>intro<;>try omega|refine z1_S3d ?_|fail);all_goals try (conv=>whnf)
      exact⟨(bef,S),[0,1,2,3,4,5,6,7],⟨⟨hl4,hB,hm,hq,hi,hk,hv⟩,by dsimp only;rw [hcur];simp⟩,by dsimp only;rw [hcur];(exact aL)⟩
     |none=>
      have hcn:cI none= -1:=rfl
      have hrn:cR none=0:=rfl
      cases hch:(((defC ql)).ch p t left (wt p t S.bg) S.s).2 with
      |none=>
       have e:=hk.symm.trans (tk_non hcur hch h1l)
       have hon:oI none= -1:=rfl
       (repeat' (conv=>whnf);first|refine aC ?_ ?_<;>intro<;>try omega|refine z1_S3d ?_|(refine CallOb.mk [7,6,0,1] (ChoD_ok p hp ql N hN hN2 hql hcl t left S.bg S.s hv bef hB) rfl ⟨Imp.refl _,Imp.refl _,trivial⟩ rfl rfl ?_;rintro _ _ ⟨b2,hB2,rfl,rfl⟩;rw [hch,hon])|fail);all_goals try (conv=>whnf)
       exact⟨(t+1,b2,ms,t,left),[0,1,2,3,4,5,6,7],RunI.of htT e hB2 hm (by omega) (fun c h=>by cases h),by dsimp only;omega,by dsimp only;rw [e,←hon];(exact aL)⟩
      |some i=>
       have e:=hk.symm.trans (tk_new hcur hch h1l)
       have hni:=new_inv hp.a hi hcur hch
       have hvs:=Rch.s (p:=p) (t:=t) (l:=left) (w:=wt p t S.bg) hv
       obtain⟨w1,_⟩:=((defC ql)).sub (fun j hj=>(wt_iff.1 hj).1) hch
       have hil:=(wt_iff.1 w1).1
       have hgp:=pks_get hil
       have hgb:=bls_get (f:=S.bg) hil
       obtain⟨z1,z2⟩:=hp.s i hil
       have hzI:((sz p i:Nat):Int)=(p.getD i pk0).s :=by unfold sz;omega
       have hsb:∀b2,Bf p S.bg b2→Bf p (upd S.bg i true) b2:=fun b2 h=>⟨h.l,fun j hj=>by
        by_cases e:j=i
        ·subst e;exact upd_same
        ·rw [upd_ne e];exact h.b j hj⟩
       have hqn:Rq (⟨(((defC ql)).ch p t left (wt p t S.bg) S.s).1,some (i,sz p i),upd S.bg i true,S.dn⟩:St ((defC ql)).σ):=fun c h=>by
        simp only [Option.some.injEq]at h
        subst h
        simp only;omega
       generalize p.getD i pk0=x at*
       have hon:oI (some i)=i:=rfl
       (repeat' (conv=>whnf);first|refine⟨i,_,rfl,hgp,?_⟩|refine aC ?_ ?_<;>intro<;>try omega|refine z1_S3d ?_|(refine CallOb.mk [7,6,0,1] (ChoD_ok p hp ql N hN hN2 hql hcl t left S.bg S.s hv bef hB) rfl ⟨Imp.refl _,Imp.refl _,trivial⟩ rfl rfl ?_;rintro _ _ ⟨b2,hB2,rfl,rfl⟩;rw [hch,hon])|refine⟨i,rfl,by omega,?_⟩|refine⟨_,hgb,?_⟩|fail);all_goals try (conv=>whnf)
       exact⟨(b2,⟨(((defC ql)).ch p t left (wt p t S.bg) S.s).1,some (i,sz p i),upd S.bg i true,S.dn⟩),[0,1,2,3,4,5,6,7],⟨⟨hl4,hsb _ hB2,hm,hqn,hni,e.symm,hvs⟩,by dsimp only;simp⟩,by dsimp only;rw [←bls_set,show cR (some (i,sz p i))=x.s from hzI];(exact aL)⟩
    ·clear hB hm hq hi hk hml hil3 hbl3 hl4 hv
     clear S bef
     rintro⟨b2,S⟩ ⟨⟨hl4,hB,hm,hq,hi,hk,hv⟩,hne⟩
     dsimp only at hl4 hB hm hq hi hk hne⊢
     have hml:=(mtz_len ms).trans hm.l
     have hil3:=ivs_len p.length S.dn
     cases hcur:S.cur with
     |none=>exact absurd hcur hne
     |some cc=>
     obtain⟨i,r⟩:=cc
     obtain⟨r1,r2⟩:=hq _ hcur
     obtain⟨g1,g2⟩:=hi.c i r hcur
     have hil:=(hi.b i g1).1
     have hgp:=pks_get hil
     obtain⟨q,hqe⟩:∃q:Nat,cl p i=q:=⟨(cl p i).toNat,by have:=(hcl i hil).1;omega⟩
     have hqN:q<N:=by have:=(hcl i hil).2;omega
     have hgr:=mtz_get (ms:=ms) (c:=q) (by have:=hm.l;omega)
     have hrl:=hm.r q hqN
     have hrv:=hm.v q hqN
     have hst:=fun B' hB' r h1 h3=>hm.set (B':=B') (len':=fun _=>t+2) hB' hqN (r:=r) h1 (fun j hj=>rfl) h3
     generalize ms.getD q []=row at*
     have hil2:=ints_len row
     have hgv:=ints_get (l:=row) (j:=t+1) (by omega)
     generalize hvv:row.getD (t+1) 0=v at*
     have hv1:=hrv (t+1)
     rw [hvv]at hv1
     have hgd:=ivs_get (f:=S.dn) hil
     have hci:cI (some (i,r))=i:=rfl
     have hcr:cR (some (i,r))=r:=rfl
     rw [hci,hcr]
     rw [show cl p i=(p.getD i pk0).f from rfl]at hqe
     generalize p.getD i pk0=x at*
     have hsv:∀n:Int,0≤n→n≤left→∀j,0≤(row.set (t+1) (v+n)).getD j 0∧(row.set (t+1) (v+n)).getD j 0≤4000*(t+1)-(left-n):=fun n h1 h2 j=>by
      rw [getD_setI (by omega)]
      split
      ·omega
      ·have:=hrv j;omega
     have hsl:∀n:Int,(row.set (t+1) (v+n)).length =t+2:=fun n=>by rw [List.length_set];omega
     have hse:∀n:Int,(mtz ms).set q ((ints row).set (t+1) [i64 (v+n)])=mtz (ms.set q (row.set (t+1) (v+n))):=fun n=>by rw [←mtz_set];simp [ints,List.map_set]
     by_cases hrlt:r≤left
     ·have e:=(tk_some hcur r1 hrlt).symm.trans hk
      have hmin:min (r:Int) left=r:=by omega
      (repeat' (conv=>whnf);first|refine⟨i,_,rfl,hgp,?_⟩|refine aC ?_ ?_<;>intro<;>try omega|refine z1_S3d ?_|refine⟨q,hqe,by omega,?_⟩|refine And.intro (show q<(mtz ms).length by omega) ?_|refine⟨t+1,_,by omega,hgr,by omega,?_⟩|refine⟨_,_,hgr,hgv,?_⟩|refine⟨i,rfl,by omega,?_⟩|refine⟨_,hgd,?_⟩|fail);all_goals try (conv=>whnf)
      have hcn:cI none= -1:=rfl
      have hrn:cR none=0:=rfl
      exact⟨(left-r,b2,S.fi i t,ms.set q (row.set (t+1) (v+r))),[0,1,2,3,4,5,6,7],⟨by omega,hB,hst (4000*(t+1)-(left-r:Nat)) (by omega) _ (hsl r) (fun j=>by have:=hsv r (by omega) (by omega) j;omega),fun c h=>(by cases h),fi_inv hp.a hi hcur,e,hv⟩,by dsimp only;omega,by dsimp only;rw [hmin,hse,ivs_set];(exact aL)⟩
     ·have e:=(tk_more hcur h1l (by omega)).symm.trans hk
      have hmin:min (r:Int) left=left:=by omega
      (repeat' (conv=>whnf);first|refine⟨i,_,rfl,hgp,?_⟩|refine aC ?_ ?_<;>intro<;>try omega|refine z1_S3d ?_|refine⟨q,hqe,by omega,?_⟩|refine And.intro (show q<(mtz ms).length by omega) ?_|refine⟨t+1,_,by omega,hgr,by omega,?_⟩|refine⟨_,_,hgr,hgv,?_⟩|fail);all_goals try (conv=>whnf)
      have hcn:cI (some (i,r-left))=i:=rfl
      have hrn:cR (some (i,r-left))=(r-left:Nat):=rfl
      exact⟨(0,b2,S.cu (some (i,r-left)),ms.set q (row.set (t+1) (v+left))),[0,1,2,3,4,5,6,7],⟨by omega,hB,hst (4000*(t+1)-(0:Nat)) (by omega) _ (hsl left) (fun j=>by have:=hsv left (by omega) (by omega) j;omega),fun c h=>(by simp only [Option.some.injEq]at h;subst h;simp only;omega),cu_inv hi hcur,e,hv⟩,by dsimp only;omega,by dsimp only;rw [hmin,hse];(exact aL)⟩
   ·have hl0:left=0:=by omega
    subst hl0
    have e:run (defC ql) p c (t+1)=S:=by rw [←hk,tk]
    (repeat' (conv=>whnf);first|refine aC ?_ ?_<;>intro<;>try omega|refine z1_S3d ?_|fail);all_goals try (conv=>whnf)
    exact⟨(t+1,bef,ms,t,0),[0,1,2,3,4,5,6,7],RunI.of htT e hB hm (by omega) hq,by dsimp only;omega,by dsimp only;rw [e];(exact aL)⟩
 ·obtain rfl:T=t:=by omega
  (repeat' (conv=>whnf);first|refine aC ?_ ?_<;>intro<;>try omega|refine z3_S3d ?_|fail);all_goals try (conv=>whnf)
  refine .mk [.fz 4, .fm 5] ?_
  (repeat' (conv=>whnf);first|refine aC ?_ ?_<;>intro<;>try omega|refine z3_S3d ?_|fail);all_goals try (conv=>whnf)
  exact⟨⟨_,rfl⟩,ms,by have:=hm.l;omega,rfl⟩
end Go.Proofs.YtjhmjiimpmmnhaaGreat
