/- Lemmas of this seat. Conditions: as stated. -/
import Derived.Test.YtbcjojomkibgeaaGreatQy
import Derived.Test.YtbcjojomkibgeaaGreatS2
import Derived.Test.YtbcjojomkibgeaaGreatN15
set_option linter.unusedVariables false
set_option linter.unusedSimpArgs false
set_option maxHeartbeats 2000000
set_option maxRecDepth 4000
namespace Go.Proofs.YtbcjojomkibgeaaGreat
section
open Go.Sx Go.Fq
theorem Rang2_ok (L:List Int) (k:Nat) (hL:L.length≤2000) (hk:k≤2000) (lo hi:Int) (h1: -1000000≤lo) (h2:lo≤hi) (h3:hi≤1000000):
  Ctr Tryz.prog 29 [.ptr 0 0,i64 lo,i64 hi] [src L k] (fun r o=>∃x:Int×Nat,(lo≤x.1∧x.1≤hi∧x.2≤2000)∧o=[src L x.2]∧r=i64 x.1):=by
 refine fI 1 Tryz.func29 ?_
 (repeat' (conv=>whnf);first|refine aC ?_ ?_<;>intro _|refine z1_F1 ?_|fail);all_goals try (conv=>whnf)
 refine aM [0] (N_ok L k hL hk (hi-lo+1) (by omega) (by omega)) rfl rfl ?_
 rintro _ _ ⟨⟨v,k'⟩,⟨h4,h5,hk'⟩,rfl,rfl⟩
 dsimp only at h4 h5 hk'⊢
 (repeat' (conv=>whnf);first|refine aC ?_ ?_<;>intro _|refine z1_F1 ?_|fail);all_goals try (conv=>whnf)
 exact⟨(lo+v,k'),⟨by simp only;omega,by simp only;omega,hk'⟩,rfl,rfl⟩
theorem Integer_ok (L:List Int) (k:Nat) (hL:L.length≤2000) (hk:k≤2000) (n:Int) (h1:0≤n) (h3:n≤1000000):
  Ctr Tryz.prog 48 [.ptr 0 0,i64 n] [src L k] (fun r o=>∃x:Int×Nat,(-n≤x.1∧x.1≤n∧x.2≤2000)∧o=[src L x.2]∧r= .agg [i64 x.1,i64 1]):=by
 refine fI 1 Tryz.func48 ?_
 (repeat' (conv=>whnf);first|refine aC ?_ ?_<;>intro _|refine z1_F1 ?_|fail);all_goals try (conv=>whnf)
 refine aM [0] (Rang2_ok L k hL hk (0-n) n (by omega) (by omega) (by omega)) rfl rfl ?_
 rintro _ _ ⟨⟨v,k'⟩,⟨h4,h5,hk'⟩,rfl,rfl⟩
 dsimp only at h4 h5 hk'⊢
 (repeat' (conv=>whnf);first|refine aC ?_ ?_<;>intro _|refine z1_F1 ?_|fail);all_goals try (conv=>whnf)
 exact⟨(v,k'),⟨by simp only;omega,h5,hk'⟩,rfl,rfl⟩
theorem Pick2_ok (L:List Int) (k:Nat) (hL:L.length≤2000) (hk:k≤2000) (l:List F) (hl:1≤l.length) (hl2:l.length≤1000000):
  Ctr Tryz.prog 49 [.ptr 0 0,fsl l] [src L k] (fun r o=>∃x:F×Nat,(x.1∈l∧x.2≤2000)∧o=[src L x.2]∧r= .agg [i64 x.1.1,i64 x.1.2]):=by
 refine fI 1 Tryz.func49 ?_
 have hll:=fr_len l
 (repeat' (conv=>whnf);first|refine aC ?_ ?_<;>intro _|refine z1_F1 ?_|fail);all_goals try (conv=>whnf)
 refine aM [0] (N_ok L k hL hk (fr2 l).length (by omega) (by omega)) rfl rfl ?_
 rintro _ _ ⟨⟨v,k'⟩,⟨h1,h2,hk'⟩,rfl,rfl⟩
 dsimp only at h1 h2 hk'⊢
 (repeat' (conv=>whnf);first|refine aC ?_ ?_<;>intro _|refine z1_F1 ?_|fail);all_goals try (conv=>whnf)
 refine⟨v.toNat,_,by omega,fr_get (by omega),?_⟩
 (repeat' (conv=>whnf);first|refine aC ?_ ?_<;>intro _|refine z1_F1 ?_|fail);all_goals try (conv=>whnf)
 have hm:l.getD v.toNat (0,1)∈l:=by
  rw [List.getD_eq_getElem?_getD,List.getElem?_eq_getElem (show v.toNat<l.length by omega)];exact List.getElem_mem _
 exact⟨(l.getD v.toNat (0,1),k'),⟨hm,hk'⟩,rfl,rfl⟩
theorem vf_int {n:Int} (h1: -1000000≤n) (h2:n≤1000000):VF (n,1):=⟨by omega,by omega,by simp only;omega,by simp only;omega,by simp⟩
theorem vf_app {l:List F} {x:F} (hv:∀f∈l,VF f) (hx:VF x):∀f∈l++[x],VF f:=by
 intro f hf
 rcases List.mem_append.1 hf with h|h
 ·exact hv f h
 ·rw [List.mem_singleton.1 h];exact hx
theorem Point_ok (L:List Int) (k:Nat) (hL:L.length≤2000) (hk:k≤2000) (n:Nat) (hn:n≤1000000000):
  Ctr Tryz.prog 17 [.ptr 0 0,i64 n] [src L k] (fun r o=>∃x:List F×Nat,(x.1.length=n∧(∀f∈x.1,VF f)∧x.2≤2000)∧o=[src L x.2]∧r=fsl x.1):=by
 refine Ctr.impE ?_
 refine fI 1 Tryz.func17 ?_
 (repeat' (conv=>whnf);first|refine aC ?_ ?_<;>intro _|refine z1_F1 ?_|fail);all_goals try (conv=>whnf)
 refine LoopOb.mk (Y:=List F×Nat) (st:=fun y=>⟨[(6,i64 y.1.length),(5, .vec 1),(0, .ptr 0 0),(1,i64 n)],[src L y.2, .vec 2 (fr2 y.1)]⟩)
  (inv:=fun y=>y.1.length≤n∧(∀f∈y.1,VF f)∧y.2≤2000) (fun y=>n-y.1.length) ([],k) [0,2] ⟨by simp,by simp,hk⟩ (by(exact aL)) ?_
 rintro⟨l,k⟩ ⟨hl,hv,hk⟩
 dsimp only at hl hv hk⊢
 have hll:=fr_len l
 (repeat' (conv=>whnf);first|refine z1_F1 ?_|fail);all_goals try (conv=>whnf)
 refine CondOb.mk (fun hlt=>?_) (fun hlt=>?_)
 ·(repeat' (conv=>whnf);first|refine LitOb.ful ?_|refine aC ?_ ?_<;>intro<;>try omega|refine z1_F1 ?_|fail);all_goals try (conv=>whnf)
  refine CallOb.mk [0] (Pick_ok L k hL hk [1,4,12] (by decide) (by decide)) rfl ⟨Imp.refl _,Imp.fulp rfl,trivial⟩ rfl rfl ?_
  rintro _ _ ⟨⟨v,k1⟩,⟨h1,hk1⟩,rfl,rfl⟩
  dsimp only at h1 hk1⊢
  have hv0:0≤v∧v≤12:=by
   simp only [List.mem_cons,List.not_mem_nil,or_false]at h1
   omega
  (repeat' (conv=>whnf);first|refine aC ?_ ?_<;>intro<;>try omega|refine z1_F1 ?_|fail);all_goals try (conv=>whnf)
  refine aM [0] (Integer_ok L k1 hL hk1 v (by omega) (by omega)) rfl rfl ?_
  rintro _ _ ⟨⟨u,k2⟩,⟨h2,h3,hk2⟩,rfl,rfl⟩
  dsimp only at h2 h3 hk2⊢
  (repeat' (conv=>whnf);first|refine aC ?_ ?_<;>intro<;>try omega|refine z1_F1 ?_|fail);all_goals try (conv=>whnf)
  refine aM [0] (N_ok L k2 hL hk2 3 (by omega) (by omega)) rfl rfl ?_
  rintro _ _ ⟨⟨t,k3⟩,⟨h4,h5,hk3⟩,rfl,rfl⟩
  dsimp only at h4 h5 hk3⊢
  (repeat' (conv=>whnf);first|refine LitOb.ful ?_|refine aC ?_ ?_<;>intro<;>try omega|refine z1_F1 ?_|(refine aM [0] (N_ok L k3 hL hk3 5 (by omega) (by omega)) rfl rfl ?_;rintro _ _ ⟨⟨t4,k4⟩,⟨h6,h7,hk4⟩,rfl,rfl⟩;dsimp only at h6 h7 hk4⊢)|(refine CallOb.mk [0] (Pick2_ok L k4 hL hk4 [(1,2),(3,2),(5,3),(-1,2)] (by decide) (by decide)) rfl ⟨Imp.refl _,Imp.fulp rfl,trivial⟩ rfl rfl ?_;rintro _ _ ⟨⟨⟨a,b⟩,k5⟩,⟨h8,hk5⟩,rfl,rfl⟩;dsimp only at h8 hk5⊢)|fail);all_goals try (conv=>whnf)
  ·have:∀f∈([(1,2),(3,2),(5,3),(-1,2)]:List F),VF f:=by decide
   exact⟨(l++[(a,b)],k5),[0,3],⟨by simp only [List.length_append,List.length_singleton];omega,vf_app hv (this _ h8),by assumption⟩,by simp only [List.length_append,List.length_singleton];omega,by dsimp only;rw [fr2_append,List.length_append,List.length_singleton];(exact aL)⟩
  ·exact⟨(l++[(max u (0-u),1)],k4),[0,3],⟨by simp only [List.length_append,List.length_singleton];omega,vf_app hv (vf_int (by omega) (by omega)),by assumption⟩,by simp only [List.length_append,List.length_singleton];omega,by dsimp only;rw [fr2_append,List.length_append,List.length_singleton];(exact aL)⟩
  ·have:∀f∈([(1,2),(3,2),(5,3),(-1,2)]:List F),VF f:=by decide
   exact⟨(l++[(a,b)],k5),[0,3],⟨by simp only [List.length_append,List.length_singleton];omega,vf_app hv (this _ h8),by assumption⟩,by simp only [List.length_append,List.length_singleton];omega,by dsimp only;rw [fr2_append,List.length_append,List.length_singleton];(exact aL)⟩
  ·exact⟨(l++[(u,1)],k4),[0,3],⟨by simp only [List.length_append,List.length_singleton];omega,vf_app hv (vf_int (by omega) (by omega)),by assumption⟩,by simp only [List.length_append,List.length_singleton];omega,by dsimp only;rw [fr2_append,List.length_append,List.length_singleton];(exact aL)⟩
 ·have e:l.length=n:=by omega
  (repeat' (conv=>whnf);first|refine aC ?_ ?_<;>intro _|refine z2_P5 ?_|fail);all_goals try (conv=>whnf)
  refine .mk [.fz 1] ?_
  (repeat' (conv=>whnf);first|refine aC ?_ ?_<;>intro _|refine z1_F1 ?_|fail);all_goals try (conv=>whnf)
  exact⟨(l,k),⟨e,hv,hk⟩,rfl,Imp.refl _⟩
end
section
open Go.Sx Go.Fq Go.Np Go.Pv
def DmG (d:Dm):Prop:=0≤d.lo∧d.lo≤d.hi∧d.hi≤14∧0≤d.w∧d.w≤5
theorem dms_app (a b:List Dm):dms (a++b)=dms a++dms b:=by simp [dms]
theorem z2_Y7 {G H:Prop} (k:H) (h:H→G:=by first|exact fun r=>aS r|exact fun r=>aG r|exact fun r=>aD r|exact fun r=>aP_Y1 r|exact fun r=>aI r|exact fun r=>aJ r|exact fun r=>aW (.qs [0,1,2] (.l 3 [1] (.qs [4,5] (.l 6 [] .nil .no)) .no)) r):G:=h k
theorem z1_Y7 {G H:Prop} (k:H) (h:H→G:=by first|exact fun r=>aS r|exact fun r=>aG r|exact fun r=>aD r|exact fun r=>aH r|exact fun r=>aP_Y1 r|exact fun r=>aI r|exact fun r=>aJ r|exact fun r=>aW (.qs [0,1,2] (.l 3 [1] (.qs [4,5] (.l 6 [] .nil .no)) .no)) r):G:=h k
theorem Demands_ok (L:List Int) (k:Nat) (hL:L.length≤2000) (hk:k≤2000) (n:Nt) (hf:n.fl.length≤1000):
  Ctr Tryz.prog 9 [.ptr 0 0,ntv n] [src L k] (fun r o=>∃x:List Dm×Nat,(x.1.length=n.fl.length∧(∀d∈x.1,DmG d)∧x.2≤2000)∧o=[src L x.2, .vec 3 (dms x.1)]∧r= .vec 1):=by
 refine Ctr.impO ?_
 refine fI 1 Tryz.func9 ?_
 have hfl:=fll n.fl
 (repeat' (conv=>whnf);first|refine aC ?_ ?_<;>intro _|refine z1_Y7 ?_|fail);all_goals try (conv=>whnf)
 refine LoopOb.mk (Y:=List Dm×Nat) (st:=fun y=>⟨[(6,i64 y.1.length),(5, .vec 2),(3, .ptr 1 0),(0, .ptr 0 0)],[src L y.2, .box [.psl 1 (strs n.nm), .psl 5 (lns n.ln), .psl 8 (fls n.fl)], .vec 3 (dms y.1)]⟩)
  (inv:=fun y=>y.1.length≤n.fl.length∧(∀d∈y.1,DmG d)∧y.2≤2000) (fun y=>n.fl.length-y.1.length) ([],k) [0,1,3] ⟨by simp,by simp,hk⟩ (by(exact aL)) ?_
 rintro⟨l,q⟩ ⟨hl,hd,hq⟩
 dsimp only at hl hd hq⊢
 have hll:=dml_len l
 (repeat' (conv=>whnf);first|refine z1_Y7 ?_|fail);all_goals try (conv=>whnf)
 refine CondOb.mk (fun hlt=>?_) (fun hlt=>?_)
 ·(repeat' (conv=>whnf);first|refine aC ?_ ?_<;>intro<;>try omega|refine z1_Y7 ?_|fail);all_goals try (conv=>whnf)
  refine aM [0] (N_ok L q hL hq 4 (by omega) (by omega)) rfl rfl ?_
  rintro _ _ ⟨⟨lo,q1⟩,⟨a1,a2,hq1⟩,rfl,rfl⟩
  dsimp only at a1 a2 hq1⊢
  (repeat' (conv=>whnf);first|refine aC ?_ ?_<;>intro<;>try omega|refine z1_Y7 ?_|fail);all_goals try (conv=>whnf)
  refine aM [0] (N_ok L q1 hL hq1 6 (by omega) (by omega)) rfl rfl ?_
  rintro _ _ ⟨⟨w,q2⟩,⟨b1,b2,hq2⟩,rfl,rfl⟩
  dsimp only at b1 b2 hq2⊢
  (repeat' (conv=>whnf);first|refine aC ?_ ?_<;>intro<;>try omega|refine z1_Y7 ?_|fail);all_goals try (conv=>whnf)
  refine aM [0] (N_ok L q2 hL hq2 12 (by omega) (by omega)) rfl rfl ?_
  rintro _ _ ⟨⟨u,q3⟩,⟨c1,c2,hq3⟩,rfl,rfl⟩
  dsimp only at c1 c2 hq3⊢
  (repeat' (conv=>whnf);first|refine aC ?_ ?_<;>intro<;>try omega|refine z1_Y7 ?_|fail);all_goals try (conv=>whnf)
  refine⟨(l++[⟨lo,lo+u,w⟩],q3),[0,1,5],⟨by simp only [List.length_append,List.length_singleton];omega,fun d hd'=>?_,hq3⟩,by simp only [List.length_append,List.length_singleton];omega,by dsimp only;rw [dms_app,List.length_append,List.length_singleton];(exact aL)⟩
  rcases List.mem_append.1 hd' with h|h
  ·exact hd d h
  ·rw [List.mem_singleton.1 h];unfold DmG;dsimp only;omega
 ·(repeat' (conv=>whnf);first|refine aC ?_ ?_<;>intro _|refine z2_Y7 ?_|fail);all_goals try (conv=>whnf)
  refine .mk [.wk [0,2] ⟨[(4, .vec 1)],[src L q, .vec 3 (dms l)]⟩] ⟨by(exact aL),?_⟩
  (repeat' (conv=>whnf);first|refine aC ?_ ?_<;>intro _|refine z1_Y7 ?_|fail);all_goals try (conv=>whnf)
  exact⟨(l,q),⟨by dsimp only;omega,hd,hq⟩,OI.refl _,Imp.refl _⟩
end
end Go.Proofs.YtbcjojomkibgeaaGreat
