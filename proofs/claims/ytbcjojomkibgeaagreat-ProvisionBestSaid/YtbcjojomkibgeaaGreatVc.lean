/- Lemmas of this seat. Conditions: as stated. -/
import Derived.Test.YtbcjojomkibgeaaGreatQy
import Derived.Test.YtbcjojomkibgeaaGreatPl
set_option linter.unusedVariables false
set_option linter.unusedSimpArgs false
set_option maxHeartbeats 2000000
set_option maxRecDepth 4000
namespace Go.Proofs.YtbcjojomkibgeaaGreat
open Go.Sx Go.Np Go.Cv
theorem aP_Vc {A B K:Prop} (k:K) (a:A:=by(simp only [zA,zT,zD,zC,zN,ints_len,zR,Go.Cv.vals_len];omega)) (b:B:=by(simp only [zA,zT,zD,zC,zN,ints_len,zR,Go.Cv.vals_len];omega)):(A∧B)∧K:=⟨⟨a,b⟩,k⟩
theorem z2_Vc {G H:Prop} (k:H) (h:H→G:=by first|exact fun r=>aS r|exact fun r=>aG r|exact fun r=>aD r|exact fun r=>aH r|exact fun r=>aP_Vc r|exact fun r=>aI r|exact fun r=>aJ r|exact fun r=>aW (.qs [0,1,2,3,4,5,6,7,8,9,10,11,12,13] .nil) r):G:=h k
theorem curve_ok (vs:List Int) (p i:Int):
  Ctr Tryz.prog 125 [crv vs p i] [] (fun r o=>o=[]∧r= .bp (ValidP vs p i)):=by
 refine Ctr.imp ?_
 refine fI 0 Tryz.func125 ?_
 (repeat' (conv=>whnf);first|refine aC ?_ ?_<;>intro _|refine z2_Vc ?_|fail);all_goals try (conv=>whnf)
 all_goals try (refine And.intro rfl (Imp.bl ⟨fun h=>(by cases h),fun h=>?_⟩);simp only [ints_len]at*;simp only [ValidP]at h;omega)
 rename_i h1 h2 h3 h4 h5 h6 h7
 simp only [ints_len]at*
 have bd:∀j,j<vs.length→(∀k<j+1,vs.getD k 0=INF∨0≤vs.getD k 0∧vs.getD k 0≤1073741824)→True:=fun _ _ _=>trivial
 refine LoopOb.mk (Y:=Nat) (st:=fun j=>⟨[(45,i64 j),(44,i64 vs.length),(43, .psl 1 (ints vs)),(4,i64 (if j=0 then 0 else vs.getD (j-1) 0)),(3,i64 vs.length),(1, .ptr 0 0)],[.box [.psl 1 (ints vs), .num .i64 p, .num .i64 i]]⟩)
  (inv:=fun j=>j≤vs.length∧(∀k<j,vs.getD k 0=4611686018427387904∨0≤vs.getD k 0∧vs.getD k 0≤1073741824)∧(∀k,k+1<j→vs.getD k 0≤vs.getD (k+1) 0)) (fun j=>vs.length-j) 0 [0] ⟨by omega,fun k hk=>by omega,fun k hk=>by omega⟩ (by(exact aL)) ?_
 rintro j ⟨hj,hv,hm⟩
 have hlast:j≠0→vs.getD (j-1) 0=4611686018427387904∨0≤vs.getD (j-1) 0∧vs.getD (j-1) 0≤1073741824:=fun h=>hv (j-1) (by omega)
 (repeat' (conv=>whnf);first|refine aC ?_ ?_<;>intro _|refine z2_Vc ?_|fail);all_goals try (conv=>whnf)
 all_goals try (
  refine And.intro rfl (Imp.bl ⟨fun h=>(by cases h),fun h=>?_⟩)
  obtain⟨_,_,_,_,_,_,_,q1,q2,q3,_⟩:=h
  have q1:=q1 j
  have q2:=q2 (j-1)
  rcases Nat.eq_zero_or_pos j with h0|h0
  ·subst h0;simp only [if_true,Nat.zero_sub]at*;omega
  ·try rw [if_neg (show¬j=0 by omega)]at*
   rw [show j-1+1=j by omega]at q2
   omega)
 all_goals try (
  refine⟨j+1,[0],⟨by omega,fun k hk=>?_,fun k hk=>?_⟩,by omega,?_⟩
  ·by_cases hkj:k=j
   ·subst hkj
    rcases Nat.eq_zero_or_pos k with h0|h0
    ·subst h0;simp only [if_true]at*;omega
    ·rw [if_neg (show¬k=0 by omega)]at*;omega
   ·exact hv k (by omega)
  ·by_cases hkj:k+1=j
   ·subst hkj;rw [if_neg (show¬k+1=0 by omega)]at*;simp only [Nat.add_sub_cancel]at*;omega
   ·exact hm k (by omega)
  ·refine Le.mk (by kernel_rfl) ?_ ?_<;>repeat' (first|exact True.intro|refine And.intro ?_ ?_|exact Imp.refl _|exact Imp.any _|exact Imp.num (by omega)|exact rfl|exact Imp.num (by simp)))
 all_goals have hjl:j=vs.length:=by omega
 all_goals subst hjl
 all_goals rw [if_neg (show¬vs.length=0 by omega)]at*
 ·have hx2:vs.getD (vs.length-1) 0=4611686018427387904:=by assumption
  have hp:p=1:=by assumption
  exact⟨rfl,Imp.bp ⟨fun h=>⟨by omega,by omega,by omega,by omega,by omega,by omega,by omega,hv,hm,fun _=>⟨hp,h⟩,fun h'=>absurd hx2 h'⟩,fun h=>by obtain⟨_,_,_,_,_,_,_,_,_,q3,_⟩:=h;exact(q3 hx2).2⟩⟩
 ·have hx2:vs.getD (vs.length-1) 0=4611686018427387904:=by assumption
  refine⟨rfl,Imp.bl ⟨fun h=>(by cases h),fun h=>?_⟩⟩
  obtain⟨_,_,_,_,_,_,_,_,_,q3,_⟩:=h
  have:=(q3 hx2).1
  omega
 ·have hx2:¬vs.getD (vs.length-1) 0=4611686018427387904:=by assumption
  have hq:=hv (vs.length-p).toNat (by omega)
  refine ArOb.fits (by omega) ?_
  (repeat' (conv=>whnf);first|refine aC ?_ ?_<;>intro _|refine z2_Vc ?_|fail);all_goals try (conv=>whnf)
  rw [show(vs.length-p:Int).toNat =vs.length-p.toNat by omega]at*
  exact⟨rfl,Imp.bp ⟨fun h=>⟨by omega,by omega,by omega,by omega,by omega,by omega,by omega,hv,hm,fun h'=>absurd h' hx2,fun _=>h⟩,fun h=>by obtain⟨_,_,_,_,_,_,_,_,_,_,q4⟩:=h;exact q4 hx2⟩⟩
theorem z3_Vc {G H:Prop} (k:H) (h:H→G:=by first|exact fun r=>aS r|exact fun r=>aG r|exact fun r=>aD r|exact fun r=>aH r|exact fun r=>aP_Vc r|exact fun r=>aI r|exact fun r=>aJ r):G:=h k
theorem wFinite_ok (vs:List Int) (p q:Int) (h1:1≤vs.length) (h2:vs.length≤1000000):Ctr Tryz.prog 141 [crv vs p q] [] (fun r o=>o=[]∧r= .bp (FinP vs)):=by
 refine fI 0 Tryz.func141 ?_
 (repeat' (conv=>whnf);first|refine aC ?_ ?_<;>intro _|refine z3_Vc ?_|fail);all_goals try (conv=>whnf)
 simp only [ints_len]
 rw [show((vs.length:Int)-1).toNat =vs.length-1 by omega]
 exact⟨by trivial,rfl⟩
end Go.Proofs.YtbcjojomkibgeaaGreat
