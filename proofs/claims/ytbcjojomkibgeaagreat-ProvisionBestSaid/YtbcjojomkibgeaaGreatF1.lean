/- Lemmas of this seat. Conditions: as stated. -/
import Derived.Test.YtbcjojomkibgeaaGreatLib
import Derived.Test.YtbcjojomkibgeaaGreatPl
set_option linter.unusedVariables false
set_option linter.unusedSimpArgs false
set_option maxHeartbeats 2000000
set_option maxRecDepth 4000
namespace Go.Proofs.YtbcjojomkibgeaaGreat
open Go.Sx Go.Fq
abbrev u64 (n:Nat):SV:= .num .u64 n
abbrev res (x:R):SV:= .tup [.agg [i64 x.1,i64 x.2.1],i64 x.2.2]
theorem aP_F1 {A B K:Prop} (k:K) (a:A:=by(simp only [zA,zT,zD,zC,zN,ints_len,zR,fr_len,rw_len];omega)) (b:B:=by(simp only [zA,zT,zD,zC,zN,ints_len,zR,fr_len,rw_len];omega)):(A∧B)∧K:=⟨⟨a,b⟩,k⟩
theorem z2_F1 {G H:Prop} (k:H) (h:H→G:=by first|exact fun r=>aS r|exact fun r=>aG r|exact fun r=>aD r|exact fun r=>aH r|exact fun r=>aP_F1 r|exact fun r=>aI r|exact fun r=>aJ r|exact fun r=>aW (.qs [0,1,2,3,4,5] .nil) r):G:=h k
theorem z1_F1 {G H:Prop} (k:H) (h:H→G:=by first|exact fun r=>aS r|exact fun r=>aG r|exact fun r=>aD r|exact fun r=>aH r|exact fun r=>aP_F1 r|exact fun r=>aI r|exact fun r=>aJ r):G:=h k
theorem divisor_ok (a b:Nat) (ha:a<18446744073709551616) (hb:b<18446744073709551616):Ctr Tryz.prog 133 [u64 a,u64 b] [] (fun r o=>o=[]∧r=u64 (Nat.gcd a b)):=by
 refine fI 0 Tryz.func133 ?_
 (repeat' (conv=>whnf);first|refine aC ?_ ?_<;>intro _|refine z1_F1 ?_|fail);all_goals try (conv=>whnf)
 refine LoopOb.mk (Y:=Nat×Nat) (st:=fun y=>⟨[(0,u64 y.1),(1,u64 y.2)],[]⟩)
  (inv:=fun y=>Nat.gcd y.1 y.2=Nat.gcd a b) (fun y=>y.2) (a,b) [] rfl (by(exact aL)) ?_
 rintro⟨x,y⟩ hg
 replace hg:Nat.gcd x y=Nat.gcd a b:=hg
 (repeat' (conv=>whnf);first|refine aC ?_ ?_<;>intro _|refine z2_F1 ?_|fail);all_goals try (conv=>whnf)
 ·have hy0:(y:Int)≠0:=by assumption
  have e:(x:Int).tmod y=(x%y:Nat):=by rw [Int.tmod_eq_emod_of_nonneg (by omega)];rfl
  refine⟨hy0,?_⟩
  (repeat' (conv=>whnf);first|refine aC ?_ ?_<;>intro _|refine z2_F1 ?_|fail);all_goals try (conv=>whnf)
  refine⟨(y,x%y),[],?_,Nat.mod_lt _ (by omega),by(exact aL)⟩
  rw [←hg]
  simp only
  rw [Nat.gcd_comm x y,Nat.gcd_rec y x,Nat.gcd_comm]
 ·have hy0:¬(y:Int)≠0:=by assumption
  have:y=0:=by omega
  subst this
  refine⟨rfl,?_⟩
  rw [←hg]
  simp [oneS]
theorem size_ok (n:Int) (hn: -9223372036854775808≤n∧n≤9223372036854775807):Ctr Tryz.prog 134 [i64 n] [] (fun r o=>o=[]∧r=u64 n.natAbs):=by
 refine fI 0 Tryz.func134 ?_
 (repeat' (conv=>whnf);first|refine aC ?_ ?_<;>intro<;>try omega|refine z1_F1 ?_|fail);all_goals try (conv=>whnf)
 ·refine⟨rfl,?_⟩
  show SV.num IntKind.u64 _=SV.num IntKind.u64 _
  congr 1;omega
 ·refine⟨rfl,?_⟩
  show SV.num IntKind.u64 _=SV.num IntKind.u64 _
  congr 1;omega
theorem vf_nat {x y:Int}:VF (x,y)↔1≤y∧y≤1073741824∧-1073741824≤x∧x≤1073741824∧Nat.gcd x.natAbs y.natAbs=1:=Iff.rfl
theorem z3_F1 {G H:Prop} (k:H) (h:H→G:=by first|exact fun r=>aS r|exact fun r=>aG r|exact fun r=>aD r|exact fun r=>aH r|exact fun r=>aP_F1 r|exact fun r=>aI r|exact fun r=>aJ r|exact fun r=>aW (.qs [0,1,2,3,4,5,6,7,8,9,10,11,12,13,14,15,16,17,18,19,20,22,23,24] (.l 21 [23] (.l 25 [] (.qs [26,27,28] .nil) .no) .no)) r):G:=h k
theorem fValid_ok (x y:Int):Ctr Tryz.prog 106 [.agg [i64 x,i64 y]] [] (fun r o=>o=[]∧r= .bp (VF (x,y))):=by
 refine Ctr.imp ?_
 refine fI 0 Tryz.func106 ?_
 (repeat' (conv=>whnf);first|refine aC ?_ ?_<;>intro<;>try omega|refine z3_F1 ?_|(refine aK [] (size_ok x (by omega)) ?_)|(refine CallOb.mk [] (divisor_ok x.natAbs y.natAbs (by omega) (by omega)) rfl ⟨Imp.refl _,Imp.num (by omega),trivial⟩ rfl rfl ?_;rintro _ _ ⟨rfl,rfl⟩)|fail);all_goals try (conv=>whnf)
 all_goals rw [vf_nat]
 ·exact⟨rfl,Imp.bp (by omega)⟩
 all_goals exact⟨rfl,Imp.bl ⟨fun h=>(by cases h),fun h=>by omega⟩⟩
theorem z4_F1 {G H:Prop} (k:H) (h:H→G:=by first|exact fun r=>aS r|exact fun r=>aG r|exact fun r=>aD r|exact fun r=>aH r|exact fun r=>aP_F1 r|exact fun r=>aI r|exact fun r=>aJ r|exact fun r=>aW (.qs [0,1,2,3,4,5,6,7] .nil) r):G:=h k
theorem fNew_ok (n d:Int) (hn: -9223372036854775808≤n∧n≤9223372036854775807) (hd: -9223372036854775808≤d∧d≤9223372036854775807):
  Ctr Tryz.prog 130 [i64 n,i64 d] [] (fun r o=>o=[]∧r=res (fnew n d)):=by
 refine fI 0 Tryz.func130 ?_
 (repeat' (conv=>whnf);first|refine aC ?_ ?_<;>intro<;>try omega|refine z4_F1 ?_|(refine aK [] (size_ok n hn) ?_)|(refine aK [] (size_ok d hd) ?_)|(refine aK [] (divisor_ok n.natAbs d.natAbs (by omega) (by omega)) ?_)|fail);all_goals try (conv=>whnf)
 ·refine⟨rfl,?_⟩
  unfold fnew;rw [if_pos (by assumption)];rfl
 have hd0:d≠0:=by assumption
 have hg:0<Nat.gcd n.natAbs d.natAbs:=Nat.gcd_pos_of_pos_right _ (by omega)
 have e1:(n.natAbs:Int).tdiv (Nat.gcd n.natAbs d.natAbs:Nat)=(n.natAbs/Nat.gcd n.natAbs d.natAbs:Nat):=by rw [Int.tdiv_eq_ediv_of_nonneg (by omega)];rfl
 have e2:(d.natAbs:Int).tdiv (Nat.gcd n.natAbs d.natAbs:Nat)=(d.natAbs/Nat.gcd n.natAbs d.natAbs:Nat):=by rw [Int.tdiv_eq_ediv_of_nonneg (by omega)];rfl
 have b1:n.natAbs/Nat.gcd n.natAbs d.natAbs≤n.natAbs:=Nat.div_le_self _ _
 have b2:d.natAbs/Nat.gcd n.natAbs d.natAbs≤d.natAbs:=Nat.div_le_self _ _
 have hf:=fnew_eq n d hd0
 generalize n.natAbs/Nat.gcd n.natAbs d.natAbs=x at*
 generalize d.natAbs/Nat.gcd n.natAbs d.natAbs=y at*
 rw [hf]
 refine⟨by omega,?_⟩
 rw [e1]
 (repeat' (conv=>whnf);first|refine aC ?_ ?_<;>intro<;>try omega|refine z4_F1 ?_|fail);all_goals try (conv=>whnf)
 refine⟨by omega,?_⟩
 rw [e2]
 (repeat' (conv=>whnf);first|refine aC ?_ ?_<;>intro<;>try omega|refine z4_F1 ?_|fail);all_goals try (conv=>whnf)
 ·exact⟨rfl,by rw [if_pos (by omega)];rfl⟩
 ·exact⟨rfl,by rw [if_pos (by omega)];rfl⟩
 ·exact⟨rfl,by rw [if_neg (by omega),if_neg (by assumption)];simp only [oneS,Int.zero_sub]⟩
 ·exact⟨rfl,by rw [if_neg (by omega),if_pos (Classical.not_not.1 (by assumption))];rfl⟩
theorem mul_bd {x y:Int} {k:Nat} (hx:x.natAbs≤k) (hy:y.natAbs≤k):(x*y).natAbs ≤k*k:=by rw [Int.natAbs_mul];exact Nat.mul_le_mul hx hy
theorem vf_mul {a b:F} (h:VF a) (k:VF b): -1152921504606846976≤a.1*b.1∧a.1*b.1≤1152921504606846976∧-1152921504606846976≤a.1*b.2∧a.1*b.2≤1152921504606846976∧
  -1152921504606846976≤b.1*a.2∧b.1*a.2≤1152921504606846976∧-1152921504606846976≤a.2*b.2∧a.2*b.2≤1152921504606846976∧-1152921504606846976≤a.2*b.1∧a.2*b.1≤1152921504606846976:=by
 obtain⟨h1,h2,h3,h4,_⟩:=h
 obtain⟨k1,k2,k3,k4,_⟩:=k
 have a1:=mul_bd (x:=a.1) (y:=b.1) (k:=1073741824) (by omega) (by omega)
 have a2:=mul_bd (x:=a.1) (y:=b.2) (k:=1073741824) (by omega) (by omega)
 have a3:=mul_bd (x:=b.1) (y:=a.2) (k:=1073741824) (by omega) (by omega)
 have a4:=mul_bd (x:=a.2) (y:=b.2) (k:=1073741824) (by omega) (by omega)
 have a5:=mul_bd (x:=a.2) (y:=b.1) (k:=1073741824) (by omega) (by omega)
 omega
theorem z5_F1 {G H:Prop} (k:H) (h:H→G:=by first|exact fun r=>aS r|exact fun r=>aG r|exact fun r=>aD r|exact fun r=>aH r|exact fun r=>aP_F1 r|exact fun r=>aI r|exact fun r=>aJ r|exact fun r=>aW (.qs [0,1,2,3,4,5,6,7,8,9,10,11] .nil) r):G:=h k
theorem fCompare_ok (x y u v:Int):Ctr Tryz.prog 91 [.agg [i64 x,i64 y], .agg [i64 u,i64 v]] [] (fun r o=>o=[]∧r=i64 (fcmp (x,y) (u,v))):=by
 refine fI 0 Tryz.func91 ?_
 (repeat' (conv=>whnf);first|refine aC ?_ ?_<;>intro _|refine z5_F1 ?_|(refine aK [] (fValid_ok x y) ?_)|(refine aK [] (fValid_ok u v) ?_)|fail);all_goals try (conv=>whnf)
 ·exact⟨rfl,by unfold fcmp;rw [if_neg (fun h=>absurd h.1 (by assumption))];rfl⟩
 ·exact⟨rfl,by unfold fcmp;rw [if_neg (fun h=>absurd h.2 (by assumption))];rfl⟩
 have h1:=Classical.not_not.1 ‹¬¬VF (x,y)›
 have h2:=Classical.not_not.1 ‹¬¬VF (u,v)›
 have hb:=vf_mul h1 h2
 have hc:=h1.cmp h2
 have hd:=h2.cmp h1
 dsimp only at hb hc hd
 (repeat' (conv=>whnf);first|refine aC ?_ ?_<;>intro _|refine z5_F1 ?_|fail);all_goals try (conv=>whnf)
 ·exact⟨rfl,by unfold fcmp;rw [if_pos ⟨h1,h2⟩,if_pos (hc.1 (by assumption))];rfl⟩
 ·exact⟨rfl,by unfold fcmp;rw [if_pos ⟨h1,h2⟩,if_neg (fun h=>absurd (hc.2 h) (by assumption)),if_pos (hd.1 (by assumption))];rfl⟩
 ·exact⟨rfl,by unfold fcmp;rw [if_pos ⟨h1,h2⟩,if_neg (fun h=>absurd (hc.2 h) (by assumption)),if_neg (fun h=>absurd (hd.2 h) (by assumption))];rfl⟩
theorem fMul_ok (x y u v:Int):Ctr Tryz.prog 94 [.agg [i64 x,i64 y], .agg [i64 u,i64 v]] [] (fun r o=>o=[]∧r=res (fmul (x,y) (u,v))):=by
 refine fI 0 Tryz.func94 ?_
 (repeat' (conv=>whnf);first|refine aC ?_ ?_<;>intro _|refine z1_F1 ?_|(refine aK [] (fValid_ok x y) ?_)|(refine aK [] (fValid_ok u v) ?_)|fail);all_goals try (conv=>whnf)
 ·exact⟨rfl,by unfold fmul;rw [if_neg (fun h=>absurd h.1 (by assumption))];rfl⟩
 ·exact⟨rfl,by unfold fmul;rw [if_neg (fun h=>absurd h.2 (by assumption))];rfl⟩
 have h1:=Classical.not_not.1 ‹¬¬VF (x,y)›
 have h2:=Classical.not_not.1 ‹¬¬VF (u,v)›
 have hb:=vf_mul h1 h2
 dsimp only at hb
 (repeat' (conv=>whnf);first|refine aC ?_ ?_<;>intro _|refine z1_F1 ?_|(refine aK [] (fNew_ok (x*u) (y*v) (by omega) (by omega)) ?_)|fail);all_goals try (conv=>whnf)
 exact⟨rfl,by unfold fmul;rw [if_pos ⟨h1,h2⟩,←h1.mul h2];rfl⟩
theorem fAdd_ok (x y u v:Int):Ctr Tryz.prog 95 [.agg [i64 x,i64 y], .agg [i64 u,i64 v]] [] (fun r o=>o=[]∧r=res (fadd (x,y) (u,v))):=by
 refine fI 0 Tryz.func95 ?_
 (repeat' (conv=>whnf);first|refine aC ?_ ?_<;>intro _|refine z1_F1 ?_|(refine aK [] (fValid_ok x y) ?_)|(refine aK [] (fValid_ok u v) ?_)|fail);all_goals try (conv=>whnf)
 ·exact⟨rfl,by unfold fadd;rw [if_neg (fun h=>absurd h.1 (by assumption))];rfl⟩
 ·exact⟨rfl,by unfold fadd;rw [if_neg (fun h=>absurd h.2 (by assumption))];rfl⟩
 have h1:=Classical.not_not.1 ‹¬¬VF (x,y)›
 have h2:=Classical.not_not.1 ‹¬¬VF (u,v)›
 have hb:=vf_mul h1 h2
 dsimp only at hb
 (repeat' (conv=>whnf);first|refine aC ?_ ?_<;>intro _|refine z1_F1 ?_|(refine aK [] (fNew_ok (x*v+u*y) (y*v) (by omega) (by omega)) ?_)|fail);all_goals try (conv=>whnf)
 exact⟨rfl,by unfold fadd;rw [if_pos ⟨h1,h2⟩,←h1.add h2];rfl⟩
theorem rGcd_ok (a b:Int) (ha:0≤a) (hb:0≤b):Ctr Tryz.prog 103 [i64 a,i64 b] [] (fun r o=>o=[]∧r=i64 (Nat.gcd a.natAbs b.natAbs)):=by
 refine fI 0 Tryz.func103 ?_
 (repeat' (conv=>whnf);first|refine aC ?_ ?_<;>intro _|refine z1_F1 ?_|fail);all_goals try (conv=>whnf)
 obtain⟨a,rfl⟩:=Int.eq_ofNat_of_zero_le ha
 obtain⟨b,rfl⟩:=Int.eq_ofNat_of_zero_le hb
 refine LoopOb.mk (Y:=Nat×Nat) (st:=fun y=>⟨[(0,i64 y.1),(1,i64 y.2)],[]⟩)
  (inv:=fun y=>Nat.gcd y.1 y.2=Nat.gcd a b) (fun y=>y.2) (a,b) [] rfl (by(exact aL)) ?_
 rintro⟨x,y⟩ hg
 replace hg:Nat.gcd x y=Nat.gcd a b:=hg
 (repeat' (conv=>whnf);first|refine aC ?_ ?_<;>intro _|refine z2_F1 ?_|fail);all_goals try (conv=>whnf)
 ·have hy0:(y:Int)≠0:=by assumption
  have e:(x:Int).tmod y=(x%y:Nat):=by rw [Int.tmod_eq_emod_of_nonneg (by omega)];rfl
  refine⟨hy0,?_⟩
  (repeat' (conv=>whnf);first|refine aC ?_ ?_<;>intro _|refine z2_F1 ?_|fail);all_goals try (conv=>whnf)
  refine⟨(y,x%y),[],?_,Nat.mod_lt _ (by omega),by(exact aL)⟩
  rw [←hg]
  simp only
  rw [Nat.gcd_comm x y,Nat.gcd_rec y x,Nat.gcd_comm]
 ·have hy0:¬(y:Int)≠0:=by assumption
  have:y=0:=by omega
  subst this
  refine⟨rfl,?_⟩
  have e1:(a:Int).natAbs =a:=rfl
  have e2:(b:Int).natAbs =b:=rfl
  rw [e1,e2,←hg]
  simp [oneS]
theorem rabs_ok (n:Int) (hn: -9223372036854775808<n∧n≤9223372036854775807):Ctr Tryz.prog 104 [i64 n] [] (fun r o=>o=[]∧r=i64 n.natAbs):=by
 refine fI 0 Tryz.func104 ?_
 (repeat' (conv=>whnf);first|refine aC ?_ ?_<;>intro<;>try omega|refine z1_F1 ?_|fail);all_goals try (conv=>whnf)
 all_goals
  refine⟨rfl,?_⟩
  show SV.num IntKind.i64 _=SV.num IntKind.i64 _
  congr 1;omega
theorem z6_F1 {G H:Prop} (k:H) (h:H→G:=by first|exact fun r=>aS r|exact fun r=>aG r|exact fun r=>aD r|exact fun r=>aH r|exact fun r=>aP_F1 r|exact fun r=>aI r|exact fun r=>aJ r|exact fun r=>aW (.qs [0,1,2,3,4,5,6,7,8,9,10,11,12,13,14,15,16,17,18,19,20,22,23] (.l 21 [23] (.l 24 [] (.qs [25,26,27] .nil) .no) .no)) r):G:=h k
theorem rValid_ok (x y:Int):Ctr Tryz.prog 60 [.agg [i64 x,i64 y]] [] (fun r o=>o=[]∧r= .bp (VF (x,y))):=by
 refine Ctr.imp ?_
 refine fI 0 Tryz.func60 ?_
 (repeat' (conv=>whnf);first|refine aC ?_ ?_<;>intro<;>try omega|refine z6_F1 ?_|(refine aK [] (rabs_ok x (by omega)) ?_)|(refine aK [] (rGcd_ok x.natAbs y (by omega) (by omega)) ?_)|fail);all_goals try (conv=>whnf)
 all_goals rw [vf_nat]
 ·exact⟨rfl,Imp.bp (by simp only [Int.natAbs_natCast];omega)⟩
 all_goals exact⟨rfl,Imp.bl ⟨fun h=>(by cases h),fun h=>by omega⟩⟩
theorem z7_F1 {G H:Prop} (k:H) (h:H→G:=by first|exact fun r=>aS r|exact fun r=>aG r|exact fun r=>aD r|exact fun r=>aH r|exact fun r=>aP_F1 r|exact fun r=>aI r|exact fun r=>aJ r|exact fun r=>aW (.qs [0,1,2,3,4,5,6] (.l 7 [] (.l 8 [] .nil .no) .no)) r):G:=h k
theorem rNew_ok (n d:Int) (hn: -9223372036854775808<n∧n≤9223372036854775807) (hd: -9223372036854775808<d∧d≤9223372036854775807):
  Ctr Tryz.prog 122 [i64 n,i64 d] [] (fun r o=>o=[]∧r=res (fnew n d)):=by
 refine fI 0 Tryz.func122 ?_
 (repeat' (conv=>whnf);first|refine aC ?_ ?_<;>intro<;>try omega|refine z7_F1 ?_|fail);all_goals try (conv=>whnf)
 ·refine⟨rfl,?_⟩
  unfold fnew;rw [if_pos (by assumption)];rfl
 have hd0:d≠0:=by assumption
 have hg:0<Nat.gcd n.natAbs d.natAbs:=Nat.gcd_pos_of_pos_right _ (by omega)
 refine LoopOb.mk (Y:=Unit) (st:=fun _=>⟨[(0,i64 n),(1,i64 d),(4, .ptr 0 0)],[.box [i64 0,i64 0]]⟩)
  (inv:=fun _=>True) (fun _=>0) () [0] trivial (by(exact aL)) ?_
 rintro⟨⟩ _
 (repeat' (conv=>whnf);first|refine aC ?_ ?_<;>intro<;>try omega|refine z7_F1 ?_|(refine aK [] (rabs_ok n (by omega)) ?_)|(refine aK [] (rabs_ok (0-n) (by omega)) ?_)|fail);all_goals try (conv=>whnf)
 all_goals
  have hb1:(Rat.divInt n d).num.natAbs ≤n.natAbs:=by
   rw [(divInt_terms n d hd0).2]
   have:=Nat.div_le_self n.natAbs (Nat.gcd n.natAbs d.natAbs)
   split<;>simp only [Int.natAbs_neg,Int.natAbs_natCast]<;>exact this
  have hb2:(Rat.divInt n d).den ≤d.natAbs:=by
   rw [(divInt_terms n d hd0).1];exact Nat.div_le_self _ _
  obtain⟨w,hw⟩:∃w,Rat.divInt n d=w:=⟨_,rfl⟩
  rw [hw]at hb1 hb2
 ·have hG:Ctr Tryz.prog 103 [i64 (0-n).natAbs,i64 (0-d)] [] (fun r o=>o=[]∧r=i64 (Nat.gcd n.natAbs d.natAbs)):=by
   have:=rGcd_ok (0-n).natAbs (0-d) (by omega) (by omega)
   have e:Nat.gcd ((0-n).natAbs :Int).natAbs (0-d).natAbs =Nat.gcd n.natAbs d.natAbs:=by congr 1<;>omega
   rwa [e]at this
  obtain⟨q1,q2⟩:=new_neg (n:=n) (d:=d) (by omega)
  rw [hw]at q1 q2
  refine aK [] hG ?_
  (repeat' (conv=>whnf);first|refine aC ?_ ?_<;>intro<;>try omega|refine z7_F1 ?_|fail);all_goals try (conv=>whnf)
  refine⟨by omega,?_⟩
  rw [q1]
  (repeat' (conv=>whnf);first|refine aC ?_ ?_<;>intro<;>try omega|refine z7_F1 ?_|fail);all_goals try (conv=>whnf)
  refine⟨by omega,?_⟩
  rw [q2]
  (repeat' (conv=>whnf);first|refine aC ?_ ?_<;>intro _|refine z7_F1 ?_|(refine aK [] (rValid_ok w.num w.den) ?_)|fail);all_goals try (conv=>whnf)
  ·exact⟨rfl,by unfold fnew;rw [if_neg hd0,hw];unfold fenc;rw [if_neg (fun h=>absurd (vf_enc_iff.2 h) (by assumption))];rfl⟩
  ·exact⟨rfl,by unfold fnew;rw [if_neg hd0,hw];unfold fenc;rw [if_pos (vf_enc_iff.1 (Classical.not_not.1 (by assumption)))];rfl⟩
 ·have hG:Ctr Tryz.prog 103 [i64 n.natAbs,i64 d] [] (fun r o=>o=[]∧r=i64 (Nat.gcd n.natAbs d.natAbs)):=by
   have:=rGcd_ok n.natAbs d (by omega) (by omega)
   have e:Nat.gcd (n.natAbs:Int).natAbs d.natAbs=Nat.gcd n.natAbs d.natAbs:=by congr 1<;>omega
   rwa [e]at this
  obtain⟨q1,q2⟩:=new_pos (n:=n) (d:=d) (by omega)
  rw [hw]at q1 q2
  refine aK [] hG ?_
  (repeat' (conv=>whnf);first|refine aC ?_ ?_<;>intro<;>try omega|refine z7_F1 ?_|fail);all_goals try (conv=>whnf)
  refine⟨by omega,?_⟩
  rw [q1]
  (repeat' (conv=>whnf);first|refine aC ?_ ?_<;>intro<;>try omega|refine z7_F1 ?_|fail);all_goals try (conv=>whnf)
  refine⟨by omega,?_⟩
  rw [q2]
  (repeat' (conv=>whnf);first|refine aC ?_ ?_<;>intro _|refine z7_F1 ?_|(refine aK [] (rValid_ok w.num w.den) ?_)|fail);all_goals try (conv=>whnf)
  ·exact⟨rfl,by unfold fnew;rw [if_neg hd0,hw];unfold fenc;rw [if_neg (fun h=>absurd (vf_enc_iff.2 h) (by assumption))];rfl⟩
  ·exact⟨rfl,by unfold fnew;rw [if_neg hd0,hw];unfold fenc;rw [if_pos (vf_enc_iff.1 (Classical.not_not.1 (by assumption)))];rfl⟩
end Go.Proofs.YtbcjojomkibgeaaGreat
