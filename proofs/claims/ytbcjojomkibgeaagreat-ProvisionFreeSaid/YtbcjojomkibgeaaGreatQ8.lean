/- Lemmas of this seat. Conditions: as stated. -/
import Derived.Test.YtbcjojomkibgeaaGreatQ7
import Derived.Test.YtbcjojomkibgeaaGreatF2
set_option linter.unusedVariables false
set_option linter.unusedSimpArgs false
set_option maxHeartbeats 2000000
set_option maxRecDepth 4000
namespace Go.Proofs.YtbcjojomkibgeaaGreat
open Go.Sx Go.Fq Go.Dt
structure FrS (a b:Int) (ov q:Prop) (x:F):Prop where
 ex:¬q→¬ov∧VF x∧val x=Rat.divInt a b
 fit:b≠0→(fnew a b).2.2 =0→q→ov
theorem gcd_div {a b:Int} (hb:b≠0):∃g:Int,g=(Nat.gcd a.natAbs b.natAbs:Nat)∧1≤g∧∃x y,a=x*g∧b=y*g∧a.tdiv g=x∧b.tdiv g=y:=by
 refine⟨_,rfl,?_,?_⟩
 ·have:0<Nat.gcd a.natAbs b.natAbs:=Nat.gcd_pos_of_pos_right _ (by omega)
  omega
 ·have hg:0<Nat.gcd a.natAbs b.natAbs:=Nat.gcd_pos_of_pos_right _ (by omega)
  obtain⟨x,hx⟩:=Int.ofNat_dvd_left.2 (Nat.gcd_dvd_left a.natAbs b.natAbs)
  obtain⟨y,hy⟩:=Int.ofNat_dvd_left.2 (Nat.gcd_dvd_right a.natAbs b.natAbs)
  generalize Nat.gcd a.natAbs b.natAbs=g at*
  refine⟨x,y,by rw [Int.mul_comm];exact hx,by rw [Int.mul_comm];exact hy,?_,?_⟩
  ·rw [hx];exact Int.mul_tdiv_cancel_left _ (by omega)
  ·rw [hy];exact Int.mul_tdiv_cancel_left _ (by omega)
theorem fnew_scale {x y g:Int} (hg:g≠0) (hy:y≠0):fnew (x*g) (y*g)=fnew x y:=by
 unfold fnew
 rw [if_neg (by intro h;rcases Int.mul_eq_zero.1 h with h|h<;>omega),if_neg hy,Rat.divInt_mul_right hg]
theorem vf_01:VF (0,1):=by decide
theorem z1_Q8 {G H:Prop} (k:H) (h:H→G:=by first|exact fun r=>aS r|exact fun r=>aG r|exact fun r=>aD r|exact fun r=>aH r|exact fun r=>aP_Q5 r|exact fun r=>aI r|exact fun r=>aJ r|exact fun r=>aW (.qs [0,1,2,3,4,5] (.l 6 [] (.qs [7,8,9] (.l 10 [] (.qs [11] .nil) .no)) .no)) r):G:=h k
theorem sfrac_ok (N k w n m:Nat) (f:Nat→Nat→Int) (bs tu sl:Nat→Int) (d co:Int) (ov:Prop) (a b:Int) (ha:B62 a) (hb:B62 b):
  Ctr Tryz.prog 119 [.ptr 0 0,i64 a,i64 b] (tab N k w n m f bs tu sl d co ov) (fun r o=>∃x:Prop×F,FrS a b ov x.1 x.2∧o=tab N k w n m f bs tu sl d co x.1∧r= .agg [i64 x.2.1,i64 x.2.2]):=by
 refine Ctr.impO ?_
 refine fI 5 Tryz.func119 ?_
 have cG:=sgcd_ok a b ha hb
 (repeat' (conv=>whnf);first|refine aC ?_ ?_<;>intro<;>try omega|refine z1_Q8 ?_|fail);all_goals try (conv=>whnf)
 ·exact⟨(True,(0,1)),⟨fun h=>absurd trivial h,fun _ _ _=>by assumption⟩,tab_ov,Imp.refl _⟩
 ·exact⟨(True,(0,1)),⟨fun h=>absurd trivial h,fun h=>absurd (by assumption) h⟩,tab_ov,Imp.refl _⟩
 have hb0:b≠0:=by assumption
 have hov:¬ov:=by assumption
 refine aK [] cG ?_
 obtain⟨g,hg,hg1,x,y,ea,eb,e1,e2⟩:=gcd_div (a:=a) (b:=b) hb0
 rw [←hg]
 have hy0:y≠0:=by rintro rfl;rw [Int.zero_mul]at eb;exact hb0 eb
 have hxa:x.natAbs≤a.natAbs:=by rw [ea,Int.natAbs_mul];exact Nat.le_mul_of_pos_right _ (by omega)
 have hya:y.natAbs≤b.natAbs:=by rw [eb,Int.natAbs_mul];exact Nat.le_mul_of_pos_right _ (by omega)
 have ef1:fnew x y=fnew a b:=by rw [ea,eb];exact(fnew_scale (by omega) hy0).symm
 have ef2:fnew (-x) (-y)=fnew a b:=by
  have:a= -x* -g∧b= -y* -g:=by rw [Int.neg_mul_neg,Int.neg_mul_neg];exact⟨ea,eb⟩
  rw [this.1,this.2];exact(fnew_scale (by omega) (by omega)).symm
 have n1:a.tdiv (0-g)= -x:=by rw [Int.zero_sub,Int.tdiv_neg,e1]
 have n2:b.tdiv (0-g)= -y:=by rw [Int.zero_sub,Int.tdiv_neg,e2]
 have hgb:g≤4611686018427387904:=by
  have:=Nat.le_of_dvd (by omega) (Nat.gcd_dvd_right a.natAbs b.natAbs)
  omega
 have c1:=fNew_ok x y (by omega) (by omega)
 have c2:=fNew_ok (-x) (-y) (by omega) (by omega)
 rw [ef1]at c1
 rw [ef2]at c2
 have hok:=fun u v (h:fnew a b=(u,v,0))=>fnew_ok hb0 h
 have hfx:(fnew a b).2.2 =0∨(fnew a b).2.2 ≠0:=by omega
 have hfin:∀q:Prop,(q↔(fnew a b).2.2 ≠0)→FrS a b ov q ((fnew a b).1,(fnew a b).2.1):=fun q hq=>⟨fun h=>⟨hov,by
  have h0:(fnew a b).2.2 =0:=Classical.not_not.1 fun e=>h (hq.2 e)
  exact hok _ _ (by rw [←h0])⟩,fun _ h h2=>absurd h (hq.1 h2)⟩
 clear hok ef1 ef2 cG
 generalize fnew a b=z at*
 (repeat' (conv=>whnf);first|(refine And.intro (by omega) ?_;first|rw [e1]|rw [e2]|rw [n1]|rw [n2])|refine aC ?_ ?_<;>intro<;>try omega|refine z1_Q8 ?_|(refine aK [] c1 ?_)|(refine aK [] c2 ?_)|fail);all_goals try (conv=>whnf)
 all_goals first
  |exact⟨(True,(z.1,z.2.1)),hfin True ⟨fun _=>by assumption,fun _=>trivial⟩,tab_ov,Imp.refl _⟩
  |exact⟨(ov,(z.1,z.2.1)),hfin ov ⟨fun h=>absurd h hov,fun h=>absurd h (by assumption)⟩,OI.refl _,Imp.refl _⟩
end Go.Proofs.YtbcjojomkibgeaaGreat
