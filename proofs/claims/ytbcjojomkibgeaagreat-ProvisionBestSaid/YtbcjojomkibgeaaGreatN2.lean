/- Lemmas of this seat. Conditions: as stated. -/
import Derived.Test.YtbcjojomkibgeaaGreatKs
set_option linter.unusedVariables false
set_option linter.unusedSimpArgs false
set_option maxHeartbeats 2000000
set_option maxRecDepth 4000
namespace Go.Proofs.YtbcjojomkibgeaaGreat
open Go.Sx Go.Np
theorem wcl_ok (x lo hi:Int):Ctr Tryz.prog 170 [i64 x, .pptr [i64 lo], .pptr [i64 hi]] [] (fun r o=>o=[]∧r= .bp (x<lo∨hi<x)):=by
 refine Ctr.imp ?_
 refine fI 0 Tryz.func170 ?_
 (repeat' (conv=>whnf);first|refine aC ?_ ?_<;>intro<;>try omega|refine z1_Ks ?_|fail);all_goals try (conv=>whnf)
 ·exact⟨rfl,Imp.bl ⟨fun _=> .inl (by assumption),fun _=>rfl⟩⟩
 ·exact⟨rfl,Imp.bp ⟨fun h=> .inr h,fun h=>by omega⟩⟩
theorem idxF_ok (l:List Int) (hl:l.length≤9223372036854775807) (g:Nat) (c d:SV) (P:Int→Prop) (hg:∀x,Ctr Tryz.prog g [i64 x,c,d] [] (fun r o=>o=[]∧r= .bp (P x))):
  Ctr Tryz.prog 171 [.psl 1 (ints l), .fn g [.shut c, .shut d]] [] (fun r o=>∃z:Int,(0≤z↔∃i,i<l.length∧P (l.getD i 0))∧o=[]∧r=i64 z):=by
 refine fI 0 Tryz.func171 ?_
 have hll:=ints_len l
 (repeat' (conv=>whnf);first|refine aC ?_ ?_<;>intro _|refine z1_Ks ?_|fail);all_goals try (conv=>whnf)
 refine LoopOb.mk (Y:=Nat) (st:=fun i=>⟨[(8,i64 i),(7,i64 (ints l).length),(1, .fn g [.shut c, .shut d]),(0, .psl 1 (ints l))],[]⟩)
  (inv:=fun i=>i≤l.length∧∀j<i,¬P (l.getD j 0)) (fun i=>l.length-i) 0 [] ⟨by omega,by omega⟩ (by(exact aL)) ?_
 rintro i ⟨hi,hv⟩
 (repeat' (conv=>whnf);first|refine z1_Ks ?_|fail);all_goals try (conv=>whnf)
 refine CondOb.mk (fun hlt=>?_) (fun hlt=>?_)
 ·have cg:=hg (l.getD i 0)
  (repeat' (conv=>whnf);first|refine aC ?_ ?_<;>intro _|refine z1_Ks ?_|(refine CallOb.mk [] cg rfl ⟨Imp.refl _,Imp.unshut _,Imp.unshut _,trivial⟩ rfl rfl ?_;rintro _ _ ⟨rfl,rfl⟩)|fail);all_goals try (conv=>whnf)
  ·exact⟨i,⟨fun _=>⟨i,by omega,by assumption⟩,fun _=>by omega⟩,rfl,rfl⟩
  ·refine⟨i+1,[],⟨by omega,fun j hj=>?_⟩,by omega,by(exact aL)⟩
   by_cases e:j=i
   ·subst e;assumption
   ·exact hv j (by omega)
 ·(repeat' (conv=>whnf);first|refine aC ?_ ?_<;>intro _|refine z1_Ks ?_|fail);all_goals try (conv=>whnf)
  exact⟨-1,⟨fun h=>by omega,fun⟨j,h1,h2⟩=>absurd h2 (hv j (by omega))⟩,rfl,rfl⟩
theorem cntF_ok (l:List Int) (hl:l.length≤9223372036854775807) (g:Nat) (c d:SV) (P:Int→Prop) (hg:∀x,Ctr Tryz.prog g [i64 x,c,d] [] (fun r o=>o=[]∧r= .bp (P x))):
  Ctr Tryz.prog 169 [.psl 1 (ints l), .fn g [.shut c, .shut d]] [] (fun r o=>o=[]∧r= .bp (∃i,i<l.length∧P (l.getD i 0))):=by
 refine Ctr.imp ?_
 refine fI 0 Tryz.func169 ?_
 (repeat' (conv=>whnf);first|refine aC ?_ ?_<;>intro _|refine z1_Ks ?_|fail);all_goals try (conv=>whnf)
 refine aM [] (idxF_ok l hl g c d P hg) rfl rfl ?_
 rintro _ _ ⟨z,hz,rfl,rfl⟩
 (repeat' (conv=>whnf);first|refine aC ?_ ?_<;>intro _|refine z1_Ks ?_|fail);all_goals try (conv=>whnf)
 exact⟨rfl,Imp.bp hz⟩
theorem inR_iff {l:List Int} {lo hi:Int}:inR l lo hi↔¬∃i,i<l.length∧(l.getD i 0<lo∨hi<l.getD i 0):=by
 unfold inR
 constructor
 ·rintro h ⟨i,h1,h2⟩
  have:=h _ (getD_in (d:=0) h1)
  omega
 ·intro h x hx
  obtain⟨i,h1,rfl⟩:=List.mem_iff_getElem.1 hx
  by_cases e:lo≤l[i]∧l[i]≤hi
  ·exact e
  ·exact absurd ⟨i,h1,by rw [List.getD_eq_getElem?_getD,List.getElem?_eq_getElem h1,Option.getD_some];omega⟩ h
theorem within_ok (l:List Int) (hl:l.length≤9223372036854775807) (lo hi:Int):Ctr Tryz.prog 168 [.psl 1 (ints l),i64 lo,i64 hi] [] (fun r o=>o=[]∧r= .bp (inR l lo hi)):=by
 refine Ctr.imp ?_
 refine fI 0 Tryz.func168 ?_
 (repeat' (conv=>whnf);first|refine aC ?_ ?_<;>intro _|refine z2_Ks ?_|fail);all_goals try (conv=>whnf)
 refine .mk [.fb 0, .fb 1] ?_
 (repeat' (conv=>whnf);first|refine aC ?_ ?_<;>intro _|refine z1_Ks ?_|fail);all_goals try (conv=>whnf)
 refine CallOb.mk [] (cntF_ok l hl 170 (.pptr [i64 lo]) (.pptr [i64 hi]) (fun x=>x<lo∨hi<x) (fun x=>wcl_ok x lo hi)) rfl ⟨Imp.refl _,Imp.fn ⟨Imp.shut rfl,Imp.shut rfl,trivial⟩,trivial⟩ rfl rfl ?_
 rintro _ _ ⟨rfl,rfl⟩
 (repeat' (conv=>whnf);first|refine aC ?_ ?_<;>intro _|refine z1_Ks ?_|fail);all_goals try (conv=>whnf)
 exact⟨rfl,Imp.bp inR_iff.symm⟩
abbrev lls (l:List (List Int)):List (List SV):=l.map fun u=>[.psl 1 (ints u)]
theorem lll (l:List (List Int)):(lls l).length =l.length:=by simp [lls]
theorem llg {l:List (List Int)} {i:Nat} (h:i<l.length):(lls l)[i]? =some [.psl 1 (ints (l.getD i []))]:=by simp [lls,h]
theorem lists_ok (right:Prop) (us:List (List Int)) (hu:us.length≤10) (hl:∀u∈us,u.length≤9223372036854775807):
  Ctr Tryz.prog 161 [.bp right, .psl 1 (lls us)] [] (fun r o=>∃e:Int,(¬right∧e=2∨right∧(∃u∈us,u.length≠0)∧e=6∨right∧(∀u∈us,u.length=0)∧e=0)∧o=[]∧r=i64 e):=by
 refine fI 0 Tryz.func161 ?_
 have hll:=lll us
 (repeat' (conv=>whnf);first|refine aC ?_ ?_<;>intro _|refine z1_Ks ?_|fail);all_goals try (conv=>whnf)
 ·exact⟨2, .inl ⟨by assumption,rfl⟩,rfl,rfl⟩
 have hr:=Classical.not_not.1 ‹¬¬right›
 refine LoopOb.mk (Y:=Nat) (st:=fun i=>⟨[(11,i64 i),(10,i64 (lls us).length),(9, .psl 1 (lls us))],[]⟩)
  (inv:=fun i=>i≤us.length∧∀j<i,(us.getD j []).length =0) (fun i=>us.length-i) 0 [] ⟨by omega,by omega⟩ (by(exact aL)) ?_
 rintro i ⟨hi',hv⟩
 (repeat' (conv=>whnf);first|refine z1_Ks ?_|fail);all_goals try (conv=>whnf)
 refine CondOb.mk (fun hlt=>?_) (fun hlt=>?_)
 ·have hil:i<us.length:=by omega
  have hin:=getD_in (d:=([]:List Int)) hil
  have hle:=hl _ hin
  have hst:(us.getD i []).length =0→∀j<i+1,(us.getD j []).length =0:=fun h j hj=>by
   by_cases e:j=i
   ·rw [e];exact h
   ·exact hv j (by omega)
  have hg:=llg hil
  generalize us.getD i []=u at*
  have hlu:=ints_len u
  (repeat' (conv=>whnf);first|refine aC ?_ ?_<;>intro<;>try omega|refine z1_Ks ?_|refine⟨i,_,rfl,hg,?_⟩|fail);all_goals try (conv=>whnf)
  ·exact⟨6, .inr (.inl ⟨hr,⟨u,hin,by omega⟩,rfl⟩),rfl,rfl⟩
  ·exact⟨i+1,[],⟨by omega,hst (by omega)⟩,by omega,by(exact aL)⟩
 ·(repeat' (conv=>whnf);first|refine aC ?_ ?_<;>intro _|refine z1_Ks ?_|fail);all_goals try (conv=>whnf)
  refine⟨0, .inr (.inr ⟨hr,fun u hu=>?_,rfl⟩),rfl,rfl⟩
  obtain⟨j,hj,rfl⟩:=List.mem_iff_getElem.1 hu
  have:=hv j (by omega)
  rw [List.getD_eq_getElem?_getD,List.getElem?_eq_getElem hj,Option.getD_some]at this
  exact this
end Go.Proofs.YtbcjojomkibgeaaGreat
