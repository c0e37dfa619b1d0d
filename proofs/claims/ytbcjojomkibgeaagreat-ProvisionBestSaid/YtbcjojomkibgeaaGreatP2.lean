/- Lemmas of this seat. Conditions: as stated. -/
import Derived.Test.YtbcjojomkibgeaaGreatF2
set_option linter.unusedVariables false
set_option linter.unusedSimpArgs false
set_option maxHeartbeats 2000000
set_option maxRecDepth 4000
namespace Go.Proofs.YtbcjojomkibgeaaGreat
open Go.Sx Go.Fq
theorem pgo_step {a b:List F} {s:F} {i:Nat} (ha:i<a.length) (hb:i<b.length):pgo (a.drop i) (b.drop i) s=
  if(fmul (a.getD i (0,1)) (b.getD i (0,1))).2.2 =0 then
   if(fadd s ((fmul (a.getD i (0,1)) (b.getD i (0,1))).1,(fmul (a.getD i (0,1)) (b.getD i (0,1))).2.1)).2.2 =0 then
    pgo (a.drop (i+1)) (b.drop (i+1)) ((fadd s ((fmul (a.getD i (0,1)) (b.getD i (0,1))).1,(fmul (a.getD i (0,1)) (b.getD i (0,1))).2.1)).1,(fadd s ((fmul (a.getD i (0,1)) (b.getD i (0,1))).1,(fmul (a.getD i (0,1)) (b.getD i (0,1))).2.1)).2.1)
   else(0,0,3)
  else(0,0,3):=by
 rw [List.drop_eq_getElem_cons ha,List.drop_eq_getElem_cons hb]
 simp only [pgo,List.getD_eq_getElem?_getD,ha,hb,List.getElem?_eq_getElem,Option.getD_some]
theorem pgo_end {a b:List F} {s:F} {i:Nat} (ha:a.length≤i):pgo (a.drop i) (b.drop i) s=(s.1,s.2,0):=by
 rw [List.drop_eq_nil_of_le ha];simp [pgo]
theorem fMulF (a b:F):Ctr Tryz.prog 94 [.agg [i64 a.1,i64 a.2], .agg [i64 b.1,i64 b.2]] [] (fun r o=>o=[]∧r=res (fmul a b)):=fMul_ok a.1 a.2 b.1 b.2
theorem fAddF (a b:F):Ctr Tryz.prog 95 [.agg [i64 a.1,i64 a.2], .agg [i64 b.1,i64 b.2]] [] (fun r o=>o=[]∧r=res (fadd a b)):=fAdd_ok a.1 a.2 b.1 b.2
theorem fCompareF (a b:F):Ctr Tryz.prog 91 [.agg [i64 a.1,i64 a.2], .agg [i64 b.1,i64 b.2]] [] (fun r o=>o=[]∧r=i64 (fcmp a b)):=fCompare_ok a.1 a.2 b.1 b.2
theorem rMulF (a b:F):Ctr Tryz.prog 96 [.agg [i64 a.1,i64 a.2], .agg [i64 b.1,i64 b.2]] [] (fun r o=>o=[]∧r=res (fmul a b)):=rMul_ok a.1 a.2 b.1 b.2
theorem rAddF (a b:F):Ctr Tryz.prog 97 [.agg [i64 a.1,i64 a.2], .agg [i64 b.1,i64 b.2]] [] (fun r o=>o=[]∧r=res (fadd a b)):=rAdd_ok a.1 a.2 b.1 b.2
theorem rCompareF (a b:F):Ctr Tryz.prog 26 [.agg [i64 a.1,i64 a.2], .agg [i64 b.1,i64 b.2]] [] (fun r o=>o=[]∧r=i64 (fcmp a b)):=rCompare_ok a.1 a.2 b.1 b.2
theorem zero_ok:Ctr Tryz.prog 79 [] [] (fun r o=>o=[]∧r= .agg [i64 0,i64 1]):=by
 refine fI 0 Tryz.func79 ?_
 (repeat' (conv=>whnf);first|refine aC ?_ ?_<;>intro _|refine z1_F1 ?_|fail);all_goals try (conv=>whnf)
 exact⟨rfl,rfl⟩
theorem Product_ok (a b:List F) (hl:a.length≤9223372036854775807):Ctr Tryz.prog 55 [fsl a,fsl b] [] (fun r o=>o=[]∧r=res (prod a b)):=by
 refine fI 0 Tryz.func55 ?_
 have hla:=fr_len a
 have hlb:=fr_len b
 (repeat' (conv=>whnf);first|refine aC ?_ ?_<;>intro _|refine z1_F1 ?_|fail);all_goals try (conv=>whnf)
 ·exact⟨rfl,by unfold prod;rw [if_neg (by omega)];rfl⟩
 have hab:a.length=b.length:=by omega
 have hp:prod a b=pgo (a.drop 0) (b.drop 0) (0,1):=by unfold prod;rw [if_pos hab];rfl
 refine LoopOb.mk (Y:=Nat×F) (st:=fun y=>⟨[(19,i64 y.1),(18,i64 (fr2 a).length),(17,fsl a),(6, .ptr 1 0),(4, .ptr 0 0),(5,i64 0),(0,fsl a),(1,fsl b)],[.box [i64 0,i64 0], .box [i64 y.2.1,i64 y.2.2]]⟩)
  (inv:=fun y=>y.1≤a.length∧prod a b=pgo (a.drop y.1) (b.drop y.1) y.2) (fun y=>a.length-y.1) (0,(0,1)) [0,1] ⟨by simp,hp⟩ (by(exact aL)) ?_
 rintro⟨i,s⟩ ⟨hi,hp⟩
 dsimp only at hi hp⊢
 (repeat' (conv=>whnf);first|refine z1_F1 ?_|fail);all_goals try (conv=>whnf)
 refine CondOb.mk (fun hlt=>?_) (fun hlt=>?_)
 ·have hps:=pgo_step (a:=a) (b:=b) (s:=s) (i:=i) (by omega) (by omega)
  rw [←hp]at hps
  have cM:=fMulF (a.getD i (0,1)) (b.getD i (0,1))
  generalize fmul (a.getD i (0,1)) (b.getD i (0,1))=m at*
  have cA:=fAddF s (m.1,m.2.1)
  generalize fadd s (m.1,m.2.1)=t at*
  (repeat' (conv=>whnf);first|refine aC ?_ ?_<;>intro _|refine z1_F1 ?_|refine⟨i,_,rfl,fr_get (by omega),?_⟩|(refine aK [] cM ?_)|(refine aK [] cA ?_)|refine DrawOb.mk [] (.qs [0,1,2,3,4,5,6,7] (.l 8 [] (.qs [9,10,11] (.l 12 [] (.l 13 [] (.qs [14] .nil) .no) .no)) (.l 12 [7,3] (.l 8 [] (.qs [9,10,11] (.l 13 [] (.qs [14] .nil) .no)) .no) .no))) (by decide+kernel) ?_|refine And.intro ?_ ?_|fail);all_goals try (conv=>whnf)
  all_goals first
   |(exfalso;omega)
   |exact(by rw [hps,if_neg (by assumption)];rfl)
   |exact(by rw [hps,if_pos (by assumption),if_neg (by assumption)];rfl)
   |exact⟨(i+1,(t.1,t.2.1)),[0,1],⟨by dsimp only;omega,by rw [hps,if_pos (by omega),if_pos (by omega)]⟩,by dsimp only;omega,by(exact aL)⟩
 ·(repeat' (conv=>whnf);first|refine aC ?_ ?_<;>intro _|refine z1_F1 ?_|fail);all_goals try (conv=>whnf)
  exact⟨rfl,by rw [hp,pgo_end (by omega)];rfl⟩
theorem z2_P2 {G H:Prop} (k:H) (h:H→G:=by first|exact fun r=>aS r|exact fun r=>aG r|exact fun r=>aD r|exact fun r=>aH r|exact fun r=>aP_F1 r|exact fun r=>aI r|exact fun r=>aJ r|exact fun r=>aW (.qs [0,1,2,3,4,5,6,7] (.l 8 [] (.qs [9,10,11] (.l 12 [] (.l 13 [] (.qs [14] .nil) .no) .no)) (.l 12 [7,3] (.l 8 [] (.qs [9,10,11] (.l 13 [] (.qs [14] .nil) .no)) .no) .no))) r):G:=h k
theorem rProduct_ok (a b:List F) (hl:a.length≤9223372036854775807):Ctr Tryz.prog 56 [fsl a,fsl b] [] (fun r o=>o=[]∧r=res (prod a b)):=by
 refine fI 0 Tryz.func56 ?_
 have hla:=fr_len a
 have hlb:=fr_len b
 (repeat' (conv=>whnf);first|refine aC ?_ ?_<;>intro _|refine z1_F1 ?_|(refine aK [] (zero_ok) ?_)|fail);all_goals try (conv=>whnf)
 ·exact⟨rfl,by unfold prod;rw [if_neg (by omega)];rfl⟩
 have hab:a.length=b.length:=by omega
 have hp:prod a b=pgo (a.drop 0) (b.drop 0) (0,1):=by unfold prod;rw [if_pos hab];rfl
 refine LoopOb.mk (Y:=Nat×F) (st:=fun y=>⟨[(7,i64 y.1),(6, .ptr 1 0),(4, .ptr 0 0),(5,i64 0),(0,fsl a),(1,fsl b)],[.box [i64 0,i64 0], .box [i64 y.2.1,i64 y.2.2]]⟩)
  (inv:=fun y=>y.1≤a.length∧prod a b=pgo (a.drop y.1) (b.drop y.1) y.2) (fun y=>a.length-y.1) (0,(0,1)) [0,1] ⟨by simp,hp⟩ (by(exact aL)) ?_
 rintro⟨i,s⟩ ⟨hi,hp⟩
 dsimp only at hi hp⊢
 (repeat' (conv=>whnf);first|refine z1_F1 ?_|fail);all_goals try (conv=>whnf)
 refine CondOb.mk (fun hlt=>?_) (fun hlt=>?_)
 ·have hps:=pgo_step (a:=a) (b:=b) (s:=s) (i:=i) (by omega) (by omega)
  rw [←hp]at hps
  have cM:=rMulF (a.getD i (0,1)) (b.getD i (0,1))
  generalize fmul (a.getD i (0,1)) (b.getD i (0,1))=m at*
  have cA:=rAddF s (m.1,m.2.1)
  generalize fadd s (m.1,m.2.1)=t at*
  (repeat' (conv=>whnf);first|refine aC ?_ ?_<;>intro _|refine z2_P2 ?_|refine⟨i,_,rfl,fr_get (by omega),?_⟩|(refine aK [] cM ?_)|(refine aK [] cA ?_)|refine And.intro ?_ ?_|fail);all_goals try (conv=>whnf)
  all_goals first
   |(exfalso;omega)
   |exact(by rw [hps,if_neg (by assumption)];rfl)
   |exact(by rw [hps,if_pos (by omega),if_neg (by assumption)];rfl)
   |exact⟨(i+1,(t.1,t.2.1)),[0,1],⟨by dsimp only;omega,by rw [hps,if_pos (by omega),if_pos (by omega)]⟩,by dsimp only;omega,by(exact aL)⟩
 ·(repeat' (conv=>whnf);first|refine aC ?_ ?_<;>intro _|refine z1_F1 ?_|fail);all_goals try (conv=>whnf)
  exact⟨rfl,by rw [hp,pgo_end (by omega)];rfl⟩
end Go.Proofs.YtbcjojomkibgeaaGreat
