/- Lemmas of this seat. Conditions: as stated. -/
import Derived.Test.YtbcjojomkibgeaaGreatF1
set_option linter.unusedVariables false
set_option linter.unusedSimpArgs false
set_option maxHeartbeats 2000000
set_option maxRecDepth 4000
namespace Go.Proofs.YtbcjojomkibgeaaGreat
section
open Go.Sx Go.Fq
theorem rCompare_ok (x y u v:Int):Ctr Tryz.prog 26 [.agg [i64 x,i64 y], .agg [i64 u,i64 v]] [] (fun r o=>o=[]∧r=i64 (fcmp (x,y) (u,v))):=by
 refine fI 0 Tryz.func26 ?_
 (repeat' (conv=>whnf);first|refine aC ?_ ?_<;>intro _|refine z5_F1 ?_|(refine aK [] (rValid_ok x y) ?_)|(refine aK [] (rValid_ok u v) ?_)|fail);all_goals try (conv=>whnf)
 ·exact⟨rfl,by unfold fcmp;rw [if_neg (fun h=>absurd h.1 (by assumption))];rfl⟩
 ·exact⟨rfl,by unfold fcmp;rw [if_neg (fun h=>absurd h.2 (by assumption))];rfl⟩
 have h1:=Classical.not_not.1 ‹¬¬VF (x,y)›
 have h2:=Classical.not_not.1 ‹¬¬VF (u,v)›
 have hb:=vf_mul h1 h2
 have hc:=h1.cmp h2
 have hd:=h2.cmp h1
 dsimp only at hb hc hd
 (repeat' (conv=>whnf);first|refine aC ?_ ?_<;>intro _|refine z5_F1 ?_|fail);all_goals try (conv=>whnf)
 ·exact⟨rfl,by unfold fcmp;rw [if_pos ⟨h1,h2⟩,if_pos (hc.1 (by assumption))];rfl⟩
 ·exact⟨rfl,by unfold fcmp;rw [if_pos ⟨h1,h2⟩,if_neg (fun h=>absurd (hc.2 h) (by assumption)),if_pos (hd.1 (by assumption))];rfl⟩
 ·exact⟨rfl,by unfold fcmp;rw [if_pos ⟨h1,h2⟩,if_neg (fun h=>absurd (hc.2 h) (by assumption)),if_neg (fun h=>absurd (hd.2 h) (by assumption))];rfl⟩
end
section
open Go.Sx Go.Fq
abbrev fr2 (l:List F):List (List SV):=l.map fun a=>[i64 a.1,i64 a.2]
abbrev fsl (l:List F):SV:= .psl 2 (fr2 l)
theorem fr_len (l:List F):(fr2 l).length =l.length:=by simp [fr2]
theorem fr_get {l:List F} {i:Nat} (h:i<l.length):(fr2 l)[i]? =some [i64 (l.getD i (0,1)).1,i64 (l.getD i (0,1)).2]:=by
 simp [fr2,h]
theorem all_to {l:List F} {P:F→Prop} {i:Nat} (h:∀j<i,P (l.getD j (0,1))) (hi:l.length≤i):∀f∈l,P f:=by
 intro f hf
 obtain⟨j,hj,rfl⟩:=List.mem_iff_getElem.1 hf
 have:=h j (by omega)
 simpa [hj]using this
theorem all_at {l:List F} {P:F→Prop} (h:∀f∈l,P f) {i:Nat} (hi:i<l.length):P (l.getD i (0,1)):=by
 have:=h l[i] (List.getElem_mem hi)
 simpa [hi]using this
theorem all_step {l:List F} {P:F→Prop} {i:Nat} (h:∀j<i,P (l.getD j (0,1))) (hi:P (l.getD i (0,1))):∀j<i+1,P (l.getD j (0,1)):=by
 intro j hj
 by_cases e:j=i
 ·rw [e];exact hi
 ·exact h j (by omega)
theorem valid_ok (l:List F) (hl:l.length≤9223372036854775807):Ctr Tryz.prog 90 [fsl l] [] (fun r o=>o=[]∧r= .bp (∀f∈l,VF f)):=by
 refine Ctr.imp ?_
 refine fI 0 Tryz.func90 ?_
 (repeat' (conv=>whnf);first|refine aC ?_ ?_<;>intro _|refine z1_F1 ?_|fail);all_goals try (conv=>whnf)
 refine LoopOb.mk (Y:=Nat) (st:=fun i=>⟨[(7,i64 i),(6,i64 (fr2 l).length),(5,fsl l),(2, .bl false)],[]⟩)
  (inv:=fun i=>i≤l.length∧∀j<i,VF (l.getD j (0,1))) (fun i=>l.length-i) 0 [] ⟨by omega,by omega⟩ (by(exact aL)) ?_
 rintro i ⟨hi,hv⟩
 have hln:=fr_len l
 (repeat' (conv=>whnf);first|refine aC ?_ ?_<;>intro _|refine z1_F1 ?_|fail);all_goals try (conv=>whnf)
 ·refine⟨i,_,rfl,fr_get (by omega),?_⟩
  (repeat' (conv=>whnf);first|refine aC ?_ ?_<;>intro _|refine z1_F1 ?_|(refine aK [] (fValid_ok (l.getD i (0,1)).1 (l.getD i (0,1)).2) ?_)|fail);all_goals try (conv=>whnf)
  ·exact⟨rfl,Imp.bl ⟨fun h=>(by cases h),fun h=>absurd (all_at h (i:=i) (by omega)) (by assumption)⟩⟩
  ·exact⟨i+1,[],⟨by omega,all_step hv (Classical.not_not.1 (by assumption))⟩,by omega,by(exact aL)⟩
 ·exact⟨rfl,Imp.bl ⟨fun _=>all_to hv (by omega),fun _=>rfl⟩⟩
end
section
open Go.Sx Go.Fq
theorem pgo_step {a b:List F} {s:F} {i:Nat} (ha:i<a.length) (hb:i<b.length):pgo (a.drop i) (b.drop i) s=
  if(fmul (a.getD i (0,1)) (b.getD i (0,1))).2.2 =0 then
   if(fadd s ((fmul (a.getD i (0,1)) (b.getD i (0,1))).1,(fmul (a.getD i (0,1)) (b.getD i (0,1))).2.1)).2.2 =0 then
    pgo (a.drop (i+1)) (b.drop (i+1)) ((fadd s ((fmul (a.getD i (0,1)) (b.getD i (0,1))).1,(fmul (a.getD i (0,1)) (b.getD i (0,1))).2.1)).1,(fadd s ((fmul (a.getD i (0,1)) (b.getD i (0,1))).1,(fmul (a.getD i (0,1)) (b.getD i (0,1))).2.1)).2.1)
   else(0,0,3)
  else(0,0,3):=by
 rw [List.drop_eq_getElem_cons ha,List.drop_eq_getElem_cons hb]
 simp only [pgo,List.getD_eq_getElem?_getD,ha,hb,List.getElem?_eq_getElem,Option.getD_some]
theorem pgo_end {a b:List F} {s:F} {i:Nat} (ha:a.length≤i):pgo (a.drop i) (b.drop i) s=(s.1,s.2,0):=by
 rw [List.drop_eq_nil_of_le ha];simp [pgo]
theorem fMulF (a b:F):Ctr Tryz.prog 94 [.agg [i64 a.1,i64 a.2], .agg [i64 b.1,i64 b.2]] [] (fun r o=>o=[]∧r=res (fmul a b)):=fMul_ok a.1 a.2 b.1 b.2
theorem fAddF (a b:F):Ctr Tryz.prog 95 [.agg [i64 a.1,i64 a.2], .agg [i64 b.1,i64 b.2]] [] (fun r o=>o=[]∧r=res (fadd a b)):=fAdd_ok a.1 a.2 b.1 b.2
theorem fCompareF (a b:F):Ctr Tryz.prog 91 [.agg [i64 a.1,i64 a.2], .agg [i64 b.1,i64 b.2]] [] (fun r o=>o=[]∧r=i64 (fcmp a b)):=fCompare_ok a.1 a.2 b.1 b.2
theorem Product_ok (a b:List F) (hl:a.length≤9223372036854775807):Ctr Tryz.prog 55 [fsl a,fsl b] [] (fun r o=>o=[]∧r=res (prod a b)):=by
 refine fI 0 Tryz.func55 ?_
 have hla:=fr_len a
 have hlb:=fr_len b
 (repeat' (conv=>whnf);first|refine aC ?_ ?_<;>intro _|refine z1_F1 ?_|fail);all_goals try (conv=>whnf)
 ·exact⟨rfl,by unfold prod;rw [if_neg (by omega)];rfl⟩
 have hab:a.length=b.length:=by omega
 have hp:prod a b=pgo (a.drop 0) (b.drop 0) (0,1):=by unfold prod;rw [if_pos hab];rfl
 refine LoopOb.mk (Y:=Nat×F) (st:=fun y=>⟨[(19,i64 y.1),(18,i64 (fr2 a).length),(17,fsl a),(6, .ptr 1 0),(4, .ptr 0 0),(5,i64 0),(0,fsl a),(1,fsl b)],[.box [i64 0,i64 0], .box [i64 y.2.1,i64 y.2.2]]⟩)
  (inv:=fun y=>y.1≤a.length∧prod a b=pgo (a.drop y.1) (b.drop y.1) y.2) (fun y=>a.length-y.1) (0,(0,1)) [0,1] ⟨by simp,hp⟩ (by(exact aL)) ?_
 rintro⟨i,s⟩ ⟨hi,hp⟩
 dsimp only at hi hp⊢
 (repeat' (conv=>whnf);first|refine z1_F1 ?_|fail);all_goals try (conv=>whnf)
 refine CondOb.mk (fun hlt=>?_) (fun hlt=>?_)
 ·have hps:=pgo_step (a:=a) (b:=b) (s:=s) (i:=i) (by omega) (by omega)
  rw [←hp]at hps
  have cM:=fMulF (a.getD i (0,1)) (b.getD i (0,1))
  generalize fmul (a.getD i (0,1)) (b.getD i (0,1))=m at*
  have cA:=fAddF s (m.1,m.2.1)
  generalize fadd s (m.1,m.2.1)=t at*
  (repeat' (conv=>whnf);first|refine aC ?_ ?_<;>intro _|refine z1_F1 ?_|refine⟨i,_,rfl,fr_get (by omega),?_⟩|(refine aK [] cM ?_)|(refine aK [] cA ?_)|refine DrawOb.mk [] (.qs [0,1,2,3,4,5,6,7] (.l 8 [] (.qs [9,10,11] (.l 12 [] (.l 13 [] (.qs [14] .nil) .no) .no)) (.l 12 [7,3] (.l 8 [] (.qs [9,10,11] (.l 13 [] (.qs [14] .nil) .no)) .no) .no))) (by decide+kernel) ?_|refine And.intro ?_ ?_|fail);all_goals try (conv=>whnf)
  all_goals first
   |(exfalso;omega)
   |exact(by rw [hps,if_neg (by assumption)];rfl)
   |exact(by rw [hps,if_pos (by assumption),if_neg (by assumption)];rfl)
   |exact⟨(i+1,(t.1,t.2.1)),[0,1],⟨by dsimp only;omega,by rw [hps,if_pos (by omega),if_pos (by omega)]⟩,by dsimp only;omega,by(exact aL)⟩
 ·(repeat' (conv=>whnf);first|refine aC ?_ ?_<;>intro _|refine z1_F1 ?_|fail);all_goals try (conv=>whnf)
  exact⟨rfl,by rw [hp,pgo_end (by omega)];rfl⟩
end
end Go.Proofs.YtbcjojomkibgeaaGreat
