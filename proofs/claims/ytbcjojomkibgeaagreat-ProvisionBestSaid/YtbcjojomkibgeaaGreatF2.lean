/- Lemmas of this seat. Conditions: as stated. -/
import Derived.Test.YtbcjojomkibgeaaGreatF1
set_option linter.unusedVariables false
set_option linter.unusedSimpArgs false
set_option maxHeartbeats 2000000
set_option maxRecDepth 4000
namespace Go.Proofs.YtbcjojomkibgeaaGreat
section
open Go.Sx Go.Fq
theorem rCompare_ok (x y u v:Int):Ctr Tryz.prog 26 [.agg [i64 x,i64 y], .agg [i64 u,i64 v]] [] (fun r o=>o=[]∧r=i64 (fcmp (x,y) (u,v))):=by
 refine fI 0 Tryz.func26 ?_
 (repeat' (conv=>whnf);first|refine aC ?_ ?_<;>intro _|refine z5_F1 ?_|(refine aK [] (rValid_ok x y) ?_)|(refine aK [] (rValid_ok u v) ?_)|fail);all_goals try (conv=>whnf)
 ·exact⟨rfl,by unfold fcmp;rw [if_neg (fun h=>absurd h.1 (by assumption))];rfl⟩
 ·exact⟨rfl,by unfold fcmp;rw [if_neg (fun h=>absurd h.2 (by assumption))];rfl⟩
 have h1:=Classical.not_not.1 ‹¬¬VF (x,y)›
 have h2:=Classical.not_not.1 ‹¬¬VF (u,v)›
 have hb:=vf_mul h1 h2
 have hc:=h1.cmp h2
 have hd:=h2.cmp h1
 dsimp only at hb hc hd
 (repeat' (conv=>whnf);first|refine aC ?_ ?_<;>intro _|refine z5_F1 ?_|fail);all_goals try (conv=>whnf)
 ·exact⟨rfl,by unfold fcmp;rw [if_pos ⟨h1,h2⟩,if_pos (hc.1 (by assumption))];rfl⟩
 ·exact⟨rfl,by unfold fcmp;rw [if_pos ⟨h1,h2⟩,if_neg (fun h=>absurd (hc.2 h) (by assumption)),if_pos (hd.1 (by assumption))];rfl⟩
 ·exact⟨rfl,by unfold fcmp;rw [if_pos ⟨h1,h2⟩,if_neg (fun h=>absurd (hc.2 h) (by assumption)),if_neg (fun h=>absurd (hd.2 h) (by assumption))];rfl⟩
theorem rMul_ok (x y u v:Int):Ctr Tryz.prog 96 [.agg [i64 x,i64 y], .agg [i64 u,i64 v]] [] (fun r o=>o=[]∧r=res (fmul (x,y) (u,v))):=by
 refine fI 0 Tryz.func96 ?_
 (repeat' (conv=>whnf);first|refine aC ?_ ?_<;>intro _|refine z1_F1 ?_|(refine aK [] (rValid_ok x y) ?_)|(refine aK [] (rValid_ok u v) ?_)|fail);all_goals try (conv=>whnf)
 ·exact⟨rfl,by unfold fmul;rw [if_neg (fun h=>absurd h.1 (by assumption))];rfl⟩
 ·exact⟨rfl,by unfold fmul;rw [if_neg (fun h=>absurd h.2 (by assumption))];rfl⟩
 have h1:=Classical.not_not.1 ‹¬¬VF (x,y)›
 have h2:=Classical.not_not.1 ‹¬¬VF (u,v)›
 have hb:=vf_mul h1 h2
 dsimp only at hb
 (repeat' (conv=>whnf);first|refine aC ?_ ?_<;>intro _|refine z1_F1 ?_|(refine aK [] (rNew_ok (x*u) (y*v) (by omega) (by omega)) ?_)|fail);all_goals try (conv=>whnf)
 exact⟨rfl,by unfold fmul;rw [if_pos ⟨h1,h2⟩,←h1.mul h2];rfl⟩
theorem rAdd_ok (x y u v:Int):Ctr Tryz.prog 97 [.agg [i64 x,i64 y], .agg [i64 u,i64 v]] [] (fun r o=>o=[]∧r=res (fadd (x,y) (u,v))):=by
 refine fI 0 Tryz.func97 ?_
 (repeat' (conv=>whnf);first|refine aC ?_ ?_<;>intro _|refine z1_F1 ?_|(refine aK [] (rValid_ok x y) ?_)|(refine aK [] (rValid_ok u v) ?_)|fail);all_goals try (conv=>whnf)
 ·exact⟨rfl,by unfold fadd;rw [if_neg (fun h=>absurd h.1 (by assumption))];rfl⟩
 ·exact⟨rfl,by unfold fadd;rw [if_neg (fun h=>absurd h.2 (by assumption))];rfl⟩
 have h1:=Classical.not_not.1 ‹¬¬VF (x,y)›
 have h2:=Classical.not_not.1 ‹¬¬VF (u,v)›
 have hb:=vf_mul h1 h2
 dsimp only at hb
 (repeat' (conv=>whnf);first|refine aC ?_ ?_<;>intro _|refine z1_F1 ?_|(refine aK [] (rNew_ok (x*v+u*y) (y*v) (by omega) (by omega)) ?_)|fail);all_goals try (conv=>whnf)
 exact⟨rfl,by unfold fadd;rw [if_pos ⟨h1,h2⟩,←h1.add h2];rfl⟩
end
section
open Go.Sx Go.Fq
abbrev fr2 (l:List F):List (List SV):=l.map fun a=>[i64 a.1,i64 a.2]
abbrev fsl (l:List F):SV:= .psl 2 (fr2 l)
theorem fr_len (l:List F):(fr2 l).length =l.length:=by simp [fr2]
theorem fr_get {l:List F} {i:Nat} (h:i<l.length):(fr2 l)[i]? =some [i64 (l.getD i (0,1)).1,i64 (l.getD i (0,1)).2]:=by
 simp [fr2,h]
theorem all_to {l:List F} {P:F→Prop} {i:Nat} (h:∀j<i,P (l.getD j (0,1))) (hi:l.length≤i):∀f∈l,P f:=by
 intro f hf
 obtain⟨j,hj,rfl⟩:=List.mem_iff_getElem.1 hf
 have:=h j (by omega)
 simpa [hj]using this
theorem all_at {l:List F} {P:F→Prop} (h:∀f∈l,P f) {i:Nat} (hi:i<l.length):P (l.getD i (0,1)):=by
 have:=h l[i] (List.getElem_mem hi)
 simpa [hi]using this
theorem all_step {l:List F} {P:F→Prop} {i:Nat} (h:∀j<i,P (l.getD j (0,1))) (hi:P (l.getD i (0,1))):∀j<i+1,P (l.getD j (0,1)):=by
 intro j hj
 by_cases e:j=i
 ·rw [e];exact hi
 ·exact h j (by omega)
theorem valid_ok (l:List F) (hl:l.length≤9223372036854775807):Ctr Tryz.prog 90 [fsl l] [] (fun r o=>o=[]∧r= .bp (∀f∈l,VF f)):=by
 refine Ctr.imp ?_
 refine fI 0 Tryz.func90 ?_
 (repeat' (conv=>whnf);first|refine aC ?_ ?_<;>intro _|refine z1_F1 ?_|fail);all_goals try (conv=>whnf)
 refine LoopOb.mk (Y:=Nat) (st:=fun i=>⟨[(7,i64 i),(6,i64 (fr2 l).length),(5,fsl l),(2, .bl false)],[]⟩)
  (inv:=fun i=>i≤l.length∧∀j<i,VF (l.getD j (0,1))) (fun i=>l.length-i) 0 [] ⟨by omega,by omega⟩ (by(exact aL)) ?_
 rintro i ⟨hi,hv⟩
 have hln:=fr_len l
 (repeat' (conv=>whnf);first|refine aC ?_ ?_<;>intro _|refine z1_F1 ?_|fail);all_goals try (conv=>whnf)
 ·refine⟨i,_,rfl,fr_get (by omega),?_⟩
  (repeat' (conv=>whnf);first|refine aC ?_ ?_<;>intro _|refine z1_F1 ?_|(refine aK [] (fValid_ok (l.getD i (0,1)).1 (l.getD i (0,1)).2) ?_)|fail);all_goals try (conv=>whnf)
  ·exact⟨rfl,Imp.bl ⟨fun h=>(by cases h),fun h=>absurd (all_at h (i:=i) (by omega)) (by assumption)⟩⟩
  ·exact⟨i+1,[],⟨by omega,all_step hv (Classical.not_not.1 (by assumption))⟩,by omega,by(exact aL)⟩
 ·exact⟨rfl,Imp.bl ⟨fun _=>all_to hv (by omega),fun _=>rfl⟩⟩
theorem all_ok (l:List F) (hl:l.length≤9223372036854775807):Ctr Tryz.prog 92 [fsl l] [] (fun r o=>o=[]∧r= .bp (∀f∈l,VF f)):=by
 refine Ctr.imp ?_
 refine fI 0 Tryz.func92 ?_
 (repeat' (conv=>whnf);first|refine aC ?_ ?_<;>intro _|refine z1_F1 ?_|fail);all_goals try (conv=>whnf)
 refine LoopOb.mk (Y:=Nat) (st:=fun i=>⟨[(3,i64 i),(2, .bl false),(0,fsl l)],[]⟩)
  (inv:=fun i=>i≤l.length∧∀j<i,VF (l.getD j (0,1))) (fun i=>l.length-i) 0 [] ⟨by omega,by omega⟩ (by(exact aL)) ?_
 rintro i ⟨hi,hv⟩
 have hln:=fr_len l
 (repeat' (conv=>whnf);first|refine aC ?_ ?_<;>intro _|refine z1_F1 ?_|fail);all_goals try (conv=>whnf)
 ·refine⟨i,_,rfl,fr_get (by omega),?_⟩
  (repeat' (conv=>whnf);first|refine aC ?_ ?_<;>intro _|refine z1_F1 ?_|(refine aK [] (rValid_ok (l.getD i (0,1)).1 (l.getD i (0,1)).2) ?_)|fail);all_goals try (conv=>whnf)
  ·exact⟨rfl,Imp.bl ⟨fun h=>(by cases h),fun h=>absurd (all_at h (i:=i) (by omega)) (by assumption)⟩⟩
  ·exact⟨i+1,[],⟨by omega,all_step hv (Classical.not_not.1 (by assumption))⟩,by omega,by(exact aL)⟩
 ·exact⟨rfl,Imp.bl ⟨fun _=>all_to hv (by omega),fun _=>rfl⟩⟩
end
end Go.Proofs.YtbcjojomkibgeaaGreat
