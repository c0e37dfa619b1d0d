/- Lemmas of this seat. Conditions: as stated. -/
import Derived.Test.YtbcjojomkibgeaaGreatQe
import Derived.Test.YtbcjojomkibgeaaGreatQ3
set_option linter.unusedVariables false
set_option linter.unusedSimpArgs false
set_option maxHeartbeats 2000000
set_option maxRecDepth 4000
namespace Go.Proofs.YtbcjojomkibgeaaGreat
open Go.Sx Go.Fq Go.Dt
def Fits (p:Pr):Prop:=∀ov f bs tu sl co,BuA p p.r.length ov f bs tu sl co→¬ov∧SvF p f bs tu sl co
structure SlP (p:Pr) (s:Int×List F×F×List F×List F) (e:Int):Prop where
 no:¬VP p→e=2∧s=(0,[],(0,0),[],[])
 yes:VP p→(e=0∧SolV p s)∨(e=3∧¬Fits p)
theorem z1_Qf {G H:Prop} (k:H) (h:H→G:=by first|exact fun r=>aS r|exact fun r=>aG r|exact fun r=>aD r|exact fun r=>aH r|exact fun r=>aP_Q5 r|exact fun r=>aI r|exact fun r=>aJ r):G:=h k
theorem Solve_ok' (p:Pr) (hp:PL p):
  Ctr Tryz.prog 46 [prv p] [] (fun r o=>∃x:(Int×List F×F×List F×List F)×Int,SlP p x.1 x.2∧o=[]∧r= .tup [solw x.1,i64 x.2]):=by
 refine Ctr.impO ?_
 refine fI 0 Tryz.func46 ?_
 have cV:=Valid_ok p hp
 (repeat' (conv=>whnf);first|refine aC ?_ ?_<;>intro<;>try omega|refine z1_Qf ?_|(refine aK [] cV ?_)|fail);all_goals try (conv=>whnf)
 ·exact⟨((0,[],(0,0),[],[]),2),⟨fun _=>⟨rfl,rfl⟩,fun h=>absurd h (by assumption)⟩,OI.refl _,Imp.tup ⟨Imp.agg ⟨Imp.refl _,Imp.nil _,Imp.refl _,Imp.refl _,Imp.nil _,Imp.nil _,trivial⟩,Imp.refl _,trivial⟩⟩
 have hv:VP p:=Classical.not_not.1 (by assumption)
 have cB:=build_ok p hv
 refine aM [] cB rfl rfl ?_
 rintro _ _ ⟨⟨ov,f,bs,tu,sl,co⟩,hB,rfl,rfl⟩
 dsimp only at hB⊢
 have cS:=solve_ok' p hv f bs tu sl co ov hB
 (repeat' (conv=>whnf);first|refine aC ?_ ?_<;>intro<;>try omega|refine z1_Qf ?_|fail);all_goals try (conv=>whnf)
 refine aM [2,3,4,5,6] cS rfl rfl ?_
 rintro _ _ ⟨⟨q,s,bs'⟩,hR,rfl,rfl⟩
 dsimp only at hR⊢
 (repeat' (conv=>whnf);first|refine aC ?_ ?_<;>intro<;>try omega|refine z1_Qf ?_|fail);all_goals try (conv=>whnf)
 ·have hq:q:=by assumption
  exact⟨((0,[],(0,0),[],[]),3),⟨fun h=>absurd hv h,fun _=> .inr ⟨rfl,fun Fi=>(Fi _ _ _ _ _ _ hB).1 (hR.fit (Fi _ _ _ _ _ _ hB).2 hq)⟩⟩,OI.refl _,Imp.tup ⟨Imp.agg ⟨Imp.refl _,Imp.nil _,Imp.refl _,Imp.refl _,Imp.nil _,Imp.nil _,trivial⟩,Imp.refl _,trivial⟩⟩
 ·have hq:¬q:=by assumption
  exact⟨(s,0),⟨fun h=>absurd hv h,fun _=>(.inl ⟨rfl,(hR.ex hq).2⟩)⟩,OI.refl _,Imp.refl _⟩
end Go.Proofs.YtbcjojomkibgeaaGreat
