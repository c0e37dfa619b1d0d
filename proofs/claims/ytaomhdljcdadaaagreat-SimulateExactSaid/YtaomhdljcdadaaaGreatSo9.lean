/- Lemmas that the proofs of this seat use (So9). Conditions: those that stand in each theorem. -/
import Derived.Test.YtaomhdljcdadaaaGreatCn5
import Derived.Test.YtaomhdljcdadaaaGreatCn2
import Derived.Test.YtaomhdljcdadaaaGreatPl
import Derived.Test.YtaomhdljcdadaaaGreatSxC
set_option linter.unusedVariables false
set_option linter.unusedSimpArgs false
namespace Go.Proofs.YtaomhdljcdadaaaGreat
open Go.Sx Go.Pk Go.Mc Go.Np
set_option maxRecDepth 4000
set_option maxHeartbeats 2000000
theorem tw_nl:NL twN:=by
 refine⟨by decide,by decide,by decide,fun s hs=>?_,fun l hl=>?_,fun f hf=>?_⟩
 ·simp only [twN,List.mem_cons,List.not_mem_nil,or_false]at hs
  rcases hs with rfl|rfl<;>decide
 ·simp only [twN,List.mem_cons,List.not_mem_nil,or_false]at hl
  rcases hl with rfl|rfl<;>decide
 ·simp only [twN,List.mem_cons,List.not_mem_nil,or_false]at hf
  subst hf;decide
abbrev twv0:List SV:=[i64 1,i64 10,i64 1, .nil, .nil]
abbrev twv:List SV:=[.str ⟨#[102]⟩, .ful 1 [[i64 0],[i64 1]],i64 0,i64 1,i64 50, .psl 1 (ints (stv 100 1)),i64 1,i64 1]
theorem aP_So9 {A B K:Prop} (k:K) (a:A:=by(simp only [zA,zT,zD,zC,zN,ints_len,zR,Go.Cv.vals_len];omega)) (b:B:=by(simp only [zA,zT,zD,zC,zN,ints_len,zR,Go.Cv.vals_len];omega)):(A∧B)∧K:=⟨⟨a,b⟩,k⟩
theorem z2_So9 {G H:Prop} (k:H) (h:H→G:=by first|exact fun r=>aS r|exact fun r=>aG r|exact fun r=>aD r|exact fun r=>aH r|exact fun r=>aP_So9 r|exact fun r=>aI r|exact fun r=>aJ r|exact fun r=>aW (.qs [1,2,5] (.l 0 [2,1] (.l 3 [] (.l 4 [] (.l 6 [] (.qs [7] (.l 8 [] (.qs [9] (.l 10 [] .nil .no)) .no)) .no) (.l 6 [] (.l 4 [] (.qs [7] (.l 8 [] (.qs [9] (.l 10 [] .nil .no)) .no)) .no) .no)) (.l 4 [2,1] (.l 3 [] (.l 6 [] (.qs [7] (.l 8 [] (.qs [9] (.l 10 [] .nil .no)) .no)) .no) (.l 6 [2,1] (.qs [7] (.l 3 [] (.l 8 [] (.qs [9] (.l 10 [] .nil .no)) .no) (.l 8 [2,1] (.l 3 [] (.qs [9] (.l 10 [] .nil .no)) .no) .no))) .no)) (.l 6 [2,1] (.l 3 [] (.l 4 [] (.qs [7] (.l 8 [] (.qs [9] (.l 10 [] .nil .no)) .no)) .no) (.l 4 [2,1] (.qs [7] (.l 3 [] (.l 8 [] (.qs [9] (.l 10 [] .nil .no)) .no) (.l 8 [2,1] (.l 3 [] (.qs [9] (.l 10 [] .nil .no)) .no) .no))) .no)) .no))) (.l 3 [] (.l 0 [] (.l 4 [] (.l 6 [] (.qs [7] (.l 8 [] (.qs [9] (.l 10 [] .nil .no)) .no)) .no) (.l 6 [] (.l 4 [] (.qs [7] (.l 8 [] (.qs [9] (.l 10 [] .nil .no)) .no)) .no) .no)) (.l 4 [] (.l 0 [] (.l 6 [] (.qs [7] (.l 8 [] (.qs [9] (.l 10 [] .nil .no)) .no)) .no) (.l 6 [] (.qs [7] (.l 0 [] (.l 8 [] (.qs [9] (.l 10 [] .nil .no)) .no) (.l 8 [] (.l 0 [] (.qs [9] (.l 10 [] .nil .no)) .no) .no))) .no)) (.l 6 [] (.l 0 [] (.l 4 [] (.qs [7] (.l 8 [] (.qs [9] (.l 10 [] .nil .no)) .no)) .no) (.l 4 [] (.qs [7] (.l 0 [] (.l 8 [] (.qs [9] (.l 10 [] .nil .no)) .no) (.l 8 [] (.l 0 [] (.qs [9] (.l 10 [] .nil .no)) .no) .no))) .no)) .no))) (.l 4 [2,1] (.l 0 [2,1] (.l 3 [] (.l 6 [] (.qs [7] (.l 8 [] (.qs [9] (.l 10 [] .nil .no)) .no)) .no) (.l 6 [2,1] (.qs [7] (.l 3 [] (.l 8 [] (.qs [9] (.l 10 [] .nil .no)) .no) (.l 8 [2,1] (.l 3 [] (.qs [9] (.l 10 [] .nil .no)) .no) .no))) .no)) (.l 3 [] (.l 0 [] (.l 6 [] (.qs [7] (.l 8 [] (.qs [9] (.l 10 [] .nil .no)) .no)) .no) (.l 6 [] (.qs [7] (.l 0 [] (.l 8 [] (.qs [9] (.l 10 [] .nil .no)) .no) (.l 8 [] (.l 0 [] (.qs [9] (.l 10 [] .nil .no)) .no) .no))) .no)) (.l 6 [2,1] (.qs [7] (.l 0 [2,1] (.l 3 [] (.l 8 [] (.qs [9] (.l 10 [] .nil .no)) .no) (.l 8 [2,1] (.l 3 [] (.qs [9] (.l 10 [] .nil .no)) .no) .no)) (.l 3 [] (.l 0 [] (.l 8 [] (.qs [9] (.l 10 [] .nil .no)) .no) (.l 8 [] (.l 0 [] (.qs [9] (.l 10 [] .nil .no)) .no) .no)) (.l 8 [2,1] (.l 0 [2,1] (.l 3 [] (.qs [9] (.l 10 [] .nil .no)) .no) (.l 3 [] (.l 0 [] (.qs [9] (.l 10 [] .nil .no)) .no) .no)) .no)))) .no))) (.l 6 [2,1] (.l 0 [2,1] (.l 3 [] (.l 4 [] (.qs [7] (.l 8 [] (.qs [9] (.l 10 [] .nil .no)) .no)) .no) (.l 4 [2,1] (.qs [7] (.l 3 [] (.l 8 [] (.qs [9] (.l 10 [] .nil .no)) .no) (.l 8 [2,1] (.l 3 [] (.qs [9] (.l 10 [] .nil .no)) .no) .no))) .no)) (.l 3 [] (.l 0 [] (.l 4 [] (.qs [7] (.l 8 [] (.qs [9] (.l 10 [] .nil .no)) .no)) .no) (.l 4 [] (.qs [7] (.l 0 [] (.l 8 [] (.qs [9] (.l 10 [] .nil .no)) .no) (.l 8 [] (.l 0 [] (.qs [9] (.l 10 [] .nil .no)) .no) .no))) .no)) (.l 4 [2,1] (.qs [7] (.l 0 [2,1] (.l 3 [] (.l 8 [] (.qs [9] (.l 10 [] .nil .no)) .no) (.l 8 [2,1] (.l 3 [] (.qs [9] (.l 10 [] .nil .no)) .no) .no)) (.l 3 [] (.l 0 [] (.l 8 [] (.qs [9] (.l 10 [] .nil .no)) .no) (.l 8 [] (.l 0 [] (.qs [9] (.l 10 [] .nil .no)) .no) .no)) (.l 8 [2,1] (.l 0 [2,1] (.l 3 [] (.qs [9] (.l 10 [] .nil .no)) .no) (.l 3 [] (.l 0 [] (.qs [9] (.l 10 [] .nil .no)) .no) .no)) .no)))) .no))) .no))))) r):G:=h k
theorem z1_So9 {G H:Prop} (k:H) (h:H→G:=by first|exact fun r=>aS r|exact fun r=>aG r|exact fun r=>aD r|exact fun r=>aH r|exact fun r=>aP_So9 r|exact fun r=>aI r|exact fun r=>aJ r):G:=h k
theorem two_ok:Ctr Tryz.prog 84 [] [] (fun r o=>o=[]∧r=ntv twN):=by
 refine Ctr.imp ?_
 refine fn_intro (E:=env 0) tys_ok rfl rfl rfl Tryz.func84 (by kernel_rfl) rfl (by kernel_rfl) ?_
 have cS:=Stair_ok 100 1 1 (by decide)
 (repeat' (conv=>whnf);first|(refine aC (fun _=>?_) (fun _=>?_)<;>try (exfalso;omega))|refine z1_So9 ?_|fail);all_goals try (conv=>whnf)
 refine DrawOb.cut [] (.qs [1,2,5] (.l 0 [2,1] (.l 3 [] (.l 4 [] (.l 6 [] (.qs [7] (.l 8 [] (.qs [9] (.l 10 [] .nil .no)) .no)) .no) (.l 6 [] (.l 4 [] (.qs [7] (.l 8 [] (.qs [9] (.l 10 [] .nil .no)) .no)) .no) .no)) (.l 4 [2,1] (.l 3 [] (.l 6 [] (.qs [7] (.l 8 [] (.qs [9] (.l 10 [] .nil .no)) .no)) .no) (.l 6 [2,1] (.qs [7] (.l 3 [] (.l 8 [] (.qs [9] (.l 10 [] .nil .no)) .no) (.l 8 [2,1] (.l 3 [] (.qs [9] (.l 10 [] .nil .no)) .no) .no))) .no)) (.l 6 [2,1] (.l 3 [] (.l 4 [] (.qs [7] (.l 8 [] (.qs [9] (.l 10 [] .nil .no)) .no)) .no) (.l 4 [2,1] (.qs [7] (.l 3 [] (.l 8 [] (.qs [9] (.l 10 [] .nil .no)) .no) (.l 8 [2,1] (.l 3 [] (.qs [9] (.l 10 [] .nil .no)) .no) .no))) .no)) .no))) (.l 3 [] (.l 0 [] (.l 4 [] (.l 6 [] (.qs [7] (.l 8 [] (.qs [9] (.l 10 [] .nil .no)) .no)) .no) (.l 6 [] (.l 4 [] (.qs [7] (.l 8 [] (.qs [9] (.l 10 [] .nil .no)) .no)) .no) .no)) (.l 4 [] (.l 0 [] (.l 6 [] (.qs [7] (.l 8 [] (.qs [9] (.l 10 [] .nil .no)) .no)) .no) (.l 6 [] (.qs [7] (.l 0 [] (.l 8 [] (.qs [9] (.l 10 [] .nil .no)) .no) (.l 8 [] (.l 0 [] (.qs [9] (.l 10 [] .nil .no)) .no) .no))) .no)) (.l 6 [] (.l 0 [] (.l 4 [] (.qs [7] (.l 8 [] (.qs [9] (.l 10 [] .nil .no)) .no)) .no) (.l 4 [] (.qs [7] (.l 0 [] (.l 8 [] (.qs [9] (.l 10 [] .nil .no)) .no) (.l 8 [] (.l 0 [] (.qs [9] (.l 10 [] .nil .no)) .no) .no))) .no)) .no))) (.l 4 [2,1] (.l 0 [2,1] (.l 3 [] (.l 6 [] (.qs [7] (.l 8 [] (.qs [9] (.l 10 [] .nil .no)) .no)) .no) (.l 6 [2,1] (.qs [7] (.l 3 [] (.l 8 [] (.qs [9] (.l 10 [] .nil .no)) .no) (.l 8 [2,1] (.l 3 [] (.qs [9] (.l 10 [] .nil .no)) .no) .no))) .no)) (.l 3 [] (.l 0 [] (.l 6 [] (.qs [7] (.l 8 [] (.qs [9] (.l 10 [] .nil .no)) .no)) .no) (.l 6 [] (.qs [7] (.l 0 [] (.l 8 [] (.qs [9] (.l 10 [] .nil .no)) .no) (.l 8 [] (.l 0 [] (.qs [9] (.l 10 [] .nil .no)) .no) .no))) .no)) (.l 6 [2,1] (.qs [7] (.l 0 [2,1] (.l 3 [] (.l 8 [] (.qs [9] (.l 10 [] .nil .no)) .no) (.l 8 [2,1] (.l 3 [] (.qs [9] (.l 10 [] .nil .no)) .no) .no)) (.l 3 [] (.l 0 [] (.l 8 [] (.qs [9] (.l 10 [] .nil .no)) .no) (.l 8 [] (.l 0 [] (.qs [9] (.l 10 [] .nil .no)) .no) .no)) (.l 8 [2,1] (.l 0 [2,1] (.l 3 [] (.qs [9] (.l 10 [] .nil .no)) .no) (.l 3 [] (.l 0 [] (.qs [9] (.l 10 [] .nil .no)) .no) .no)) .no)))) .no))) (.l 6 [2,1] (.l 0 [2,1] (.l 3 [] (.l 4 [] (.qs [7] (.l 8 [] (.qs [9] (.l 10 [] .nil .no)) .no)) .no) (.l 4 [2,1] (.qs [7] (.l 3 [] (.l 8 [] (.qs [9] (.l 10 [] .nil .no)) .no) (.l 8 [2,1] (.l 3 [] (.qs [9] (.l 10 [] .nil .no)) .no) .no))) .no)) (.l 3 [] (.l 0 [] (.l 4 [] (.qs [7] (.l 8 [] (.qs [9] (.l 10 [] .nil .no)) .no)) .no) (.l 4 [] (.qs [7] (.l 0 [] (.l 8 [] (.qs [9] (.l 10 [] .nil .no)) .no) (.l 8 [] (.l 0 [] (.qs [9] (.l 10 [] .nil .no)) .no) .no))) .no)) (.l 4 [2,1] (.qs [7] (.l 0 [2,1] (.l 3 [] (.l 8 [] (.qs [9] (.l 10 [] .nil .no)) .no) (.l 8 [2,1] (.l 3 [] (.qs [9] (.l 10 [] .nil .no)) .no) .no)) (.l 3 [] (.l 0 [] (.l 8 [] (.qs [9] (.l 10 [] .nil .no)) .no) (.l 8 [] (.l 0 [] (.qs [9] (.l 10 [] .nil .no)) .no) .no)) (.l 8 [2,1] (.l 0 [2,1] (.l 3 [] (.qs [9] (.l 10 [] .nil .no)) .no) (.l 3 [] (.l 0 [] (.qs [9] (.l 10 [] .nil .no)) .no) .no)) .no)))) .no))) .no))))) (Y:=Unit) (st:=fun _=>⟨[(0, .ptr 0 0)],[.box [.ful 1 [[.str ⟨#[97]⟩],[.str ⟨#[98]⟩]], .ful 5 [twv0,twv0], .ful 8 [twv]]]⟩) (inv:=fun _=>True) (by decide+kernel) ?_ ?_
 ·(repeat' (conv=>whnf);first|refine LitOb.ful ?_|(refine aC (fun _=>?_) (fun _=>?_)<;>try (exfalso;omega))|refine z2_So9 ?_|(refine aK [] cS ?_)|refine And.intro ?_ ?_|fail);all_goals try (conv=>whnf)
  all_goals exact⟨(),[0],trivial,by(exact aL)⟩
 rintro _ _
 (repeat' (conv=>whnf);first|(refine aC (fun _=>?_) (fun _=>?_)<;>try (exfalso;omega))|refine z1_So9 ?_|fail);all_goals try (conv=>whnf)
 have h0:ImpL twv0 (lnv twL):=⟨Imp.refl _,Imp.refl _,Imp.refl _,Imp.nil _,Imp.nil _,trivial⟩
 have h1:ImpL twv (flv twF):=⟨Imp.refl _,Imp.fulp rfl,Imp.refl _,Imp.refl _,Imp.refl _,Imp.refl _,Imp.refl _,Imp.refl _,trivial⟩
 exact⟨rfl,Imp.agg ⟨Imp.fulp rfl,Imp.fulr ⟨h0,h0,trivial⟩,Imp.fulr ⟨h1,trivial⟩,trivial⟩⟩
theorem z3_So9 {G H:Prop} (k:H) (h:H→G:=by first|exact fun r=>aS r|exact fun r=>aG r|exact fun r=>aD r|exact fun r=>aH r|exact fun r=>aP_So9 r|exact fun r=>aI r|exact fun r=>aJ r|exact fun r=>aW (.qs [0,1,2,3,4,5,6,7,8,9] (.l 10 [] (.qs [11] .nil) .no)) r):G:=h k
theorem rSame_ok (ms ms':List (List Int)) (hm:MsL ms) (hm':MsL ms'):Ctr Tryz.prog 44 [.agg [.psl 1 (trs ms)], .agg [.psl 1 (trs ms')]] [] (fun r o=>o=[]∧∃b:Bool,(b=true↔ms=ms')∧r= .bl b):=by
 refine fn_intro (E:=env 0) tys_ok rfl rfl rfl Tryz.func44 (by kernel_rfl) rfl (by kernel_rfl) ?_
 have htl:=trs_len ms
 have htl':=trs_len ms'
 have hl:=hm.l
 have hl':=hm'.l
 by_cases hne:ms.length=ms'.length
 ·(repeat' (conv=>whnf);first|(refine aC (fun _=>?_) (fun _=>?_)<;>try (exfalso;omega))|refine z3_So9 ?_|fail);all_goals try (conv=>whnf)
  refine LoopOb.mk (Y:=Nat) (st:=fun i=>⟨[(5,i64 i),(3, .ptr 1 0),(2, .ptr 0 0)],[.box [.psl 1 (trs ms)], .box [.psl 1 (trs ms')]]⟩)
   (inv:=fun i=>i≤ms.length∧∀j,j<i→ms.getD j []=ms'.getD j []) (fun i=>ms.length-i) 0 [0,1] ⟨by omega,fun j hj=>by omega⟩ (by(exact aL)) ?_
  rintro i ⟨hi,hc⟩
  by_cases hil:i<ms.length
  ·have g1:=trs_get (ms:=ms) hil
   have g2:=trs_get (ms:=ms') (i:=i) (by omega)
   have r1:=hm.r i
   have hst:ms.getD i []=ms'.getD i []→∀j,j<i+1→ms.getD j []=ms'.getD j []:=fun e j hj=>by
    rcases Nat.lt_succ_iff_lt_or_eq.1 hj with h|h
    ·exact hc j h
    ·subst h;exact e
   have hno:ms.getD i []≠ms'.getD i []→ms≠ms':=fun h e=>h (by rw [e])
   have hI:=rInts_ok (ms.getD i []) (ms'.getD i []) r1
   generalize ms.getD i []=a at*
   generalize ms'.getD i []=b at*
   (repeat' (conv=>whnf);first|refine⟨i,_,rfl,g2,?_⟩|refine⟨i,_,rfl,g1,?_⟩|(refine aC (fun _=>?_) (fun _=>?_)<;>try (exfalso;omega))|refine z3_So9 ?_|(refine aK [] (hI) ?_)|fail);all_goals try (conv=>whnf)
   all_goals first
    |exact⟨rfl,false,⟨fun e=>(by cases e),fun e=>absurd e (hno (by assumption))⟩,rfl⟩
    |exact⟨i+1,[0,1],⟨by omega,hst (by assumption)⟩,by omega,by(exact aL)⟩
    |exact⟨i+1,[0,1],⟨by omega,hst (Classical.not_not.1 (by assumption))⟩,by omega,by(exact aL)⟩
  ·obtain rfl:i=ms.length:=by omega
   have he:ms=ms':=List.ext_getElem hne fun j h1 h2=>by
    have:=hc j h1
    rw [List.getD_eq_getElem?_getD,List.getElem?_eq_getElem h1,List.getD_eq_getElem?_getD,List.getElem?_eq_getElem h2]at this
    exact this
   (repeat' (conv=>whnf);first|(refine aC (fun _=>?_) (fun _=>?_)<;>try (exfalso;omega))|refine z3_So9 ?_|fail);all_goals try (conv=>whnf)
   exact⟨rfl,true,⟨fun _=>he,fun _=>rfl⟩,rfl⟩
 ·(repeat' (conv=>whnf);first|(refine aC (fun _=>?_) (fun _=>?_)<;>try (exfalso;omega))|refine z3_So9 ?_|fail);all_goals try (conv=>whnf)
  exact⟨rfl,false,⟨fun e=>(by cases e),fun e=>absurd (congrArg List.length e) hne⟩,rfl⟩
end Go.Proofs.YtaomhdljcdadaaaGreat
