/- Lemmas of this seat. Conditions: as stated. -/
import Derived.Test.YtbcjojomkibgeaaGreatY6
import Derived.Test.YtbcjojomkibgeaaGreatKn
import Derived.Test.YtbcjojomkibgeaaGreatP5
import Derived.Test.YtbcjojomkibgeaaGreatSxC
set_option linter.unusedVariables false
set_option linter.unusedSimpArgs false
set_option maxHeartbeats 2000000
set_option maxRecDepth 4000
namespace Go.Proofs.YtbcjojomkibgeaaGreat
section
open Go.Sx Go.Fq Go.Np Go.Pv
def DmG (d:Dm):Prop:=0≤d.lo∧d.lo≤d.hi∧d.hi≤14∧0≤d.w∧d.w≤5
theorem dms_app (a b:List Dm):dms (a++b)=dms a++dms b:=by simp [dms]
theorem z2_Y7 {G H:Prop} (k:H) (h:H→G:=by first|exact fun r=>aS r|exact fun r=>aG r|exact fun r=>aD r|exact fun r=>aP_Y1 r|exact fun r=>aI r|exact fun r=>aJ r|exact fun r=>aW (.qs [0,1,2] (.l 3 [1] (.qs [4,5] (.l 6 [] .nil .no)) .no)) r):G:=h k
theorem z1_Y7 {G H:Prop} (k:H) (h:H→G:=by first|exact fun r=>aS r|exact fun r=>aG r|exact fun r=>aD r|exact fun r=>aH r|exact fun r=>aP_Y1 r|exact fun r=>aI r|exact fun r=>aJ r|exact fun r=>aW (.qs [0,1,2] (.l 3 [1] (.qs [4,5] (.l 6 [] .nil .no)) .no)) r):G:=h k
theorem Demands_ok (L:List Int) (k:Nat) (hL:L.length≤2000) (hk:k≤2000) (n:Nt) (hf:n.fl.length≤1000):
  Ctr Tryz.prog 9 [.ptr 0 0,ntv n] [src L k] (fun r o=>∃x:List Dm×Nat,(x.1.length=n.fl.length∧(∀d∈x.1,DmG d)∧x.2≤2000)∧o=[src L x.2, .vec 3 (dms x.1)]∧r= .vec 1):=by
 refine Ctr.impO ?_
 refine fI 1 Tryz.func9 ?_
 have hfl:=fll n.fl
 (repeat' (conv=>whnf);first|refine aC ?_ ?_<;>intro _|refine z1_Y7 ?_|fail);all_goals try (conv=>whnf)
 refine LoopOb.mk (Y:=List Dm×Nat) (st:=fun y=>⟨[(6,i64 y.1.length),(5, .vec 2),(3, .ptr 1 0),(0, .ptr 0 0)],[src L y.2, .box [.psl 1 (strs n.nm), .psl 5 (lns n.ln), .psl 8 (fls n.fl)], .vec 3 (dms y.1)]⟩)
  (inv:=fun y=>y.1.length≤n.fl.length∧(∀d∈y.1,DmG d)∧y.2≤2000) (fun y=>n.fl.length-y.1.length) ([],k) [0,1,3] ⟨by simp,by simp,hk⟩ (by(exact aL)) ?_
 rintro⟨l,q⟩ ⟨hl,hd,hq⟩
 dsimp only at hl hd hq⊢
 have hll:=dml_len l
 (repeat' (conv=>whnf);first|refine z1_Y7 ?_|fail);all_goals try (conv=>whnf)
 refine CondOb.mk (fun hlt=>?_) (fun hlt=>?_)
 ·(repeat' (conv=>whnf);first|refine aC ?_ ?_<;>intro<;>try omega|refine z1_Y7 ?_|fail);all_goals try (conv=>whnf)
  refine aM [0] (N_ok L q hL hq 4 (by omega) (by omega)) rfl rfl ?_
  rintro _ _ ⟨⟨lo,q1⟩,⟨a1,a2,hq1⟩,rfl,rfl⟩
  dsimp only at a1 a2 hq1⊢
  (repeat' (conv=>whnf);first|refine aC ?_ ?_<;>intro<;>try omega|refine z1_Y7 ?_|fail);all_goals try (conv=>whnf)
  refine aM [0] (N_ok L q1 hL hq1 6 (by omega) (by omega)) rfl rfl ?_
  rintro _ _ ⟨⟨w,q2⟩,⟨b1,b2,hq2⟩,rfl,rfl⟩
  dsimp only at b1 b2 hq2⊢
  (repeat' (conv=>whnf);first|refine aC ?_ ?_<;>intro<;>try omega|refine z1_Y7 ?_|fail);all_goals try (conv=>whnf)
  refine aM [0] (N_ok L q2 hL hq2 12 (by omega) (by omega)) rfl rfl ?_
  rintro _ _ ⟨⟨u,q3⟩,⟨c1,c2,hq3⟩,rfl,rfl⟩
  dsimp only at c1 c2 hq3⊢
  (repeat' (conv=>whnf);first|refine aC ?_ ?_<;>intro<;>try omega|refine z1_Y7 ?_|fail);all_goals try (conv=>whnf)
  refine⟨(l++[⟨lo,lo+u,w⟩],q3),[0,1,5],⟨by simp only [List.length_append,List.length_singleton];omega,fun d hd'=>?_,hq3⟩,by simp only [List.length_append,List.length_singleton];omega,by dsimp only;rw [dms_app,List.length_append,List.length_singleton];(exact aL)⟩
  rcases List.mem_append.1 hd' with h|h
  ·exact hd d h
  ·rw [List.mem_singleton.1 h];unfold DmG;dsimp only;omega
 ·(repeat' (conv=>whnf);first|refine aC ?_ ?_<;>intro _|refine z2_Y7 ?_|fail);all_goals try (conv=>whnf)
  refine .mk [.wk [0,2] ⟨[(4, .vec 1)],[src L q, .vec 3 (dms l)]⟩] ⟨by(exact aL),?_⟩
  (repeat' (conv=>whnf);first|refine aC ?_ ?_<;>intro _|refine z1_Y7 ?_|fail);all_goals try (conv=>whnf)
  exact⟨(l,q),⟨by dsimp only;omega,hd,hq⟩,OI.refl _,Imp.refl _⟩
end
section
open Go.Sx Go.Fq Go.Np Go.Pv
theorem shared_ok:Ctr Tryz.prog 27 [] [] (fun r o=>o=[]∧r=ntv shN):=by
 refine Ctr.imp ?_
 refine fI 0 Tryz.func27 ?_
 have cS:=Stair_ok 4 1 0 (by decide)
 rw [show stv 4 1=[0,4]from rfl]at cS
 (repeat' (conv=>whnf);first|refine LitOb.ful ?_|refine aC ?_ ?_<;>intro _|refine z1_F1 ?_|(refine aK [] cS ?_)|fail);all_goals try (conv=>whnf)
 have h0:ImpL [i64 1,i64 10,i64 1, .nil, .nil] (lnv ⟨1,10,1,[],[]⟩):=⟨Imp.refl _,Imp.refl _,Imp.refl _,Imp.nil _,Imp.nil _,trivial⟩
 have h1:∀i,ImpL [.str (fname i), .ful 1 [[i64 0]],i64 0,i64 1,i64 1, .psl 1 (ints [0,4]),i64 1,i64 0] (flv (shF i)):=fun i=>⟨Imp.refl _,Imp.fulp rfl,Imp.refl _,Imp.refl _,Imp.refl _,Imp.refl _,Imp.refl _,Imp.refl _,trivial⟩
 exact⟨rfl,Imp.agg ⟨Imp.fulp rfl,Imp.fulr ⟨h0,trivial⟩,Imp.fulr ⟨h1 0,h1 1,trivial⟩,trivial⟩⟩
theorem sh_nl:NL shN:=by
 refine⟨by decide,by decide,by decide,fun s hs=>?_,fun l hl=>?_,fun f hf=>?_⟩
 ·rw [List.mem_singleton.1 hs];decide
 ·rw [List.mem_singleton.1 hl];decide
 ·have:f=shF 0∨f=shF 1:=by simpa [shN]using hf
  rcases this with e|e<;>subst e<;>decide
theorem ShS.lens {p:Pr} {X:List F} {s:Slt} {e:Int} (h:ShS p X s e):X.length≤24∧s.2.1.length≤24∧s.2.2.2.1.length≤24∧s.2.2.2.2.length≤24:=by
 cases h with
 |opt h hc hv hs=>
  have a1:=h.1.2.1
  have a2:=h.1.1.2.1
  have a3:=(bound_ok h.2.1).2.1.2.1
  have a4:=h.1.1.2.2.1
  exact⟨by omega,by dsimp only;omega,by dsimp only;omega,by simp⟩
 |inf h hs=>
  have a3:=h.1.2.1
  have a4:=h.1.1.2.2.1
  exact⟨by simp,by simp,by dsimp only;omega,by simp⟩
theorem sane34_ok:Ctr Tryz.prog 6 [] [] (fun r o=>o=[]∧r= .bl true):=by
 refine Ctr.imp ?_
 refine fI 0 Tryz.func6 ?_
 have hl:shL.length≤9223372036854775807:=by decide
 have cN:=shared_ok
 have cS:=pShare_ok shN sh_nl shL hl
 have cP:=pProg_ok shN sh_nl shL hl
 have cC:=pCheck_ok shN sh_nl shL hl
 have hE:prgE shN shL=prg shN shL:=by unfold prgE;rw [if_pos sh_s.chk]
 rw [hE,sh_s.chk]at cP
 rw [sh_s.chk]at cC
 (repeat' (conv=>whnf);first|refine LitOb.ful ?_|refine aC ?_ ?_<;>intro<;>try omega|refine z1_F1 ?_|fail);all_goals try (conv=>whnf)
 refine aK [] cN ?_
 (repeat' (conv=>whnf);first|refine aC ?_ ?_<;>intro<;>try omega|refine z1_F1 ?_|fail);all_goals try (conv=>whnf)
 refine CallOb.mk [] cS rfl ⟨Imp.refl _,Imp.fulp rfl,trivial⟩ rfl rfl ?_
 rintro _ _ ⟨⟨X,s,e⟩,hS,rfl,rfl⟩
 have hS:=ShP.small hS sh_s
 dsimp only at hS⊢
 have hln:=hS.lens
 have hchk:=hS.chk
 have cK:=pKeeps_ok shN sh_nl shL hl X (by omega)
 rw [hE,sh_s.chk]at cK
 cases hS with
 |inf h hs=>exact absurd hs sh_no
 |@opt X Y v h hc hv hs=>
  have hf:=h.1
  have hp:=VP.pl sh_s.vp
  have k4:=(prod_ok' hc).2.2.2.1
  rw [hv]at k4
  have hw:=(ShS.opt h hc hv hs).worth
  have e2:=sh_v k4 hs
  subst e2
  have cW:=pWorth_ok shL (by decide) X
  rw [hw.1]at cW
  have cD:=Check_ok (prg shN shL) hp 1 X (-18) 1 Y [] (by have:=hln.1;omega) (by have:=hln.2.2.1;dsimp only at this;omega) (by simp)
  have hr:=sh_len
  have hrw:=rw_len (prg shN shL).r
  generalize prg shN shL=p at*
  generalize Chk p (1,X,(-18,1),Y,[])=c at*
  generalize Feas p X=f at*
  clear hs hw hc hv h hln cS
  (repeat' (conv=>whnf);first|refine aC ?_ ?_<;>intro<;>try omega|refine z1_F1 ?_|(refine CallOb.mk [] cW rfl ⟨Imp.fulp rfl,Imp.refl _,trivial⟩ rfl rfl ?_;rintro _ _ ⟨rfl,rfl⟩)|(refine aK [] cN ?_)|(refine CallOb.mk [] cP rfl ⟨Imp.refl _,Imp.fulp rfl,trivial⟩ rfl rfl ?_;rintro _ _ ⟨rfl,rfl⟩)|(refine aK [] cD ?_)|(refine CallOb.mk [] cK rfl ⟨Imp.refl _,Imp.fulp rfl,Imp.refl _,trivial⟩ rfl rfl ?_;rintro _ _ ⟨rfl,rfl⟩)|(refine CallOb.mk [] cC rfl ⟨Imp.refl _,Imp.fulp rfl,trivial⟩ rfl rfl ?_;rintro _ _ ⟨rfl,rfl⟩)|fail);all_goals try (conv=>whnf)
  all_goals first
   |exact⟨rfl,Imp.bpl ⟨fun _=>rfl,fun _=>rfl⟩⟩
   |exact absurd hchk (by assumption)
   |exact absurd (And.intro (rfl:(0:Int)=0) hf) (by assumption)
   |exact absurd rfl (by assumption)
   |exact absurd (by rw [hrw,hr];rfl) (by assumption)
   |(exfalso;refine absurd (?_:conj _) (by assumption);simp [conj];done)
end
end Go.Proofs.YtbcjojomkibgeaaGreat
