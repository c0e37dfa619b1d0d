/- Lemmas of this seat. Conditions: as stated. -/
import Derived.Test.YtbcjojomkibgeaaGreatP6
import Derived.Test.YtbcjojomkibgeaaGreatPl
set_option linter.unusedVariables false
set_option linter.unusedSimpArgs false
set_option maxHeartbeats 2000000
set_option maxRecDepth 4000
namespace Go.Proofs.YtbcjojomkibgeaaGreat
section
open Go.Sx Go.Fq
theorem z1_P7 {G H:Prop} (k:H) (h:H→G:=by first|exact fun r=>aS r|exact fun r=>aG r|exact fun r=>aD r|exact fun r=>aH r|exact fun r=>aP_F1 r|exact fun r=>aI r|exact fun r=>aJ r|exact fun r=>aW (.qs [0,1,2,3,4,5] (.l 6 [3] (.l 7 [] (.qs [8,9] .nil) .no) .no)) r):G:=h k
theorem below1_ok (p:Pr) (hp:PL p) (y:List F) (hy:y.length≤9223372036854775807) (g:Nat) (c:SV) (l:Nat→F)
  (hg:∀j,j<p.c.length→Ctr Tryz.prog g [i64 j,c] [] (fun r o=>o=[]∧r= .agg [i64 (l j).1,i64 (l j).2])):
  Ctr Tryz.prog 107 [prv p,fsl y, .fn g [.shut c]] [] (fun r o=>o=[]∧r= .bp (Sgn p y∧Blw p y l)):=by
 refine Ctr.imp ?_
 refine fI 0 Tryz.func107 ?_
 have hlc:=fr_len p.c
 (repeat' (conv=>whnf);first|refine aC ?_ ?_<;>intro _|refine z1_P7 ?_|(refine aK [] (Signs_ok p hp y hy) ?_)|fail);all_goals try (conv=>whnf)
 ·exact⟨rfl,Imp.bl ⟨fun h=>(by cases h),fun h=>absurd h.1 (by assumption)⟩⟩
 have hsg:=Classical.not_not.1 ‹¬¬Sgn p y›
 have hvp:=hsg.1
 refine LoopOb.mk (Y:=Nat) (st:=fun i=>⟨[(17,i64 i),(16,i64 (fr2 p.c).length),(15,fsl p.c),(6, .bl false),(3, .ptr 0 0),(0,prv p),(1,fsl y),(2, .fn g [.shut c])],[.box [fsl p.c, .psl 4 (rws p.r)]]⟩)
  (inv:=fun i=>i≤p.c.length∧∀j<i,(prod (col p j) y).2.2 =0∧fcmp ((prod (col p j) y).1,(prod (col p j) y).2.1) (l j)≤0) (fun i=>p.c.length-i) 0 [0] ⟨by omega,by omega⟩ (by(exact aL)) ?_
 rintro i ⟨hi,hv⟩
 (repeat' (conv=>whnf);first|refine z1_P7 ?_|fail);all_goals try (conv=>whnf)
 refine CondOb.mk (fun hlt=>?_) (fun hlt=>?_)
 ·have hic:i<p.c.length:=by omega
  have hp2:=hp.1
  have cC:=column_ok p hvp i hic
  have cP:=Product_ok (col p i) y (by simp [col];exact hp.2.1)
  have cL:=hg i hic
  have cF:=fCompareF ((prod (col p i) y).1,(prod (col p i) y).2.1) (l i)
  have hst:(prod (col p i) y).2.2 =0∧fcmp ((prod (col p i) y).1,(prod (col p i) y).2.1) (l i)≤0→_:=fun h=>lt_step hv h
  have hno:¬((prod (col p i) y).2.2 =0∧fcmp ((prod (col p i) y).1,(prod (col p i) y).2.1) (l i)≤0)→¬Blw p y l:=fun h k=>h (k i hic)
  generalize col p i=co at*
  generalize prod co y=m at*
  generalize l i=li at*
  generalize fcmp (m.1,m.2.1) li=cc at*
  (repeat' (conv=>whnf);first|refine aC ?_ ?_<;>intro<;>try omega|refine z1_P7 ?_|(refine aK [] cC ?_)|(refine aK [] cP ?_)|(refine CallOb.mk [] cL rfl ⟨Imp.refl _,Imp.unshut _,trivial⟩ rfl rfl ?_;rintro _ _ ⟨rfl,rfl⟩)|(refine aK [] cF ?_)|fail);all_goals try (conv=>whnf)
  all_goals first
   |exact⟨rfl,Imp.bl ⟨fun h=>(by cases h),fun h=>absurd h.2 (hno (fun k=>by omega))⟩⟩
   |exact⟨i+1,[0],⟨by omega,hst ⟨by omega,by omega⟩⟩,by omega,by(exact aL)⟩
   |trace_state
 ·(repeat' (conv=>whnf);first|refine aC ?_ ?_<;>intro _|refine z1_P7 ?_|fail);all_goals try (conv=>whnf)
  exact⟨rfl,Imp.bl ⟨fun _=>⟨hsg,fun j hj=>hv j (by omega)⟩,fun _=>rfl⟩⟩
theorem below0_ok (p:Pr) (hp:PL p) (y:List F) (hy:y.length≤9223372036854775807) (g:Nat) (l:Nat→F)
  (hg:∀j,j<p.c.length→Ctr Tryz.prog g [i64 j] [] (fun r o=>o=[]∧r= .agg [i64 (l j).1,i64 (l j).2])):
  Ctr Tryz.prog 107 [prv p,fsl y, .fn g []] [] (fun r o=>o=[]∧r= .bp (Sgn p y∧Blw p y l)):=by
 refine Ctr.imp ?_
 refine fI 0 Tryz.func107 ?_
 have hlc:=fr_len p.c
 (repeat' (conv=>whnf);first|refine aC ?_ ?_<;>intro _|refine z1_P7 ?_|(refine aK [] (Signs_ok p hp y hy) ?_)|fail);all_goals try (conv=>whnf)
 ·exact⟨rfl,Imp.bl ⟨fun h=>(by cases h),fun h=>absurd h.1 (by assumption)⟩⟩
 have hsg:=Classical.not_not.1 ‹¬¬Sgn p y›
 have hvp:=hsg.1
 refine LoopOb.mk (Y:=Nat) (st:=fun i=>⟨[(17,i64 i),(16,i64 (fr2 p.c).length),(15,fsl p.c),(6, .bl false),(3, .ptr 0 0),(0,prv p),(1,fsl y),(2, .fn g [])],[.box [fsl p.c, .psl 4 (rws p.r)]]⟩)
  (inv:=fun i=>i≤p.c.length∧∀j<i,(prod (col p j) y).2.2 =0∧fcmp ((prod (col p j) y).1,(prod (col p j) y).2.1) (l j)≤0) (fun i=>p.c.length-i) 0 [0] ⟨by omega,by omega⟩ (by(exact aL)) ?_
 rintro i ⟨hi,hv⟩
 (repeat' (conv=>whnf);first|refine z1_P7 ?_|fail);all_goals try (conv=>whnf)
 refine CondOb.mk (fun hlt=>?_) (fun hlt=>?_)
 ·have hic:i<p.c.length:=by omega
  have hp2:=hp.1
  have cC:=column_ok p hvp i hic
  have cP:=Product_ok (col p i) y (by simp [col];exact hp.2.1)
  have cL:=hg i hic
  have cF:=fCompareF ((prod (col p i) y).1,(prod (col p i) y).2.1) (l i)
  have hst:(prod (col p i) y).2.2 =0∧fcmp ((prod (col p i) y).1,(prod (col p i) y).2.1) (l i)≤0→_:=fun h=>lt_step hv h
  have hno:¬((prod (col p i) y).2.2 =0∧fcmp ((prod (col p i) y).1,(prod (col p i) y).2.1) (l i)≤0)→¬Blw p y l:=fun h k=>h (k i hic)
  generalize col p i=co at*
  generalize prod co y=m at*
  generalize l i=li at*
  generalize fcmp (m.1,m.2.1) li=cc at*
  (repeat' (conv=>whnf);first|refine aC ?_ ?_<;>intro<;>try omega|refine z1_P7 ?_|(refine aK [] cC ?_)|(refine aK [] cP ?_)|(refine aK [] cL ?_)|(refine aK [] cF ?_)|fail);all_goals try (conv=>whnf)
  all_goals first
   |exact⟨rfl,Imp.bl ⟨fun h=>(by cases h),fun h=>absurd h.2 (hno (fun k=>by omega))⟩⟩
   |exact⟨i+1,[0],⟨by omega,hst ⟨by omega,by omega⟩⟩,by omega,by(exact aL)⟩
   |trace_state
 ·(repeat' (conv=>whnf);first|refine aC ?_ ?_<;>intro _|refine z1_P7 ?_|fail);all_goals try (conv=>whnf)
  exact⟨rfl,Imp.bl ⟨fun _=>⟨hsg,fun j hj=>hv j (by omega)⟩,fun _=>rfl⟩⟩
theorem z2_P7 {G H:Prop} (k:H) (h:H→G:=by first|exact fun r=>aS r|exact fun r=>aG r|exact fun r=>aD r|exact fun r=>aH r|exact fun r=>aP_F1 r|exact fun r=>aI r|exact fun r=>aJ r|exact fun r=>aW (.qs [0,1,2,3,4,5,6,7] (.l 8 [] (.qs [9,10] .nil) .no)) r):G:=h k
theorem rbelow_ok (p:Pr) (hp:PL p) (hvp:VP p) (y:List F) (cs:List F) (hcs:cs.length=p.c.length):
  Ctr Tryz.prog 100 [prv p,fsl y,fsl cs] [] (fun r o=>o=[]∧r= .bp (Blw p y (fun j=>cs.getD j (0,1)))):=by
 obtain⟨l,hl⟩:∃l,(fun j=>cs.getD j (0,1))=l:=⟨_,rfl⟩
 rw [hl]
 refine Ctr.imp ?_
 refine fI 0 Tryz.func100 ?_
 have hlc:=fr_len p.c
 have hlk:=fr_len cs
 (repeat' (conv=>whnf);first|refine aC ?_ ?_<;>intro _|refine z2_P7 ?_|fail);all_goals try (conv=>whnf)
 refine LoopOb.mk (Y:=Nat) (st:=fun i=>⟨[(7,i64 i),(6, .bl false),(3, .ptr 0 0),(0,prv p),(1,fsl y),(2,fsl cs)],[.box [fsl p.c, .psl 4 (rws p.r)]]⟩)
  (inv:=fun i=>i≤p.c.length∧∀j<i,(prod (col p j) y).2.2 =0∧fcmp ((prod (col p j) y).1,(prod (col p j) y).2.1) (l j)≤0) (fun i=>p.c.length-i) 0 [0] ⟨by omega,by omega⟩ (by(exact aL)) ?_
 rintro i ⟨hi,hv⟩
 (repeat' (conv=>whnf);first|refine z2_P7 ?_|fail);all_goals try (conv=>whnf)
 refine CondOb.mk (fun hlt=>?_) (fun hlt=>?_)
 ·have hic:i<p.c.length:=by omega
  have hp2:=hp.1
  have cC:=rcolumn_ok p hvp i hic
  have cP:=rProduct_ok (col p i) y (by simp [col];exact hp.2.1)
  have hgl:(fr2 cs)[i]? =some [i64 (l i).1,i64 (l i).2]:=by rw [←hl];exact fr_get (by omega)
  have cF:=rCompareF ((prod (col p i) y).1,(prod (col p i) y).2.1) (l i)
  have hst:(prod (col p i) y).2.2 =0∧fcmp ((prod (col p i) y).1,(prod (col p i) y).2.1) (l i)≤0→_:=fun h=>lt_step hv h
  have hno:¬((prod (col p i) y).2.2 =0∧fcmp ((prod (col p i) y).1,(prod (col p i) y).2.1) (l i)≤0)→¬Blw p y l:=fun h k=>h (k i hic)
  generalize col p i=co at*
  generalize prod co y=m at*
  generalize l i=li at hgl cF hst hno
  generalize fcmp (m.1,m.2.1) li=cc at*
  (repeat' (conv=>whnf);first|refine aC ?_ ?_<;>intro<;>try omega|refine z2_P7 ?_|(refine aK [] cC ?_)|(refine aK [] cP ?_)|refine⟨i,_,rfl,hgl,?_⟩|(refine aK [] cF ?_)|fail);all_goals try (conv=>whnf)
  all_goals first
   |exact⟨rfl,Imp.bl ⟨fun h=>(by cases h),fun h=>absurd h (hno (fun k=>by omega))⟩⟩
   |exact⟨i+1,[0],⟨by omega,hst ⟨by omega,by omega⟩⟩,by omega,by(exact aL)⟩
   |trace_state
 ·(repeat' (conv=>whnf);first|refine aC ?_ ?_<;>intro _|refine z2_P7 ?_|fail);all_goals try (conv=>whnf)
  exact⟨rfl,Imp.bl ⟨fun _=>fun j hj=>hv j (by omega),fun _=>rfl⟩⟩
end
section
open Go.Sx Go.Fq
theorem BoundC_ok (p:Pr) (j:Nat) (hj:j<p.c.length):Ctr Tryz.prog 132 [i64 j, .pptr [fsl p.c, .psl 4 (rws p.r)]] [] (fun r o=>o=[]∧r= .agg [i64 (p.c.getD j (0,1)).1,i64 (p.c.getD j (0,1)).2]):=by
 refine fI 0 Tryz.func132 ?_
 (repeat' (conv=>whnf);first|refine aC ?_ ?_<;>intro _|refine z1_F1 ?_|fail);all_goals try (conv=>whnf)
 refine⟨j,_,rfl,fr_get hj,?_⟩
 (repeat' (conv=>whnf);first|refine aC ?_ ?_<;>intro _|refine z1_F1 ?_|fail);all_goals try (conv=>whnf)
 exact⟨rfl,rfl⟩
theorem InfC_ok (j:Nat):Ctr Tryz.prog 108 [i64 j] [] (fun r o=>o=[]∧r= .agg [i64 ((0,1):F).1,i64 ((0,1):F).2]):=by
 refine fI 0 Tryz.func108 ?_
 (repeat' (conv=>whnf);first|refine aC ?_ ?_<;>intro _|refine z1_F1 ?_|fail);all_goals try (conv=>whnf)
 exact⟨rfl,rfl⟩
theorem bound_bad {p y} (h:¬VP p):bound p y=(0,0,2):=by unfold bound;rw [if_pos h]
theorem bound_no {p y} (h:VP p) (k:¬(Sgn p y∧Blw p y (fun j=>p.c.getD j (0,1)))):bound p y=(0,0,8):=by unfold bound;rw [if_neg (fun g=>g h),if_neg k]
theorem bound_yes {p y} (h:VP p) (k:Sgn p y∧Blw p y (fun j=>p.c.getD j (0,1))):bound p y=prod (bds p) y:=by unfold bound;rw [if_neg (fun g=>g h),if_pos k]
theorem Bound_ok (p:Pr) (hp:PL p) (y:List F) (hy:y.length≤9223372036854775807):Ctr Tryz.prog 105 [prv p,fsl y] [] (fun r o=>o=[]∧r=res (bound p y)):=by
 refine fI 0 Tryz.func105 ?_
 (repeat' (conv=>whnf);first|refine aC ?_ ?_<;>intro _|refine z2_P5 ?_|fail);all_goals try (conv=>whnf)
 refine .mk [] ?_
 (repeat' (conv=>whnf);first|refine aC ?_ ?_<;>intro _|refine z2_P5 ?_|(refine aK [] (Valid_ok p hp) ?_)|fail);all_goals try (conv=>whnf)
 ·refine .mk [] ?_
  (repeat' (conv=>whnf);first|refine aC ?_ ?_<;>intro _|refine z1_F1 ?_|fail);all_goals try (conv=>whnf)
  exact⟨rfl,by rw [bound_bad (by assumption)];rfl⟩
 have hvp:=Classical.not_not.1 ‹¬¬VP p›
 refine .mk [.fb 0] ?_
 (repeat' (conv=>whnf);first|refine aC ?_ ?_<;>intro _|refine z1_F1 ?_|fail);all_goals try (conv=>whnf)
 refine CallOb.mk [] (below1_ok p hp y hy 132 (.pptr [fsl p.c, .psl 4 (rws p.r)]) (fun j=>p.c.getD j (0,1)) (fun j hj=>BoundC_ok p j hj)) rfl ⟨Imp.refl _,Imp.refl _,Imp.fn ⟨Imp.shut rfl,trivial⟩,trivial⟩ rfl rfl ?_
 rintro _ _ ⟨rfl,rfl⟩
 (repeat' (conv=>whnf);first|refine aC ?_ ?_<;>intro _|refine z1_F1 ?_|(refine aK [] (bounds_ok p hvp) ?_)|(refine aK [] (Product_ok (bds p) y (by rw [bds_len];exact hp.2.1)) ?_)|fail);all_goals try (conv=>whnf)
 ·exact⟨rfl,by rw [bound_no hvp (by assumption)];rfl⟩
 ·exact⟨rfl,by rw [bound_yes hvp (Classical.not_not.1 (by assumption))];rfl⟩
theorem rBound_ok (p:Pr) (hp:PL p) (y:List F) (hy:y.length≤9223372036854775807):Ctr Tryz.prog 98 [prv p,fsl y] [] (fun r o=>o=[]∧r=res (bound p y)):=by
 refine fI 0 Tryz.func98 ?_
 (repeat' (conv=>whnf);first|refine aC ?_ ?_<;>intro _|refine z1_F1 ?_|(refine aK [] (rValidP_ok p hp) ?_)|(refine aK [] (rSigns_ok p hp y hy) ?_)|fail);all_goals try (conv=>whnf)
 ·exact⟨rfl,by rw [bound_bad (by assumption)];rfl⟩
 ·exact⟨rfl,by rw [bound_no (Classical.not_not.1 ‹¬¬VP p›) (fun h=>absurd h.1 (by assumption))];rfl⟩
 have hvp:=Classical.not_not.1 ‹¬¬VP p›
 have hsg:=Classical.not_not.1 ‹¬¬Sgn p y›
 refine aK [] (rbelow_ok p hp hvp y p.c rfl) ?_
 (repeat' (conv=>whnf);first|refine aC ?_ ?_<;>intro _|refine z1_F1 ?_|(refine aK [] (rbounds_ok p hvp) ?_)|(refine aK [] (rProduct_ok (bds p) y (by rw [bds_len];exact hp.2.1)) ?_)|fail);all_goals try (conv=>whnf)
 ·exact⟨rfl,by rw [bound_no hvp (fun h=>absurd h.2 (by assumption))];rfl⟩
 ·exact⟨rfl,by rw [bound_yes hvp ⟨hsg,Classical.not_not.1 (by assumption)⟩];rfl⟩
end
end Go.Proofs.YtbcjojomkibgeaaGreat
