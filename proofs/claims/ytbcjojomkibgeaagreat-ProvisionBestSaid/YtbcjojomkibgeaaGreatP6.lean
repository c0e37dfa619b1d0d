/- Lemmas of this seat. Conditions: as stated. -/
import Derived.Test.YtbcjojomkibgeaaGreatS2
import Derived.Test.YtbcjojomkibgeaaGreatPl
set_option linter.unusedVariables false
set_option linter.unusedSimpArgs false
set_option maxHeartbeats 2000000
set_option maxRecDepth 4000
namespace Go.Proofs.YtbcjojomkibgeaaGreat
section
open Go.Sx Go.Fq
def SgnAt (w:Rw) (f:F):Prop:=VF f∧¬(w.2.1=1∧0<f.1)∧¬(w.2.1=2∧f.1<0)
theorem sgn_iff {p:Pr} {y:List F} (hv:VP p) (hl:y.length=p.r.length):Sgn p y↔∀j<p.r.length,SgnAt (p.r.getD j rw0) (y.getD j (0,1)):=by
 constructor
 ·rintro⟨_,_,h⟩ j hj
  have:=h j _ _ (List.getElem?_eq_getElem hj) (List.getElem?_eq_getElem (show j<y.length by omega))
  simpa [SgnAt,hj,show j<y.length by omega]using this
 ·intro h
  refine⟨hv,hl,fun i w f hw hf=>?_⟩
  obtain⟨hi,rfl⟩:=List.getElem?_eq_some_iff.1 hw
  obtain⟨hi',rfl⟩:=List.getElem?_eq_some_iff.1 hf
  have:=h i hi
  simpa [SgnAt,hi,hi']using this
theorem lt_step {P:Nat→Prop} {i:Nat} (h:∀j<i,P j) (hi:P i):∀j<i+1,P j:=by
 intro j hj
 by_cases e:j=i
 ·rw [e];exact hi
 ·exact h j (by omega)
theorem Signs_ok (p:Pr) (hp:PL p) (y:List F) (hy:y.length≤9223372036854775807):Ctr Tryz.prog 135 [prv p,fsl y] [] (fun r o=>o=[]∧r= .bp (Sgn p y)):=by
 refine Ctr.imp ?_
 refine fI 0 Tryz.func135 ?_
 have hly:=fr_len y
 have hlr:=rw_len p.r
 (repeat' (conv=>whnf);first|refine aC ?_ ?_<;>intro<;>try omega|refine z1_F1 ?_|(refine aK [] (Valid_ok p hp) ?_)|fail);all_goals try (conv=>whnf)
 ·exact⟨rfl,Imp.bl ⟨fun h=>(by cases h),fun h=>absurd h.1 (by assumption)⟩⟩
 ·exact⟨rfl,Imp.bl ⟨fun h=>(by cases h),fun h=>by have:=h.2.1;omega⟩⟩
 have hvp:=Classical.not_not.1 ‹¬¬VP p›
 have hyl:y.length=p.r.length:=by omega
 have hsg:=sgn_iff hvp hyl
 refine LoopOb.mk (Y:=Nat) (st:=fun i=>⟨[(21,i64 i),(20,i64 (rws p.r).length),(19, .psl 4 (rws p.r)),(4, .bl false),(2, .ptr 0 0),(0,prv p),(1,fsl y)],[.box [fsl p.c, .psl 4 (rws p.r)]]⟩)
  (inv:=fun i=>i≤p.r.length∧∀j<i,SgnAt (p.r.getD j rw0) (y.getD j (0,1))) (fun i=>p.r.length-i) 0 [0] ⟨by omega,by omega⟩ (by(exact aL)) ?_
 rintro i ⟨hi,hv⟩
 (repeat' (conv=>whnf);first|refine z1_F1 ?_|fail);all_goals try (conv=>whnf)
 refine CondOb.mk (fun hlt=>?_) (fun hlt=>?_)
 ·have hil:i<p.r.length:=by omega
  have hp2:=hp.2.1
  have hgt:=rw_get hil
  have hgy:=fr_get (l:=y) (i:=i) (by omega)
  have hst:SgnAt (p.r.getD i rw0) (y.getD i (0,1))→_:=fun h=>lt_step hv h
  have hno:¬SgnAt (p.r.getD i rw0) (y.getD i (0,1))→¬Sgn p y:=fun h k=>h (hsg.1 k i hil)
  generalize p.r.getD i rw0=w at*
  generalize y.getD i (0,1)=f at*
  unfold SgnAt at hst hno
  have hno':¬VF f∨(w.2.1=1∧0<f.1)∨(w.2.1=2∧f.1<0)→¬Sgn p y:=fun h=>hno (fun k=>by
   rcases h with h|h|h
   ·exact h k.1
   ·exact k.2.1 h
   ·exact k.2.2 h)
  clear hno
  (repeat' (conv=>whnf);first|refine aC ?_ ?_<;>intro<;>try omega|refine z1_F1 ?_|refine⟨i,_,rfl,hgt,?_⟩|refine⟨i,_,rfl,hgy,?_⟩|(refine aK [] (fValid_ok f.1 f.2) ?_)|fail);all_goals try (conv=>whnf)
  all_goals first
   |exact⟨rfl,Imp.bl ⟨fun h=>(by cases h),fun h=>absurd h (hno' (.inl (by assumption)))⟩⟩
   |exact⟨rfl,Imp.bl ⟨fun h=>(by cases h),fun h=>absurd h (hno' (.inr (by omega)))⟩⟩
   |exact⟨i+1,[0],⟨by omega,hst ⟨Classical.not_not.1 (by assumption),by omega,by omega⟩⟩,by omega,by(exact aL)⟩
   |trace_state
 ·(repeat' (conv=>whnf);first|refine aC ?_ ?_<;>intro _|refine z1_F1 ?_|fail);all_goals try (conv=>whnf)
  exact⟨rfl,Imp.bl ⟨fun _=>hsg.2 (fun j hj=>hv j (by omega)),fun _=>rfl⟩⟩
theorem rSigns_ok (p:Pr) (hp:PL p) (y:List F) (hy:y.length≤9223372036854775807):Ctr Tryz.prog 99 [prv p,fsl y] [] (fun r o=>o=[]∧r= .bp (Sgn p y)):=by
 refine Ctr.imp ?_
 refine fI 0 Tryz.func99 ?_
 have hly:=fr_len y
 have hlr:=rw_len p.r
 (repeat' (conv=>whnf);first|refine aC ?_ ?_<;>intro<;>try omega|refine z1_F1 ?_|(refine aK [] (rValidP_ok p hp) ?_)|fail);all_goals try (conv=>whnf)
 ·exact⟨rfl,Imp.bl ⟨fun h=>(by cases h),fun h=>absurd h.1 (by assumption)⟩⟩
 ·exact⟨rfl,Imp.bl ⟨fun h=>(by cases h),fun h=>by have:=h.2.1;omega⟩⟩
 have hvp:=Classical.not_not.1 ‹¬¬VP p›
 have hyl:y.length=p.r.length:=by omega
 have hsg:=sgn_iff hvp hyl
 refine LoopOb.mk (Y:=Nat) (st:=fun i=>⟨[(5,i64 i),(4, .bl false),(2, .ptr 0 0),(0,prv p),(1,fsl y)],[.box [fsl p.c, .psl 4 (rws p.r)]]⟩)
  (inv:=fun i=>i≤p.r.length∧∀j<i,SgnAt (p.r.getD j rw0) (y.getD j (0,1))) (fun i=>p.r.length-i) 0 [0] ⟨by omega,by omega⟩ (by(exact aL)) ?_
 rintro i ⟨hi,hv⟩
 (repeat' (conv=>whnf);first|refine z1_F1 ?_|fail);all_goals try (conv=>whnf)
 refine CondOb.mk (fun hlt=>?_) (fun hlt=>?_)
 ·have hil:i<p.r.length:=by omega
  have hp2:=hp.2.1
  have hgt:=rw_get hil
  have hgy:=fr_get (l:=y) (i:=i) (by omega)
  have hst:SgnAt (p.r.getD i rw0) (y.getD i (0,1))→_:=fun h=>lt_step hv h
  have hno:¬SgnAt (p.r.getD i rw0) (y.getD i (0,1))→¬Sgn p y:=fun h k=>h (hsg.1 k i hil)
  generalize p.r.getD i rw0=w at*
  generalize y.getD i (0,1)=f at*
  unfold SgnAt at hst hno
  have hno':¬VF f∨(w.2.1=1∧0<f.1)∨(w.2.1=2∧f.1<0)→¬Sgn p y:=fun h=>hno (fun k=>by
   rcases h with h|h|h
   ·exact h k.1
   ·exact k.2.1 h
   ·exact k.2.2 h)
  clear hno
  (repeat' (conv=>whnf);first|refine aC ?_ ?_<;>intro<;>try omega|refine z1_F1 ?_|refine⟨i,_,rfl,hgt,?_⟩|refine⟨i,_,rfl,hgy,?_⟩|(refine aK [] (rValid_ok f.1 f.2) ?_)|fail);all_goals try (conv=>whnf)
  all_goals first
   |exact⟨rfl,Imp.bl ⟨fun h=>(by cases h),fun h=>absurd h (hno' (.inl (by assumption)))⟩⟩
   |exact⟨rfl,Imp.bl ⟨fun h=>(by cases h),fun h=>absurd h (hno' (.inr (by omega)))⟩⟩
   |exact⟨i+1,[0],⟨by omega,hst ⟨Classical.not_not.1 (by assumption),by omega,by omega⟩⟩,by omega,by(exact aL)⟩
   |trace_state
 ·(repeat' (conv=>whnf);first|refine aC ?_ ?_<;>intro _|refine z1_F1 ?_|fail);all_goals try (conv=>whnf)
  exact⟨rfl,Imp.bl ⟨fun _=>hsg.2 (fun j hj=>hv j (by omega)),fun _=>rfl⟩⟩
end
section
open Go.Sx Go.Fq
theorem fnew_ok {a b x y:Int} (hb:b≠0) (h:fnew a b=(x,y,0)):VF (x,y)∧val (x,y)=Rat.divInt a b:=by
 unfold fnew at h
 rw [if_neg hb]at h
 obtain⟨hs,e⟩:=fenc_ok h
 exact⟨by rw [e];exact vf_enc hs,by rw [e];exact val_enc⟩
theorem r3 {a:R} (h:a.2.2=0):a=(a.1,a.2.1,0):=by rw [←h]
theorem val_int (a:Int):val (a,1)=(a:Rat):=by exact Rat.num_divInt_den (a:Rat)
end
end Go.Proofs.YtbcjojomkibgeaaGreat
