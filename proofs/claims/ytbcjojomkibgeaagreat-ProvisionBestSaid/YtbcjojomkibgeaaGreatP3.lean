/- Lemmas of this seat. Conditions: as stated. -/
import Derived.Test.YtbcjojomkibgeaaGreatP2
set_option linter.unusedVariables false
set_option linter.unusedSimpArgs false
set_option maxHeartbeats 2000000
set_option maxRecDepth 4000
namespace Go.Proofs.YtbcjojomkibgeaaGreat
open Go.Sx Go.Fq
abbrev rwv (w:Rw):List SV:=[fsl w.1,i64 w.2.1,i64 w.2.2.1,i64 w.2.2.2]
abbrev rws (l:List Rw):List (List SV):=l.map rwv
abbrev prv (p:Pr):SV:= .agg [fsl p.c, .psl 4 (rws p.r)]
abbrev rw0:Rw:=([],0,(0,1))
theorem rw_len (l:List Rw):(rws l).length =l.length:=by simp [rws]
theorem rw_get {l:List Rw} {i:Nat} (h:i<l.length):(rws l)[i]? =some (rwv (l.getD i rw0)):=by simp [rws,h]
theorem rall_to {l:List Rw} {P:Rw→Prop} {i:Nat} (h:∀j<i,P (l.getD j rw0)) (hi:l.length≤i):∀f∈l,P f:=by
 intro f hf
 obtain⟨j,hj,rfl⟩:=List.mem_iff_getElem.1 hf
 have:=h j (by omega)
 simpa [hj]using this
theorem rall_at {l:List Rw} {P:Rw→Prop} (h:∀f∈l,P f) {i:Nat} (hi:i<l.length):P (l.getD i rw0):=by
 have:=h l[i] (List.getElem_mem hi)
 simpa [hi]using this
theorem rall_step {l:List Rw} {P:Rw→Prop} {i:Nat} (h:∀j<i,P (l.getD j rw0)) (hi:P (l.getD i rw0)):∀j<i+1,P (l.getD j rw0):=by
 intro j hj
 by_cases e:j=i
 ·rw [e];exact hi
 ·exact h j (by omega)
def RwOK (n:Nat) (w:Rw):Prop:=w.1.length=n∧1≤w.2.1∧w.2.1≤3∧(∀f∈w.1,VF f)∧VF w.2.2
theorem vp_iff {p:Pr}:VP p↔1≤p.c.length∧p.c.length≤6∧p.r.length≤24∧(∀f∈p.c,VF f)∧∀w∈p.r,RwOK p.c.length w:=Iff.rfl
def PL (p:Pr):Prop:=p.c.length≤9223372036854775807∧p.r.length≤9223372036854775807∧∀w∈p.r,w.1.length≤9223372036854775807
theorem VP.pl {p} (h:VP p):PL p:=⟨by have:=h.2.1;omega,by have:=h.2.2.1;omega,fun w hw=>by have:=(h.2.2.2.2 w hw).1;have:=h.2.1;omega⟩
theorem Valid_ok (p:Pr) (hp:PL p):Ctr Tryz.prog 70 [prv p] [] (fun r o=>o=[]∧r= .bp (VP p)):=by
 refine Ctr.imp ?_
 refine fI 0 Tryz.func70 ?_
 obtain⟨hp1,hp2,hp3⟩:=hp
 have hlc:=fr_len p.c
 have hlr:=rw_len p.r
 (repeat' (conv=>whnf);first|refine aC ?_ ?_<;>intro<;>try omega|refine z1_F1 ?_|(refine aK [] (valid_ok p.c hp1) ?_)|fail);all_goals try (conv=>whnf)
 ·exact⟨rfl,Imp.bl ⟨fun h=>(by cases h),fun h=>by have:=(vp_iff.1 h).1;omega⟩⟩
 ·exact⟨rfl,Imp.bl ⟨fun h=>(by cases h),fun h=>by have:=(vp_iff.1 h).2.1;omega⟩⟩
 ·exact⟨rfl,Imp.bl ⟨fun h=>(by cases h),fun h=>by have:=(vp_iff.1 h).2.2.1;omega⟩⟩
 ·exact⟨rfl,Imp.bl ⟨fun h=>(by cases h),fun h=>absurd (vp_iff.1 h).2.2.2.1 (by assumption)⟩⟩
 have hvc:=Classical.not_not.1 ‹¬¬∀(f:F),f∈p.c→VF f›
 refine LoopOb.mk (Y:=Nat) (st:=fun i=>⟨[(30,i64 i),(29,i64 (rws p.r).length),(28, .psl 4 (rws p.r)),(3,i64 (fr2 p.c).length),(2, .bl false),(1, .ptr 0 0)],[.box [fsl p.c, .psl 4 (rws p.r)]]⟩)
  (inv:=fun i=>i≤p.r.length∧∀j<i,RwOK p.c.length (p.r.getD j rw0)) (fun i=>p.r.length-i) 0 [0] ⟨by omega,by omega⟩ (by(exact aL)) ?_
 rintro i ⟨hi,hv⟩
 (repeat' (conv=>whnf);first|refine z1_F1 ?_|fail);all_goals try (conv=>whnf)
 refine CondOb.mk (fun hlt=>?_) (fun hlt=>?_)
 ·have hil:i<p.r.length:=by omega
  have hgt:=rw_get hil
  have hst:RwOK p.c.length (p.r.getD i rw0)→_:=fun h=>rall_step hv h
  have hno:¬RwOK p.c.length (p.r.getD i rw0)→¬VP p:=fun h k=>h (rall_at k.2.2.2.2 hil)
  have hwl:=rall_at hp3 hil
  generalize p.r.getD i rw0=w at*
  have hlw:=fr_len w.1
  (repeat' (conv=>whnf);first|refine aC ?_ ?_<;>intro _|refine z1_F1 ?_|refine⟨i,_,rfl,hgt,?_⟩|(refine aK [] (valid_ok w.1 hwl) ?_)|(refine aK [] (fValid_ok w.2.2.1 w.2.2.2) ?_)|fail);all_goals try (conv=>whnf)
  ·exact⟨rfl,Imp.bl ⟨fun h=>(by cases h),fun h=>absurd h (hno fun k=>by have:=k.1;omega)⟩⟩
  ·exact⟨rfl,Imp.bl ⟨fun h=>(by cases h),fun h=>absurd h (hno fun k=>by have:=k.2.1;omega)⟩⟩
  ·exact⟨rfl,Imp.bl ⟨fun h=>(by cases h),fun h=>absurd h (hno fun k=>by have:=k.2.2.1;omega)⟩⟩
  ·exact⟨rfl,Imp.bl ⟨fun h=>(by cases h),fun h=>absurd h (hno fun k=>absurd k.2.2.2.1 (by assumption))⟩⟩
  ·exact⟨rfl,Imp.bl ⟨fun h=>(by cases h),fun h=>absurd h (hno fun k=>absurd k.2.2.2.2 (by assumption))⟩⟩
  ·exact⟨i+1,[0],⟨by omega,hst ⟨by omega,by omega,by omega,Classical.not_not.1 (by assumption),Classical.not_not.1 (by assumption)⟩⟩,by omega,by(exact aL)⟩
 ·(repeat' (conv=>whnf);first|refine aC ?_ ?_<;>intro _|refine z1_F1 ?_|fail);all_goals try (conv=>whnf)
  exact⟨rfl,Imp.bl ⟨fun _=>⟨by omega,by omega,by omega,hvc,rall_to hv (by omega)⟩,fun _=>rfl⟩⟩
theorem rValidP_ok (p:Pr) (hp:PL p):Ctr Tryz.prog 73 [prv p] [] (fun r o=>o=[]∧r= .bp (VP p)):=by
 refine Ctr.imp ?_
 refine fI 0 Tryz.func73 ?_
 obtain⟨hp1,hp2,hp3⟩:=hp
 have hlc:=fr_len p.c
 have hlr:=rw_len p.r
 (repeat' (conv=>whnf);first|refine aC ?_ ?_<;>intro<;>try omega|refine z1_F1 ?_|(refine aK [] (all_ok p.c hp1) ?_)|fail);all_goals try (conv=>whnf)
 ·exact⟨rfl,Imp.bl ⟨fun h=>(by cases h),fun h=>by have:=(vp_iff.1 h).1;omega⟩⟩
 ·exact⟨rfl,Imp.bl ⟨fun h=>(by cases h),fun h=>by have:=(vp_iff.1 h).2.1;omega⟩⟩
 ·exact⟨rfl,Imp.bl ⟨fun h=>(by cases h),fun h=>by have:=(vp_iff.1 h).2.2.1;omega⟩⟩
 ·exact⟨rfl,Imp.bl ⟨fun h=>(by cases h),fun h=>absurd (vp_iff.1 h).2.2.2.1 (by assumption)⟩⟩
 have hvc:=Classical.not_not.1 ‹¬¬∀(f:F),f∈p.c→VF f›
 refine LoopOb.mk (Y:=Nat) (st:=fun i=>⟨[(3,i64 i),(2, .bl false),(1, .ptr 0 0)],[.box [fsl p.c, .psl 4 (rws p.r)]]⟩)
  (inv:=fun i=>i≤p.r.length∧∀j<i,RwOK p.c.length (p.r.getD j rw0)) (fun i=>p.r.length-i) 0 [0] ⟨by omega,by omega⟩ (by(exact aL)) ?_
 rintro i ⟨hi,hv⟩
 (repeat' (conv=>whnf);first|refine z1_F1 ?_|fail);all_goals try (conv=>whnf)
 refine CondOb.mk (fun hlt=>?_) (fun hlt=>?_)
 ·have hil:i<p.r.length:=by omega
  have hgt:=rw_get hil
  have hst:RwOK p.c.length (p.r.getD i rw0)→_:=fun h=>rall_step hv h
  have hno:¬RwOK p.c.length (p.r.getD i rw0)→¬VP p:=fun h k=>h (rall_at k.2.2.2.2 hil)
  have hwl:=rall_at hp3 hil
  generalize p.r.getD i rw0=w at*
  have hlw:=fr_len w.1
  (repeat' (conv=>whnf);first|refine aC ?_ ?_<;>intro _|refine z1_F1 ?_|refine⟨i,_,rfl,hgt,?_⟩|(refine aK [] (all_ok w.1 hwl) ?_)|(refine aK [] (rValid_ok w.2.2.1 w.2.2.2) ?_)|fail);all_goals try (conv=>whnf)
  ·exact⟨rfl,Imp.bl ⟨fun h=>(by cases h),fun h=>absurd h (hno fun k=>by have:=k.1;omega)⟩⟩
  ·exact⟨rfl,Imp.bl ⟨fun h=>(by cases h),fun h=>absurd h (hno fun k=>by have:=k.2.1;omega)⟩⟩
  ·exact⟨rfl,Imp.bl ⟨fun h=>(by cases h),fun h=>absurd h (hno fun k=>by have:=k.2.2.1;omega)⟩⟩
  ·exact⟨rfl,Imp.bl ⟨fun h=>(by cases h),fun h=>absurd h (hno fun k=>absurd k.2.2.2.1 (by assumption))⟩⟩
  ·exact⟨rfl,Imp.bl ⟨fun h=>(by cases h),fun h=>absurd h (hno fun k=>absurd k.2.2.2.2 (by assumption))⟩⟩
  ·exact⟨i+1,[0],⟨by omega,hst ⟨by omega,by omega,by omega,Classical.not_not.1 (by assumption),Classical.not_not.1 (by assumption)⟩⟩,by omega,by(exact aL)⟩
 ·(repeat' (conv=>whnf);first|refine aC ?_ ?_<;>intro _|refine z1_F1 ?_|fail);all_goals try (conv=>whnf)
  exact⟨rfl,Imp.bl ⟨fun _=>⟨by omega,by omega,by omega,hvc,rall_to hv (by omega)⟩,fun _=>rfl⟩⟩
end Go.Proofs.YtbcjojomkibgeaaGreat
