/- Lemmas of this seat. Conditions: as stated. -/
import Derived.Test.YtbcjojomkibgeaaGreatP3
import Derived.Test.YtbcjojomkibgeaaGreatSxC
set_option linter.unusedVariables false
set_option linter.unusedSimpArgs false
set_option maxHeartbeats 2000000
set_option maxRecDepth 4000
namespace Go.Proofs.YtbcjojomkibgeaaGreat
section
open Go.Sx Go.Fq
theorem holds_ok (w:Rw) (x:F):Ctr Tryz.prog 93 [.agg (rwv w), .agg [i64 x.1,i64 x.2]] [] (fun r o=>o=[]∧r= .bp (keeps w (fcmp x w.2.2))):=by
 refine Ctr.imp ?_
 refine fI 0 Tryz.func93 ?_
 have cC:=rCompareF x w.2.2
 generalize fcmp x w.2.2=c at*
 (repeat' (conv=>whnf);first|refine aC ?_ ?_<;>intro _|refine z1_F1 ?_|(refine aK [] cC ?_)|fail);all_goals try (conv=>whnf)
 all_goals unfold keeps
 all_goals first
  |exact⟨rfl,Imp.bl ⟨fun _=>by omega,fun _=>rfl⟩⟩
  |exact⟨rfl,Imp.bl ⟨fun h=>(by cases h),fun h=>by omega⟩⟩
  |exact⟨rfl,Imp.bp (by omega)⟩
theorem Feasible_ok (p:Pr) (hp:PL p) (x:List F) (hx:x.length≤9223372036854775807):Ctr Tryz.prog 53 [prv p,fsl x] [] (fun r o=>o=[]∧r= .bp (Feas p x)):=by
 refine Ctr.imp ?_
 refine fI 0 Tryz.func53 ?_
 have hlc:=fr_len p.c
 have hlx:=fr_len x
 have hlr:=rw_len p.r
 (repeat' (conv=>whnf);first|refine aC ?_ ?_<;>intro<;>try omega|refine z1_F1 ?_|(refine aK [] (Valid_ok p hp) ?_)|(refine aK [] (valid_ok x hx) ?_)|fail);all_goals try (conv=>whnf)
 ·exact⟨rfl,Imp.bl ⟨fun h=>(by cases h),fun h=>absurd h.1 (by assumption)⟩⟩
 ·exact⟨rfl,Imp.bl ⟨fun h=>(by cases h),fun h=>by have:=h.2.1;omega⟩⟩
 ·exact⟨rfl,Imp.bl ⟨fun h=>(by cases h),fun h=>absurd h.2.2.1 (by assumption)⟩⟩
 have hvp:=Classical.not_not.1 ‹¬¬VP p›
 have hxl:x.length=p.c.length:=by omega
 have hxv:=Classical.not_not.1 ‹¬¬∀(f:F),f∈x→VF f›
 refine LoopOb.mk (Y:=Nat) (st:=fun i=>⟨[(30,i64 i),(29,i64 (fr2 x).length),(28,fsl x),(4, .bl false),(2, .ptr 0 0),(0,prv p),(1,fsl x)],[.box [fsl p.c, .psl 4 (rws p.r)]]⟩)
  (inv:=fun i=>i≤x.length∧∀j<i,0≤(x.getD j (0,1)).1) (fun i=>x.length-i) 0 [0] ⟨by omega,by omega⟩ (by(exact aL)) ?_
 rintro i ⟨hi,hv⟩
 (repeat' (conv=>whnf);first|refine z1_F1 ?_|fail);all_goals try (conv=>whnf)
 refine CondOb.mk (fun hlt=>?_) (fun hlt=>?_)
 ·(repeat' (conv=>whnf);first|refine aC ?_ ?_<;>intro _|refine z1_F1 ?_|refine⟨i,_,rfl,fr_get (by omega),?_⟩|fail);all_goals try (conv=>whnf)
  ·exact⟨rfl,Imp.bl ⟨fun h=>(by cases h),fun h=>by have:0≤(x.getD i (0,1)).1 :=all_at (P:=fun f=>0≤f.1) h.2.2.2.1 (by omega);omega⟩⟩
  ·exact⟨i+1,[0],⟨by omega,all_step (P:=fun f=>0≤f.1) hv (show 0≤(x.getD i (0,1)).1 by omega)⟩,by omega,by(exact aL)⟩
 have hx0:=all_to (P:=fun f=>0≤f.1) hv (by omega)
 (repeat' (conv=>whnf);first|refine aC ?_ ?_<;>intro _|refine z1_F1 ?_|fail);all_goals try (conv=>whnf)
 refine LoopOb.mk (Y:=Nat) (st:=fun i=>⟨[(41,i64 i),(40,i64 (rws p.r).length),(39, .psl 4 (rws p.r)),(4, .bl false),(2, .ptr 0 0),(0,prv p),(1,fsl x)],[.box [fsl p.c, .psl 4 (rws p.r)]]⟩)
  (inv:=fun i=>i≤p.r.length∧∀j<i,rowOK (p.r.getD j rw0) x) (fun i=>p.r.length-i) 0 [0] ⟨by omega,by omega⟩ (by(exact aL)) ?_
 clear hlt hv hi i
 rintro i ⟨hi,hv⟩
 (repeat' (conv=>whnf);first|refine z1_F1 ?_|fail);all_goals try (conv=>whnf)
 refine CondOb.mk (fun hlt=>?_) (fun hlt=>?_)
 ·have hil:i<p.r.length:=by omega
  have hgt:=rw_get hil
  have hst:rowOK (p.r.getD i rw0) x→_:=fun h=>rall_step (P:=fun w=>rowOK w x) hv h
  have hno:¬rowOK (p.r.getD i rw0) x→¬Feas p x:=fun h k=>h (rall_at (P:=fun w=>rowOK w x) k.2.2.2.2 hil)
  have hwl:=rall_at hp.2.2 hil
  have hws:=rall_at hvp.2.2.2.2 hil
  generalize p.r.getD i rw0=w at*
  have cP:=Product_ok w.1 x hwl
  have hrow:rowOK w x↔(prod w.1 x).2.2 =0∧keeps w (fcmp ((prod w.1 x).1,(prod w.1 x).2.1) w.2.2):=Iff.rfl
  have hp2:=hp.2.1
  generalize rowOK w x=Q at*
  generalize prod w.1 x=m at*
  have cC:=fCompareF (m.1,m.2.1) w.2.2
  unfold keeps at hrow
  generalize fcmp (m.1,m.2.1) w.2.2=c at*
  (repeat' (conv=>whnf);first|refine aC ?_ ?_<;>intro<;>try omega|refine z1_F1 ?_|refine⟨i,_,rfl,hgt,?_⟩|(refine aK [] cP ?_)|(refine aK [] cC ?_)|fail);all_goals try (conv=>whnf)
  all_goals first
   |exact⟨rfl,Imp.bl ⟨fun h=>(by cases h),fun h=>absurd h (hno fun k=>by have:=hrow.1 k;omega)⟩⟩
   |exact⟨rfl,Imp.bl ⟨fun h=>(by cases h),fun h=>absurd h (hno fun k=>absurd (hrow.1 k).2 (by assumption))⟩⟩
   |exact⟨i+1,[0],⟨by omega,hst (hrow.2 ⟨by omega,by have:=hws.2.1;have:=hws.2.2.1;omega⟩)⟩,by omega,by(exact aL)⟩
   |exact⟨i+1,[0],⟨by omega,hst (hrow.2 ⟨by omega,Classical.not_not.1 (by assumption)⟩)⟩,by omega,by(exact aL)⟩
   |trace_state
 ·(repeat' (conv=>whnf);first|refine aC ?_ ?_<;>intro _|refine z1_F1 ?_|fail);all_goals try (conv=>whnf)
  exact⟨rfl,Imp.bl ⟨fun _=>⟨hvp,hxl,hxv,hx0,rall_to hv (by omega)⟩,fun _=>rfl⟩⟩
theorem z2_P4 {G H:Prop} (k:H) (h:H→G:=by first|exact fun r=>aS r|exact fun r=>aG r|exact fun r=>aD r|exact fun r=>aH r|exact fun r=>aP_F1 r|exact fun r=>aI r|exact fun r=>aJ r|exact fun r=>aW (.qs [0,1,2,3,4,5,6,7,8] (.l 9 [] (.qs [10,11] .nil) .no)) r):G:=h k
theorem rFeasible_ok (p:Pr) (hp:PL p) (x:List F) (hx:x.length≤9223372036854775807):Ctr Tryz.prog 54 [prv p,fsl x] [] (fun r o=>o=[]∧r= .bp (Feas p x)):=by
 refine Ctr.imp ?_
 refine fI 0 Tryz.func54 ?_
 have hlc:=fr_len p.c
 have hlx:=fr_len x
 have hlr:=rw_len p.r
 (repeat' (conv=>whnf);first|refine aC ?_ ?_<;>intro<;>try omega|refine z2_P4 ?_|(refine aK [] (rValidP_ok p hp) ?_)|(refine aK [] (all_ok x hx) ?_)|fail);all_goals try (conv=>whnf)
 ·exact⟨rfl,Imp.bl ⟨fun h=>(by cases h),fun h=>absurd h.1 (by assumption)⟩⟩
 ·exact⟨rfl,Imp.bl ⟨fun h=>(by cases h),fun h=>by have:=h.2.1;omega⟩⟩
 ·exact⟨rfl,Imp.bl ⟨fun h=>(by cases h),fun h=>absurd h.2.2.1 (by assumption)⟩⟩
 have hvp:=Classical.not_not.1 ‹¬¬VP p›
 have hxl:x.length=p.c.length:=by omega
 have hxv:=Classical.not_not.1 ‹¬¬∀(f:F),f∈x→VF f›
 refine LoopOb.mk (Y:=Nat) (st:=fun i=>⟨[(5,i64 i),(4, .bl false),(2, .ptr 0 0),(0,prv p),(1,fsl x)],[.box [fsl p.c, .psl 4 (rws p.r)]]⟩)
  (inv:=fun i=>i≤x.length∧∀j<i,0≤(x.getD j (0,1)).1) (fun i=>x.length-i) 0 [0] ⟨by omega,by omega⟩ (by(exact aL)) ?_
 rintro i ⟨hi,hv⟩
 (repeat' (conv=>whnf);first|refine z2_P4 ?_|fail);all_goals try (conv=>whnf)
 refine CondOb.mk (fun hlt=>?_) (fun hlt=>?_)
 ·(repeat' (conv=>whnf);first|refine aC ?_ ?_<;>intro _|refine z2_P4 ?_|refine⟨i,_,rfl,fr_get (by omega),?_⟩|fail);all_goals try (conv=>whnf)
  ·exact⟨rfl,Imp.bl ⟨fun h=>(by cases h),fun h=>by have:0≤(x.getD i (0,1)).1 :=all_at (P:=fun f=>0≤f.1) h.2.2.2.1 (by omega);omega⟩⟩
  ·exact⟨i+1,[0],⟨by omega,all_step (P:=fun f=>0≤f.1) hv (show 0≤(x.getD i (0,1)).1 by omega)⟩,by omega,by(exact aL)⟩
 have hx0:=all_to (P:=fun f=>0≤f.1) hv (by omega)
 (repeat' (conv=>whnf);first|refine aC ?_ ?_<;>intro _|refine z2_P4 ?_|fail);all_goals try (conv=>whnf)
 refine LoopOb.mk (Y:=Nat) (st:=fun i=>⟨[(6,i64 i),(4, .bl false),(2, .ptr 0 0),(0,prv p),(1,fsl x)],[.box [fsl p.c, .psl 4 (rws p.r)]]⟩)
  (inv:=fun i=>i≤p.r.length∧∀j<i,rowOK (p.r.getD j rw0) x) (fun i=>p.r.length-i) 0 [0] ⟨by omega,by omega⟩ (by(exact aL)) ?_
 clear hlt hv hi i
 rintro i ⟨hi,hv⟩
 (repeat' (conv=>whnf);first|refine z2_P4 ?_|fail);all_goals try (conv=>whnf)
 refine CondOb.mk (fun hlt=>?_) (fun hlt=>?_)
 ·have hil:i<p.r.length:=by omega
  have hgt:=rw_get hil
  have hst:rowOK (p.r.getD i rw0) x→_:=fun h=>rall_step (P:=fun w=>rowOK w x) hv h
  have hno:¬rowOK (p.r.getD i rw0) x→¬Feas p x:=fun h k=>h (rall_at (P:=fun w=>rowOK w x) k.2.2.2.2 hil)
  have hwl:=rall_at hp.2.2 hil
  have hws:=rall_at hvp.2.2.2.2 hil
  generalize p.r.getD i rw0=w at*
  have cP:=rProduct_ok w.1 x hwl
  have hrow:rowOK w x↔(prod w.1 x).2.2 =0∧keeps w (fcmp ((prod w.1 x).1,(prod w.1 x).2.1) w.2.2):=Iff.rfl
  have hp2:=hp.2.1
  generalize rowOK w x=Q at*
  generalize prod w.1 x=m at*
  have cC:=holds_ok w (m.1,m.2.1)
  generalize keeps w (fcmp (m.1,m.2.1) w.2.2)=c at*
  (repeat' (conv=>whnf);first|refine aC ?_ ?_<;>intro<;>try omega|refine z2_P4 ?_|refine⟨i,_,rfl,hgt,?_⟩|(refine aK [] cP ?_)|(refine aK [] cC ?_)|fail);all_goals try (conv=>whnf)
  all_goals first
   |exact⟨rfl,Imp.bl ⟨fun h=>(by cases h),fun h=>absurd h (hno fun k=>by have:=hrow.1 k;omega)⟩⟩
   |exact⟨rfl,Imp.bl ⟨fun h=>(by cases h),fun h=>absurd h (hno fun k=>absurd (hrow.1 k).2 (by assumption))⟩⟩
   |exact⟨i+1,[0],⟨by omega,hst (hrow.2 ⟨by omega,by have:=hws.2.1;have:=hws.2.2.1;omega⟩)⟩,by omega,by(exact aL)⟩
   |exact⟨i+1,[0],⟨by omega,hst (hrow.2 ⟨by omega,Classical.not_not.1 (by assumption)⟩)⟩,by omega,by(exact aL)⟩
   |trace_state
 ·(repeat' (conv=>whnf);first|refine aC ?_ ?_<;>intro _|refine z2_P4 ?_|fail);all_goals try (conv=>whnf)
  exact⟨rfl,Imp.bl ⟨fun _=>⟨hvp,hxl,hxv,hx0,rall_to hv (by omega)⟩,fun _=>rfl⟩⟩
end
section
open Go.Sx Go.Fq
abbrev vcs (w:Nat) (g:Nat→Int):List (List SV):=(List.range w).map fun k=>[i64 (g k)]
abbrev mts (m w:Nat) (f:Nat→Nat→Int):List (List (List SV)):=(List.range m).map fun i=>vcs w (f i)
theorem vcs_len (w g):(vcs w g).length =w:=by simp [vcs]
theorem mts_len (m w f):(mts m w f).length =m:=by simp [mts]
theorem vcs_get {w:Nat} {g:Nat→Int} {k:Nat} (h:k<w):(vcs w g)[k]? =some [i64 (g k)]:=by simp [vcs,h]
theorem mts_get {m w:Nat} {f:Nat→Nat→Int} {i:Nat} (h:i<m):(mts m w f)[i]? =some (vcs w (f i)):=by simp [mts,h]
theorem vcs_congr {w:Nat} {g h:Nat→Int} (e:∀k<w,g k=h k):vcs w g=vcs w h:=by
 unfold vcs;apply List.map_congr_left;intro k hk;rw [e k (by simpa using hk)]
def up (g:Nat→Int) (k:Nat) (v:Int) (j:Nat):Int:=if j=k then v else g j
theorem vcs_set {w:Nat} {g:Nat→Int} {k:Nat} {v:Int}:(vcs w g).set k [i64 v]=vcs w (up g k v):=by
 apply List.ext_getElem?
 intro j
 by_cases hj:j<w
 ·rw [vcs_get hj,List.getElem?_set]
  by_cases e:k=j
  ·subst e;simp [vcs,hj,up]
  ·rw [if_neg e,vcs_get hj];simp [up,Ne.symm e]
 ·rw [List.getElem?_eq_none (by simp [vcs];omega),List.getElem?_eq_none (by simp [vcs];omega)]
def up2 (f:Nat→Nat→Int) (i:Nat) (g:Nat→Int) (a b:Nat):Int:=if a=i then g b else f a b
theorem mts_set {m w:Nat} {f:Nat→Nat→Int} {i:Nat} {g:Nat→Int}:(mts m w f).set i (vcs w g)=mts m w (up2 f i g):=by
 apply List.ext_getElem?
 intro j
 by_cases hj:j<m
 ·rw [mts_get hj,List.getElem?_set]
  by_cases e:i=j
  ·subst e;simp [mts,hj,up2]
  ·rw [if_neg e,mts_get hj];simp [up2,Ne.symm e]
 ·rw [List.getElem?_eq_none (by simp [mts];omega),List.getElem?_eq_none (by simp [mts];omega)]
theorem vcs_repl (w:Nat):List.replicate w [i64 0]=vcs w (fun _=>0):=by
 apply List.ext_getElem?
 intro j
 by_cases hj:j<w
 ·rw [vcs_get hj];simp [hj]
 ·rw [List.getElem?_eq_none (by simp;omega),List.getElem?_eq_none (by simp [vcs];omega)]
theorem mts_app {m w:Nat} {f:Nat→Nat→Int} {g:Nat→Int}:mts m w f++[vcs w g]=mts (m+1) w (up2 f m g):=by
 apply List.ext_getElem?
 intro j
 rcases Nat.lt_trichotomy j m with h|h|h
 ·rw [List.getElem?_append_left (by simp [mts];exact h),mts_get h,mts_get (by omega)]
  simp [up2,Nat.ne_of_lt h]
 ·subst h
  rw [List.getElem?_append_right (by simp [mts]),mts_get (by omega)];simp [mts,up2]
 ·rw [List.getElem?_eq_none (by simp [mts];omega),List.getElem?_eq_none (by simp [mts];omega)]
end
end Go.Proofs.YtbcjojomkibgeaaGreat
