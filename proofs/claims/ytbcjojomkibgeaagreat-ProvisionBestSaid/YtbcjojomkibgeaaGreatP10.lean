/- Lemmas of this seat. Conditions: as stated. -/
import Derived.Test.YtbcjojomkibgeaaGreatP9
set_option linter.unusedVariables false
set_option linter.unusedSimpArgs false
set_option maxHeartbeats 2000000
set_option maxRecDepth 4000
namespace Go.Proofs.YtbcjojomkibgeaaGreat
open Go.Sx Go.Fq
def hom (p:Pr):Pr:=⟨p.c,p.r.map fun w=>(w.1,w.2.1,(0,1))⟩
theorem hom_vp {p:Pr} (h:VP p):VP (hom p):=by
 obtain⟨h1,h2,h3,h4,h5⟩:=h
 refine⟨h1,h2,by simpa [hom]using h3,h4,?_⟩
 intro w hw
 obtain⟨v,hv,rfl⟩:=List.mem_map.1 hw
 obtain⟨k1,k2,k3,k4,k5⟩:=h5 v hv
 exact⟨k1,k2,k3,k4,vf_zero⟩
def RayAt (w:Rw) (ray:List F):Prop:=(prod w.1 ray).2.2 =0∧¬(w.2.1≠2∧0<(prod w.1 ray).1)∧¬(w.2.1≠1∧(prod w.1 ray).1 <0)
theorem ray_iff {n:Nat} {w:Rw} {ray:List F} (h:RwOK n w):rowOK (w.1,w.2.1,(0,1)) ray↔RayAt w ray:=by
 unfold rowOK RayAt keeps
 simp only
 constructor
 ·rintro⟨h1,h2⟩
  obtain⟨_,_,_,k,_⟩:=prod_ok' h1
  have c1:=fcmp_le k vf_zero
  have c2:=fcmp_ge k vf_zero
  rw [val_zero]at c1 c2
  have n1:=k.nonneg
  have n2:=k.pos
  simp only at n1 n2
  have e1:fcmp ((prod w.1 ray).1,(prod w.1 ray).2.1) (0,1)≤0↔¬0<(prod w.1 ray).1 :=by
   rw [c1,n2];constructor<;>intro h<;>grind
  have e2:0≤fcmp ((prod w.1 ray).1,(prod w.1 ray).2.1) (0,1)↔0≤(prod w.1 ray).1 :=by rw [c2,n1]
  exact⟨h1,by omega,by omega⟩
 ·rintro⟨h1,h2,h3⟩
  obtain⟨_,_,_,k,_⟩:=prod_ok' h1
  have c1:=fcmp_le k vf_zero
  have c2:=fcmp_ge k vf_zero
  rw [val_zero]at c1 c2
  have n1:=k.nonneg
  have n2:=k.pos
  simp only at n1 n2
  have e1:fcmp ((prod w.1 ray).1,(prod w.1 ray).2.1) (0,1)≤0↔¬0<(prod w.1 ray).1 :=by
   rw [c1,n2];constructor<;>intro h<;>grind
  have e2:0≤fcmp ((prod w.1 ray).1,(prod w.1 ray).2.1) (0,1)↔0≤(prod w.1 ray).1 :=by rw [c2,n1]
  have s1:=h.2.1
  have s2:=h.2.2.1
  exact⟨h1,by omega⟩
theorem unb_iff {p:Pr} {x ray:List F}:Unb p x ray↔Feas p x∧ray.length=p.c.length∧(∀f∈ray,VF f∧0≤f.1)∧(∀w∈p.r,RayAt w ray)∧(prod p.c ray).2.2 =0∧(prod p.c ray).1 <0:=by
 constructor
 ·rintro⟨h1,⟨k1,k2,k3,k4,k5⟩,h3,h4⟩
  refine⟨h1,k2,fun f hf=>⟨k3 f hf,k4 f hf⟩,fun w hw=>?_,h3,h4⟩
  exact(ray_iff (h1.1.2.2.2.2 w hw)).1 (k5 _ (List.mem_map.2 ⟨w,hw,rfl⟩))
 ·rintro⟨h1,h2,h3,h4,h5,h6⟩
  refine⟨h1,⟨hom_vp h1.1,h2,fun f hf=>(h3 f hf).1,fun f hf=>(h3 f hf).2,fun w hw=>?_⟩,h5,h6⟩
  obtain⟨v,hv,rfl⟩:=List.mem_map.1 hw
  exact(ray_iff (h1.1.2.2.2.2 v hv)).2 (h4 v hv)
def homs (p:Pr) (i:Nat):List Rw:=(p.r.take i).map fun w=>(w.1,w.2.1,(0,1))
theorem homs_succ {p:Pr} {i:Nat} (h:i<p.r.length):homs p (i+1)=homs p i++[((p.r.getD i rw0).1,(p.r.getD i rw0).2.1,(0,1))]:=by
 unfold homs
 rw [List.take_succ_eq_append_getElem h,List.map_append]
 simp only [List.map_cons,List.map_nil,List.getD_eq_getElem?_getD,h,List.getElem?_eq_getElem,Option.getD_some]
theorem homs_len {p:Pr} {i:Nat} (h:i≤p.r.length):(homs p i).length =i:=by simp [homs];omega
theorem homs_all {p:Pr} {i:Nat} (h:p.r.length≤i):homs p i=(hom p).r :=by unfold homs hom;rw [List.take_of_length_le h]
theorem rws_append (a b:List Rw):rws (a++b)=rws a++rws b:=by simp [rws]
theorem Unbounded_ok (p:Pr) (hp:PL p) (x ray:List F) (hx:x.length≤9223372036854775807) (hr:ray.length≤9223372036854775807):Ctr Tryz.prog 65 [prv p,fsl x,fsl ray] [] (fun r o=>o=[]∧r= .bp (Unb p x ray)):=by
 refine Ctr.imp ?_
 refine fI 0 Tryz.func65 ?_
 have hlc:=fr_len p.c
 have hlx:=fr_len ray
 have hlr:=rw_len p.r
 (repeat' (conv=>whnf);first|refine aC ?_ ?_<;>intro<;>try omega|refine z1_F1 ?_|(refine aK [] (Feasible_ok p hp x hx) ?_)|fail);all_goals try (conv=>whnf)
 ·exact⟨rfl,Imp.bl ⟨fun h=>(by cases h),fun h=>absurd h.1 (by assumption)⟩⟩
 ·exact⟨rfl,Imp.bl ⟨fun h=>(by cases h),fun h=>by have:=(unb_iff.1 h).2.1;omega⟩⟩
 have hf:=Classical.not_not.1 ‹¬¬Feas p x›
 have hvp:=hf.1
 have hrl:ray.length=p.c.length:=by omega
 have hc6:=hvp.2.1
 have hr24:=hvp.2.2.1
 refine LoopOb.mk (Y:=Nat) (st:=fun i=>⟨[(29,i64 i),(28,i64 (fr2 ray).length),(27,fsl ray),(6, .bl false),(3, .ptr 0 0),(0,prv p),(1,fsl x),(2,fsl ray)],[.box [fsl p.c, .psl 4 (rws p.r)]]⟩)
  (inv:=fun i=>i≤ray.length∧∀j<i,VF (ray.getD j (0,1))∧0≤(ray.getD j (0,1)).1) (fun i=>ray.length-i) 0 [0] ⟨by omega,by omega⟩ (by(exact aL)) ?_
 rintro i ⟨hi,hv⟩
 (repeat' (conv=>whnf);first|refine z1_F1 ?_|fail);all_goals try (conv=>whnf)
 refine CondOb.mk (fun hlt=>?_) (fun hlt=>?_)
 ·have hgt:=fr_get (l:=ray) (i:=i) (by omega)
  have hst:VF (ray.getD i (0,1))∧0≤(ray.getD i (0,1)).1 →_:=fun h=>lt_step hv h
  have hno:¬(VF (ray.getD i (0,1))∧0≤(ray.getD i (0,1)).1)→¬Unb p x ray:=fun h k=>h (all_at (P:=fun f=>VF f∧0≤f.1) (unb_iff.1 k).2.2.1 (by omega))
  generalize ray.getD i (0,1)=f at*
  (repeat' (conv=>whnf);first|refine aC ?_ ?_<;>intro<;>try omega|refine z1_F1 ?_|refine⟨i,_,rfl,hgt,?_⟩|(refine aK [] (fValid_ok f.1 f.2) ?_)|fail);all_goals try (conv=>whnf)
  all_goals first
   |exact⟨rfl,Imp.bl ⟨fun h=>(by cases h),fun h=>absurd h (hno (fun k=>absurd k.1 (by assumption)))⟩⟩
   |exact⟨rfl,Imp.bl ⟨fun h=>(by cases h),fun h=>absurd h (hno (fun k=>by have:=k.2;omega))⟩⟩
   |exact⟨i+1,[0],⟨by omega,hst ⟨Classical.not_not.1 (by assumption),by omega⟩⟩,by omega,by(exact aL)⟩
   |trace_state
 have hra:=all_to (P:=fun f=>VF f∧0≤f.1) hv (by omega)
 clear hlt hv hi
 (repeat' (conv=>whnf);first|refine aC ?_ ?_<;>intro _|refine z1_F1 ?_|fail);all_goals try (conv=>whnf)
 refine LoopOb.mk (Y:=Nat) (st:=fun i=>⟨[(45,i64 i),(44,i64 (rws p.r).length),(43, .psl 4 (rws p.r)),(6, .bl false),(3, .ptr 0 0),(0,prv p),(1,fsl x),(2,fsl ray)],[.box [fsl p.c, .psl 4 (rws p.r)]]⟩)
  (inv:=fun i=>i≤p.r.length∧∀j<i,RayAt (p.r.getD j rw0) ray) (fun i=>p.r.length-i) 0 [0] ⟨by omega,by omega⟩ (by(exact aL)) ?_
 rintro k ⟨hi,hv⟩
 (repeat' (conv=>whnf);first|refine z1_F1 ?_|fail);all_goals try (conv=>whnf)
 refine CondOb.mk (fun hlt=>?_) (fun hlt=>?_)
 ·have hil:k<p.r.length:=by omega
  have hgt:=rw_get hil
  have hst:RayAt (p.r.getD k rw0) ray→_:=fun h=>rall_step (P:=fun w=>RayAt w ray) hv h
  have hno:¬RayAt (p.r.getD k rw0) ray→¬Unb p x ray:=fun h u=>h (rall_at (P:=fun w=>RayAt w ray) (unb_iff.1 u).2.2.2.1 hil)
  have hwl:=rall_at hp.2.2 hil
  have hws:=rall_at hvp.2.2.2.2 hil
  generalize p.r.getD k rw0=w at*
  have hrow:RayAt w ray↔(prod w.1 ray).2.2 =0∧¬(w.2.1≠2∧0<(prod w.1 ray).1)∧¬(w.2.1≠1∧(prod w.1 ray).1 <0):=Iff.rfl
  have cP:=Product_ok w.1 ray hwl
  generalize RayAt w ray=Q at*
  generalize prod w.1 ray=m at*
  (repeat' (conv=>whnf);first|refine aC ?_ ?_<;>intro<;>try omega|refine z1_F1 ?_|refine⟨k,_,rfl,hgt,?_⟩|(refine aK [] cP ?_)|fail);all_goals try (conv=>whnf)
  all_goals first
   |exact⟨rfl,Imp.bl ⟨fun h=>(by cases h),fun h=>absurd h (hno fun k=>by have:=hrow.1 k;omega)⟩⟩
   |exact⟨k+1,[0],⟨by omega,hst (hrow.2 ⟨by omega,by omega,by omega⟩)⟩,by omega,by(exact aL)⟩
   |trace_state
 have hro:=rall_to (P:=fun w=>RayAt w ray) hv (by omega)
 clear hlt hv hi
 have cP:=Product_ok p.c ray hp.1
 have hu:=unb_iff (p:=p) (x:=x) (ray:=ray)
 generalize prod p.c ray=m at*
 (repeat' (conv=>whnf);first|refine aC ?_ ?_<;>intro _|refine z1_F1 ?_|(refine aK [] cP ?_)|fail);all_goals try (conv=>whnf)
 ·exact⟨rfl,Imp.bp ⟨fun h=>hu.2 ⟨hf,hrl,hra,hro,by assumption,h⟩,fun h=>(hu.1 h).2.2.2.2.2⟩⟩
 ·exact⟨rfl,Imp.bl ⟨fun h=>(by cases h),fun h=>absurd (hu.1 h).2.2.2.2.1 (by assumption)⟩⟩
theorem rUnbounded_ok (p:Pr) (hp:PL p) (x ray:List F) (hx:x.length≤9223372036854775807) (hr:ray.length≤9223372036854775807):Ctr Tryz.prog 58 [prv p,fsl x,fsl ray] [] (fun r o=>o=[]∧r= .bp (Unb p x ray)):=by
 refine Ctr.imp ?_
 refine fI 0 Tryz.func58 ?_
 have hlc:=fr_len p.c
 have hlx:=fr_len ray
 have hlr:=rw_len p.r
 (repeat' (conv=>whnf);first|refine aC ?_ ?_<;>intro<;>try omega|refine z2_P5 ?_|fail);all_goals try (conv=>whnf)
 refine .mk [] ?_
 (repeat' (conv=>whnf);first|refine aC ?_ ?_<;>intro<;>try omega|refine z2_P5 ?_|(refine aK [] (rFeasible_ok p hp x hx) ?_)|fail);all_goals try (conv=>whnf)
 ·refine .mk [] ?_
  (repeat' (conv=>whnf);first|refine aC ?_ ?_<;>intro _|refine z1_F1 ?_|fail);all_goals try (conv=>whnf)
  exact⟨rfl,Imp.bl ⟨fun h=>(by cases h),fun h=>absurd h.1 (by assumption)⟩⟩
 have hf:=Classical.not_not.1 ‹¬¬Feas p x›
 have hvp:=hf.1
 have hc6:=hvp.2.1
 have hr24:=hvp.2.2.1
 refine .mk [.nb 1 1 4] ?_
 refine LoopOb.mk (Y:=Nat) (st:=fun i=>⟨[(8,i64 i),(7, .ptr 1 0),(6, .bl false),(3, .ptr 0 0),(0,prv p),(1,fsl x),(2,fsl ray)],[.box [fsl p.c, .psl 4 (rws p.r)], .box [fsl p.c, .vec 2], .vec 4 (rws (homs p i))]⟩)
  (inv:=fun i=>i≤p.r.length) (fun i=>p.r.length-i) 0 [0,1,2] (by omega) (by(exact aL)) ?_
 intro k hi
 (repeat' (conv=>whnf);first|refine z1_F1 ?_|fail);all_goals try (conv=>whnf)
 refine CondOb.mk (fun hlt=>?_) (fun hlt=>?_)
 ·have hil:k<p.r.length:=by omega
  have hgt:=rw_get hil
  have hh:=homs_succ hil
  have hhl:=homs_len (p:=p) hi
  have hhr:=rw_len (homs p k)
  generalize p.r.getD k rw0=w at*
  generalize homs p k=l at*
  (repeat' (conv=>whnf);first|refine aC ?_ ?_<;>intro _|refine z1_F1 ?_|refine⟨k,_,rfl,hgt,?_⟩|fail);all_goals try (conv=>whnf)
  exact⟨k+1,[0,1,5],by omega,by omega,by rw [hh,rws_append];(exact aL)⟩
 ·rw [homs_all (show p.r.length≤k by omega)]
  have hph:PL (hom p):=VP.pl (hom_vp hvp)
  have cP:=rProduct_ok p.c ray hp.1
  have hu:Unb p x ray↔Feas p x∧Feas (hom p) ray∧(prod p.c ray).2.2 =0∧(prod p.c ray).1 <0:=Iff.rfl
  generalize prod p.c ray=m at*
  (repeat' (conv=>whnf);first|refine aC ?_ ?_<;>intro _|refine z2_P5 ?_|fail);all_goals try (conv=>whnf)
  refine .mk [.fz 2] ?_
  (repeat' (conv=>whnf);first|refine aC ?_ ?_<;>intro _|refine z1_F1 ?_|(refine aK [] (rFeasible_ok (hom p) hph ray hr) ?_)|(refine aK [] cP ?_)|fail);all_goals try (conv=>whnf)
  ·exact⟨rfl,Imp.bl ⟨fun h=>(by cases h),fun h=>absurd (hu.1 h).2.1 (by assumption)⟩⟩
  ·exact⟨rfl,Imp.bp ⟨fun h=>hu.2 ⟨hf,Classical.not_not.1 (by assumption),by assumption,h⟩,fun h=>(hu.1 h).2.2.2⟩⟩
  ·exact⟨rfl,Imp.bl ⟨fun h=>(by cases h),fun h=>absurd (hu.1 h).2.2.1 (by assumption)⟩⟩
end Go.Proofs.YtbcjojomkibgeaaGreat
