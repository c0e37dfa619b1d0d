/- Lemmas of this seat. Conditions: as stated. -/
import Derived.Test.YtbcjojomkibgeaaGreatP7
set_option linter.unusedVariables false
set_option linter.unusedSimpArgs false
set_option maxHeartbeats 2000000
set_option maxRecDepth 4000
namespace Go.Proofs.YtbcjojomkibgeaaGreat
section
open Go.Sx Go.Fq
theorem eqR {a b:R} (h1:a.2.2=0) (h2:b.2.2=0):a=b↔(a.1=b.1∧a.2.1=b.2.1):=by
 obtain⟨x,y,z⟩:=a
 obtain⟨u,v,w⟩:=b
 simp only at h1 h2
 subst h1 h2
 simp
theorem conj2 {a b:Prop}:conj ([a]++([b]++[]))↔a∧b:=by simp [conj]
theorem Optimal_ok (p : Pr) (hp : PL p) (x y : List F) (hx : x.length ≤ 9223372036854775807) (hy : y.length ≤ 9223372036854775807) : Ctr Tryz.prog 63 [prv p, fsl x, fsl y] [] (fun r o => o = [] ∧ r = .bp (Opt p x y)) := by
  refine Ctr.imp ?_
  refine fI 0 Tryz.func63 ?_
  have cB := Bound_ok p hp y hy
  have cP := Product_ok p.c x hp.1
  have ho : Opt p x y ↔ Feas p x ∧ (bound p y).2.2 = 0 ∧ prod p.c x = bound p y := Iff.rfl
  generalize bound p y = b at *
  generalize prod p.c x = m at *
  (repeat' (conv => whnf); first | refine aC ?_ ?_ <;> intro _ | refine z1_F1 ?_ | (refine aK [] (Feasible_ok p hp x hx) ?_) | (refine aK [] cB ?_) | (refine aK [] cP ?_) | fail); all_goals try (conv => whnf)
  all_goals rw [ho]
  all_goals first
    | exact ⟨rfl, Imp.bl ⟨fun h => (by cases h), fun h => absurd h.1 (by assumption)⟩⟩
    | exact ⟨rfl, Imp.bl ⟨fun h => (by cases h), fun h => absurd h.2.1 (by assumption)⟩⟩
    | exact ⟨rfl, Imp.bl ⟨fun h => (by cases h), fun h => by have h1 := h.2.1; rw [← h.2.2] at h1; exact absurd h1 (by assumption)⟩⟩
    | (refine ⟨rfl, Imp.bp ?_⟩
       have hf := Classical.not_not.1 ‹¬¬Feas p x›
       have h1 : m.2.2 = 0 := by omega
       have h2 : b.2.2 = 0 := by omega
       rw [conj2, eqR h1 h2]
       constructor
       · intro h; exact ⟨hf, h2, by omega, by omega⟩
       · intro h; exact ⟨by omega, by omega⟩)
theorem Infeasible_ok (p:Pr) (hp:PL p) (y:List F) (hy:y.length≤9223372036854775807):Ctr Tryz.prog 67 [prv p,fsl y] [] (fun r o=>o=[]∧r= .bp (Inf p y)):=by
 refine Ctr.imp ?_
 refine fI 0 Tryz.func67 ?_
 have cP:=Product_ok (bds p) y (by rw [bds_len];exact hp.2.1)
 have ho:Inf p y↔Sgn p y∧Blw p y (fun _=>(0,1))∧(prod (bds p) y).2.2 =0∧0<(prod (bds p) y).1 :=Iff.rfl
 generalize prod (bds p) y=m at*
 (repeat' (conv=>whnf);first|refine aC ?_ ?_<;>intro _|refine z1_F1 ?_|fail);all_goals try (conv=>whnf)
 refine aM [] (below0_ok p hp y hy 108 (fun _=>(0,1)) (fun j hj=>InfC_ok j)) rfl rfl ?_
 rintro _ _ ⟨rfl,rfl⟩
 (repeat' (conv=>whnf);first|refine z1_F1 ?_|fail);all_goals try (conv=>whnf)
 refine CondOb.mk (fun hs=>?_) (fun hs=>?_)
 ·(repeat' (conv=>whnf);first|refine aC ?_ ?_<;>intro _|refine z1_F1 ?_|fail);all_goals try (conv=>whnf)
  rw [ho]
  exact⟨rfl,Imp.bl ⟨fun h=>(by cases h),fun h=>absurd ⟨h.1,h.2.1⟩ hs⟩⟩
 have hs:=Classical.not_not.1 hs
 have hvp:=hs.1.1
 (repeat' (conv=>whnf);first|refine aC ?_ ?_<;>intro _|refine z1_F1 ?_|(refine aK [] (bounds_ok p hvp) ?_)|(refine aK [] cP ?_)|fail);all_goals try (conv=>whnf)
 all_goals rw [ho]
 all_goals first
  |exact⟨rfl,Imp.bl ⟨fun h=>(by cases h),fun h=>absurd h.2.1 (by assumption)⟩⟩
  |exact⟨rfl,Imp.bl ⟨fun h=>(by cases h),fun h=>absurd h.2.2.1 (by assumption)⟩⟩
  |exact⟨rfl,Imp.bp ⟨fun h=>⟨hs.1,hs.2,by assumption,h⟩,fun h=>h.2.2.2⟩⟩
  |exact⟨rfl,Imp.bp ⟨fun h=>⟨hs,Classical.not_not.1 (by assumption),by assumption,h⟩,fun h=>h.2.2.2⟩⟩
end
section
open Go.Sx Go.Fq
def hom (p:Pr):Pr:=⟨p.c,p.r.map fun w=>(w.1,w.2.1,(0,1))⟩
theorem hom_vp {p:Pr} (h:VP p):VP (hom p):=by
 obtain⟨h1,h2,h3,h4,h5⟩:=h
 refine⟨h1,h2,by simpa [hom]using h3,h4,?_⟩
 intro w hw
 obtain⟨v,hv,rfl⟩:=List.mem_map.1 hw
 obtain⟨k1,k2,k3,k4,k5⟩:=h5 v hv
 exact⟨k1,k2,k3,k4,vf_zero⟩
def RayAt (w:Rw) (ray:List F):Prop:=(prod w.1 ray).2.2 =0∧¬(w.2.1≠2∧0<(prod w.1 ray).1)∧¬(w.2.1≠1∧(prod w.1 ray).1 <0)
theorem ray_iff {n:Nat} {w:Rw} {ray:List F} (h:RwOK n w):rowOK (w.1,w.2.1,(0,1)) ray↔RayAt w ray:=by
 unfold rowOK RayAt keeps
 simp only
 constructor
 ·rintro⟨h1,h2⟩
  obtain⟨_,_,_,k,_⟩:=prod_ok' h1
  have c1:=fcmp_le k vf_zero
  have c2:=fcmp_ge k vf_zero
  rw [val_zero]at c1 c2
  have n1:=k.nonneg
  have n2:=k.pos
  simp only at n1 n2
  have e1:fcmp ((prod w.1 ray).1,(prod w.1 ray).2.1) (0,1)≤0↔¬0<(prod w.1 ray).1 :=by
   rw [c1,n2];constructor<;>intro h<;>grind
  have e2:0≤fcmp ((prod w.1 ray).1,(prod w.1 ray).2.1) (0,1)↔0≤(prod w.1 ray).1 :=by rw [c2,n1]
  exact⟨h1,by omega,by omega⟩
 ·rintro⟨h1,h2,h3⟩
  obtain⟨_,_,_,k,_⟩:=prod_ok' h1
  have c1:=fcmp_le k vf_zero
  have c2:=fcmp_ge k vf_zero
  rw [val_zero]at c1 c2
  have n1:=k.nonneg
  have n2:=k.pos
  simp only at n1 n2
  have e1:fcmp ((prod w.1 ray).1,(prod w.1 ray).2.1) (0,1)≤0↔¬0<(prod w.1 ray).1 :=by
   rw [c1,n2];constructor<;>intro h<;>grind
  have e2:0≤fcmp ((prod w.1 ray).1,(prod w.1 ray).2.1) (0,1)↔0≤(prod w.1 ray).1 :=by rw [c2,n1]
  have s1:=h.2.1
  have s2:=h.2.2.1
  exact⟨h1,by omega⟩
theorem unb_iff {p:Pr} {x ray:List F}:Unb p x ray↔Feas p x∧ray.length=p.c.length∧(∀f∈ray,VF f∧0≤f.1)∧(∀w∈p.r,RayAt w ray)∧(prod p.c ray).2.2 =0∧(prod p.c ray).1 <0:=by
 constructor
 ·rintro⟨h1,⟨k1,k2,k3,k4,k5⟩,h3,h4⟩
  refine⟨h1,k2,fun f hf=>⟨k3 f hf,k4 f hf⟩,fun w hw=>?_,h3,h4⟩
  exact(ray_iff (h1.1.2.2.2.2 w hw)).1 (k5 _ (List.mem_map.2 ⟨w,hw,rfl⟩))
 ·rintro⟨h1,h2,h3,h4,h5,h6⟩
  refine⟨h1,⟨hom_vp h1.1,h2,fun f hf=>(h3 f hf).1,fun f hf=>(h3 f hf).2,fun w hw=>?_⟩,h5,h6⟩
  obtain⟨v,hv,rfl⟩:=List.mem_map.1 hw
  exact(ray_iff (h1.1.2.2.2.2 v hv)).2 (h4 v hv)
theorem rws_append (a b:List Rw):rws (a++b)=rws a++rws b:=by simp [rws]
theorem Unbounded_ok (p:Pr) (hp:PL p) (x ray:List F) (hx:x.length≤9223372036854775807) (hr:ray.length≤9223372036854775807):Ctr Tryz.prog 65 [prv p,fsl x,fsl ray] [] (fun r o=>o=[]∧r= .bp (Unb p x ray)):=by
 refine Ctr.imp ?_
 refine fI 0 Tryz.func65 ?_
 have hlc:=fr_len p.c
 have hlx:=fr_len ray
 have hlr:=rw_len p.r
 (repeat' (conv=>whnf);first|refine aC ?_ ?_<;>intro<;>try omega|refine z1_F1 ?_|(refine aK [] (Feasible_ok p hp x hx) ?_)|fail);all_goals try (conv=>whnf)
 ·exact⟨rfl,Imp.bl ⟨fun h=>(by cases h),fun h=>absurd h.1 (by assumption)⟩⟩
 ·exact⟨rfl,Imp.bl ⟨fun h=>(by cases h),fun h=>by have:=(unb_iff.1 h).2.1;omega⟩⟩
 have hf:=Classical.not_not.1 ‹¬¬Feas p x›
 have hvp:=hf.1
 have hrl:ray.length=p.c.length:=by omega
 have hc6:=hvp.2.1
 have hr24:=hvp.2.2.1
 refine LoopOb.mk (Y:=Nat) (st:=fun i=>⟨[(29,i64 i),(28,i64 (fr2 ray).length),(27,fsl ray),(6, .bl false),(3, .ptr 0 0),(0,prv p),(1,fsl x),(2,fsl ray)],[.box [fsl p.c, .psl 4 (rws p.r)]]⟩)
  (inv:=fun i=>i≤ray.length∧∀j<i,VF (ray.getD j (0,1))∧0≤(ray.getD j (0,1)).1) (fun i=>ray.length-i) 0 [0] ⟨by omega,by omega⟩ (by(exact aL)) ?_
 rintro i ⟨hi,hv⟩
 (repeat' (conv=>whnf);first|refine z1_F1 ?_|fail);all_goals try (conv=>whnf)
 refine CondOb.mk (fun hlt=>?_) (fun hlt=>?_)
 ·have hgt:=fr_get (l:=ray) (i:=i) (by omega)
  have hst:VF (ray.getD i (0,1))∧0≤(ray.getD i (0,1)).1 →_:=fun h=>lt_step hv h
  have hno:¬(VF (ray.getD i (0,1))∧0≤(ray.getD i (0,1)).1)→¬Unb p x ray:=fun h k=>h (all_at (P:=fun f=>VF f∧0≤f.1) (unb_iff.1 k).2.2.1 (by omega))
  generalize ray.getD i (0,1)=f at*
  (repeat' (conv=>whnf);first|refine aC ?_ ?_<;>intro<;>try omega|refine z1_F1 ?_|refine⟨i,_,rfl,hgt,?_⟩|(refine aK [] (fValid_ok f.1 f.2) ?_)|fail);all_goals try (conv=>whnf)
  all_goals first
   |exact⟨rfl,Imp.bl ⟨fun h=>(by cases h),fun h=>absurd h (hno (fun k=>absurd k.1 (by assumption)))⟩⟩
   |exact⟨rfl,Imp.bl ⟨fun h=>(by cases h),fun h=>absurd h (hno (fun k=>by have:=k.2;omega))⟩⟩
   |exact⟨i+1,[0],⟨by omega,hst ⟨Classical.not_not.1 (by assumption),by omega⟩⟩,by omega,by(exact aL)⟩
   |trace_state
 have hra:=all_to (P:=fun f=>VF f∧0≤f.1) hv (by omega)
 clear hlt hv hi
 (repeat' (conv=>whnf);first|refine aC ?_ ?_<;>intro _|refine z1_F1 ?_|fail);all_goals try (conv=>whnf)
 refine LoopOb.mk (Y:=Nat) (st:=fun i=>⟨[(45,i64 i),(44,i64 (rws p.r).length),(43, .psl 4 (rws p.r)),(6, .bl false),(3, .ptr 0 0),(0,prv p),(1,fsl x),(2,fsl ray)],[.box [fsl p.c, .psl 4 (rws p.r)]]⟩)
  (inv:=fun i=>i≤p.r.length∧∀j<i,RayAt (p.r.getD j rw0) ray) (fun i=>p.r.length-i) 0 [0] ⟨by omega,by omega⟩ (by(exact aL)) ?_
 rintro k ⟨hi,hv⟩
 (repeat' (conv=>whnf);first|refine z1_F1 ?_|fail);all_goals try (conv=>whnf)
 refine CondOb.mk (fun hlt=>?_) (fun hlt=>?_)
 ·have hil:k<p.r.length:=by omega
  have hgt:=rw_get hil
  have hst:RayAt (p.r.getD k rw0) ray→_:=fun h=>rall_step (P:=fun w=>RayAt w ray) hv h
  have hno:¬RayAt (p.r.getD k rw0) ray→¬Unb p x ray:=fun h u=>h (rall_at (P:=fun w=>RayAt w ray) (unb_iff.1 u).2.2.2.1 hil)
  have hwl:=rall_at hp.2.2 hil
  have hws:=rall_at hvp.2.2.2.2 hil
  generalize p.r.getD k rw0=w at*
  have hrow:RayAt w ray↔(prod w.1 ray).2.2 =0∧¬(w.2.1≠2∧0<(prod w.1 ray).1)∧¬(w.2.1≠1∧(prod w.1 ray).1 <0):=Iff.rfl
  have cP:=Product_ok w.1 ray hwl
  generalize RayAt w ray=Q at*
  generalize prod w.1 ray=m at*
  (repeat' (conv=>whnf);first|refine aC ?_ ?_<;>intro<;>try omega|refine z1_F1 ?_|refine⟨k,_,rfl,hgt,?_⟩|(refine aK [] cP ?_)|fail);all_goals try (conv=>whnf)
  all_goals first
   |exact⟨rfl,Imp.bl ⟨fun h=>(by cases h),fun h=>absurd h (hno fun k=>by have:=hrow.1 k;omega)⟩⟩
   |exact⟨k+1,[0],⟨by omega,hst (hrow.2 ⟨by omega,by omega,by omega⟩)⟩,by omega,by(exact aL)⟩
   |trace_state
 have hro:=rall_to (P:=fun w=>RayAt w ray) hv (by omega)
 clear hlt hv hi
 have cP:=Product_ok p.c ray hp.1
 have hu:=unb_iff (p:=p) (x:=x) (ray:=ray)
 generalize prod p.c ray=m at*
 (repeat' (conv=>whnf);first|refine aC ?_ ?_<;>intro _|refine z1_F1 ?_|(refine aK [] cP ?_)|fail);all_goals try (conv=>whnf)
 ·exact⟨rfl,Imp.bp ⟨fun h=>hu.2 ⟨hf,hrl,hra,hro,by assumption,h⟩,fun h=>(hu.1 h).2.2.2.2.2⟩⟩
 ·exact⟨rfl,Imp.bl ⟨fun h=>(by cases h),fun h=>absurd (hu.1 h).2.2.2.2.1 (by assumption)⟩⟩
end
end Go.Proofs.YtbcjojomkibgeaaGreat
