/- Lemmas of this seat. Conditions: as stated. -/
import Derived.Test.YtbcjojomkibgeaaGreatP7
set_option linter.unusedVariables false
set_option linter.unusedSimpArgs false
set_option maxHeartbeats 2000000
set_option maxRecDepth 4000
namespace Go.Proofs.YtbcjojomkibgeaaGreat
open Go.Sx Go.Fq
theorem eqR {a b:R} (h1:a.2.2=0) (h2:b.2.2=0):a=b↔(a.1=b.1∧a.2.1=b.2.1):=by
 obtain⟨x,y,z⟩:=a
 obtain⟨u,v,w⟩:=b
 simp only at h1 h2
 subst h1 h2
 simp
theorem conj2 {a b:Prop}:conj ([a]++([b]++[]))↔a∧b:=by simp [conj]
theorem Optimal_ok (p : Pr) (hp : PL p) (x y : List F) (hx : x.length ≤ 9223372036854775807) (hy : y.length ≤ 9223372036854775807) : Ctr Tryz.prog 63 [prv p, fsl x, fsl y] [] (fun r o => o = [] ∧ r = .bp (Opt p x y)) := by
  refine Ctr.imp ?_
  refine fI 0 Tryz.func63 ?_
  have cB := Bound_ok p hp y hy
  have cP := Product_ok p.c x hp.1
  have ho : Opt p x y ↔ Feas p x ∧ (bound p y).2.2 = 0 ∧ prod p.c x = bound p y := Iff.rfl
  generalize bound p y = b at *
  generalize prod p.c x = m at *
  (repeat' (conv => whnf); first | refine aC ?_ ?_ <;> intro _ | refine z1_F1 ?_ | (refine aK [] (Feasible_ok p hp x hx) ?_) | (refine aK [] cB ?_) | (refine aK [] cP ?_) | fail); all_goals try (conv => whnf)
  all_goals rw [ho]
  all_goals first
    | exact ⟨rfl, Imp.bl ⟨fun h => (by cases h), fun h => absurd h.1 (by assumption)⟩⟩
    | exact ⟨rfl, Imp.bl ⟨fun h => (by cases h), fun h => absurd h.2.1 (by assumption)⟩⟩
    | exact ⟨rfl, Imp.bl ⟨fun h => (by cases h), fun h => by have h1 := h.2.1; rw [← h.2.2] at h1; exact absurd h1 (by assumption)⟩⟩
    | (refine ⟨rfl, Imp.bp ?_⟩
       have hf := Classical.not_not.1 ‹¬¬Feas p x›
       have h1 : m.2.2 = 0 := by omega
       have h2 : b.2.2 = 0 := by omega
       rw [conj2, eqR h1 h2]
       constructor
       · intro h; exact ⟨hf, h2, by omega, by omega⟩
       · intro h; exact ⟨by omega, by omega⟩)
theorem rOptimal_ok (p : Pr) (hp : PL p) (x y : List F) (hx : x.length ≤ 9223372036854775807) (hy : y.length ≤ 9223372036854775807) : Ctr Tryz.prog 57 [prv p, fsl x, fsl y] [] (fun r o => o = [] ∧ r = .bp (Opt p x y)) := by
  refine Ctr.imp ?_
  refine fI 0 Tryz.func57 ?_
  have cB := rBound_ok p hp y hy
  have cP := rProduct_ok p.c x hp.1
  have ho : Opt p x y ↔ Feas p x ∧ (bound p y).2.2 = 0 ∧ prod p.c x = bound p y := Iff.rfl
  generalize bound p y = b at *
  generalize prod p.c x = m at *
  (repeat' (conv => whnf); first | refine aC ?_ ?_ <;> intro _ | refine z1_F1 ?_ | (refine aK [] (rFeasible_ok p hp x hx) ?_) | (refine aK [] cB ?_) | (refine aK [] cP ?_) | fail); all_goals try (conv => whnf)
  all_goals rw [ho]
  all_goals first
    | exact ⟨rfl, Imp.bl ⟨fun h => (by cases h), fun h => absurd h.1 (by assumption)⟩⟩
    | exact ⟨rfl, Imp.bl ⟨fun h => (by cases h), fun h => absurd h.2.1 (by assumption)⟩⟩
    | exact ⟨rfl, Imp.bl ⟨fun h => (by cases h), fun h => by have h1 := h.2.1; rw [← h.2.2] at h1; exact absurd h1 (by assumption)⟩⟩
    | (refine ⟨rfl, Imp.bp ?_⟩
       have hf := Classical.not_not.1 ‹¬¬Feas p x›
       have h1 : m.2.2 = 0 := by omega
       have h2 : b.2.2 = 0 := by omega
       rw [conj2, eqR h1 h2]
       constructor
       · intro h; exact ⟨hf, h2, by omega, by omega⟩
       · intro h; exact ⟨by omega, by omega⟩)
theorem repl_getD (n j:Nat):(List.replicate n ((0,1):F)).getD j (0,1)=(0,1):=by
 rw [List.getD_eq_getElem?_getD,List.getElem?_replicate];split<;>rfl
theorem Infeasible_ok (p:Pr) (hp:PL p) (y:List F) (hy:y.length≤9223372036854775807):Ctr Tryz.prog 67 [prv p,fsl y] [] (fun r o=>o=[]∧r= .bp (Inf p y)):=by
 refine Ctr.imp ?_
 refine fI 0 Tryz.func67 ?_
 have cP:=Product_ok (bds p) y (by rw [bds_len];exact hp.2.1)
 have ho:Inf p y↔Sgn p y∧Blw p y (fun _=>(0,1))∧(prod (bds p) y).2.2 =0∧0<(prod (bds p) y).1 :=Iff.rfl
 generalize prod (bds p) y=m at*
 (repeat' (conv=>whnf);first|refine aC ?_ ?_<;>intro _|refine z1_F1 ?_|fail);all_goals try (conv=>whnf)
 refine aM [] (below0_ok p hp y hy 108 (fun _=>(0,1)) (fun j hj=>InfC_ok j)) rfl rfl ?_
 rintro _ _ ⟨rfl,rfl⟩
 (repeat' (conv=>whnf);first|refine z1_F1 ?_|fail);all_goals try (conv=>whnf)
 refine CondOb.mk (fun hs=>?_) (fun hs=>?_)
 ·(repeat' (conv=>whnf);first|refine aC ?_ ?_<;>intro _|refine z1_F1 ?_|fail);all_goals try (conv=>whnf)
  rw [ho]
  exact⟨rfl,Imp.bl ⟨fun h=>(by cases h),fun h=>absurd ⟨h.1,h.2.1⟩ hs⟩⟩
 have hs:=Classical.not_not.1 hs
 have hvp:=hs.1.1
 (repeat' (conv=>whnf);first|refine aC ?_ ?_<;>intro _|refine z1_F1 ?_|(refine aK [] (bounds_ok p hvp) ?_)|(refine aK [] cP ?_)|fail);all_goals try (conv=>whnf)
 all_goals rw [ho]
 all_goals first
  |exact⟨rfl,Imp.bl ⟨fun h=>(by cases h),fun h=>absurd h.2.1 (by assumption)⟩⟩
  |exact⟨rfl,Imp.bl ⟨fun h=>(by cases h),fun h=>absurd h.2.2.1 (by assumption)⟩⟩
  |exact⟨rfl,Imp.bp ⟨fun h=>⟨hs.1,hs.2,by assumption,h⟩,fun h=>h.2.2.2⟩⟩
  |exact⟨rfl,Imp.bp ⟨fun h=>⟨hs,Classical.not_not.1 (by assumption),by assumption,h⟩,fun h=>h.2.2.2⟩⟩
theorem z2_P9 {G H:Prop} (k:H) (h:H→G:=by first|exact fun r=>aS r|exact fun r=>aG r|exact fun r=>aD r|exact fun r=>aH r|exact fun r=>aP_F1 r|exact fun r=>aI r|exact fun r=>aJ r|exact fun r=>aW (.qs [0,1] (.l 2 [] (.qs [3,4,5,6,7,8,9] (.l 10 [5] (.l 11 [] (.qs [12,13] .nil) .no) .no)) .no)) r):G:=h k
theorem rInfeasible_ok (p:Pr) (hp:PL p) (y:List F) (hy:y.length≤9223372036854775807):Ctr Tryz.prog 59 [prv p,fsl y] [] (fun r o=>o=[]∧r= .bp (Inf p y)):=by
 refine Ctr.imp ?_
 refine fI 0 Tryz.func59 ?_
 have cP:=rProduct_ok (bds p) y (by rw [bds_len];exact hp.2.1)
 have ho:Inf p y↔Sgn p y∧Blw p y (fun _=>(0,1))∧(prod (bds p) y).2.2 =0∧0<(prod (bds p) y).1 :=Iff.rfl
 generalize prod (bds p) y=m at*
 have hlc:=fr_len p.c
 (repeat' (conv=>whnf);first|refine z2_P9 ?_|(refine aK [] (rSigns_ok p hp y hy) ?_)|fail);all_goals try (conv=>whnf)
 refine CondOb.mk (fun hs=>?_) (fun hs=>?_)
 ·(repeat' (conv=>whnf);first|refine aC ?_ ?_<;>intro _|refine z2_P9 ?_|fail);all_goals try (conv=>whnf)
  rw [ho]
  exact⟨rfl,Imp.bl ⟨fun h=>(by cases h),fun h=>absurd h.1 hs⟩⟩
 have hs:=Classical.not_not.1 hs
 have hvp:=hs.1
 have cB:=rbelow_ok p hp hvp y (List.replicate p.c.length (0,1)) (by simp)
 have e:(fun j=>(List.replicate p.c.length ((0,1):F)).getD j (0,1))=fun _=>(0,1):=by funext j;exact repl_getD _ _
 rw [e]at cB
 have hc6:=hvp.2.1
 (repeat' (conv=>whnf);first|refine aC ?_ ?_<;>intro _|refine z2_P9 ?_|(refine CallOb.mk [] (zeros_ok p.c.length (by omega)) rfl ⟨Imp.num (by omega),trivial⟩ rfl rfl ?_;rintro _ _ ⟨rfl,rfl⟩)|(refine aK [] cB ?_)|(refine aK [] (rbounds_ok p hvp) ?_)|(refine aK [] cP ?_)|fail);all_goals try (conv=>whnf)
 all_goals rw [ho]
 all_goals first
  |exact⟨rfl,Imp.bl ⟨fun h=>(by cases h),fun h=>absurd h.2.1 (by assumption)⟩⟩
  |exact⟨rfl,Imp.bl ⟨fun h=>(by cases h),fun h=>absurd h.2.2.1 (by assumption)⟩⟩
  |exact⟨rfl,Imp.bp ⟨fun h=>⟨hs.1,hs.2,by assumption,h⟩,fun h=>h.2.2.2⟩⟩
  |exact⟨rfl,Imp.bp ⟨fun h=>⟨hs,Classical.not_not.1 (by assumption),by assumption,h⟩,fun h=>h.2.2.2⟩⟩
end Go.Proofs.YtbcjojomkibgeaaGreat
