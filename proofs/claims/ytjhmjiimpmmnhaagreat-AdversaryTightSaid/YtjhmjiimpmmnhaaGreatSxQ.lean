/- Lemmas of this seat. Conditions: as stated. -/
import Derived.Test.YtjhmjiimpmmnhaaGreatSxW
set_option linter.unusedVariables false
set_option linter.unusedSimpArgs false
namespace Go.Sx
theorem vec_frz {w:World} {σ:PH} {β:List HB} {esz:Nat} {rows:List (List SV)} (hH:HeapOK w σ β [.vec esz rows]):
  ∃σf:PH,(∀b cs,σf b=some cs→Blk w b cs)∧PH.le σ σf∧∀x,β[0]? =some x→rel σf [] (.psl esz rows) x.slice:=by
 obtain⟨x,hx⟩:∃x,β[0]? =some x:=⟨_,List.getElem?_eq_getElem (by rw [hH.len];simp)⟩
 have hc:([Chunk.vec esz rows]:List Chunk)[0]? =some (.vec esz rows):=rfl
 obtain⟨h1,h2,h3,h4⟩:=hH.ok _ _ _ hc hx
 rcases h4 with⟨hbn,rfl,hcap⟩|⟨b,vss,rest,hb,hσ,hO,hr,hcap,hl⟩
 ·refine⟨σ,hH.ph,PH.le.refl _,fun y hy=>?_⟩
  rw [hx]at hy;cases hy
  simp only [rel]
  exact⟨adr x.blk x.z,x.cap,[],by simp [HB.slice,h2],by simp,by simp [relLL],by simp,by simp⟩
 ·have hle:PH.le σ (fun k=>if k=b then some (vss.flatten++rest)else σ k):=by
   intro k c hk
   have:k≠b:=by rintro rfl;rw [hσ]at hk;cases hk
   simp only [if_neg this];exact hk
  refine⟨_,fun k cs hk=>?_,hle,fun y hy=>?_⟩
  ·by_cases e:k=b
   ·subst e;simp only [if_true,Option.some.injEq]at hk;subst hk;exact hO.blk
   ·simp only [if_neg e]at hk;exact hH.ph k cs hk
  ·rw [hx]at hy;cases hy
   simp only [rel]
   exact⟨some ⟨b,0,none⟩,x.cap,vss,by simp [HB.slice,adr,hb,h2],hcap,relLL.mono hle _ _ hr,h3, .inr ⟨b,0,rfl,fun v hv=>hO.1 v (by simp [List.mem_append,hv]),[],rest,by simp,rfl⟩⟩
theorem Ctr.borrowV {P:Program} {f:Nat} {args:List SV} {esz:Nat} {rows:List (List SV)} {post:SV→List Chunk→Prop} (hc:Ctr P f (bwL (.psl esz rows) args) [] post)
  (hcl:closedL (bwL (.psl esz rows) args)=true) (hf:∀r o,post r o→flatR r=true∧∀c∈o,flatC c):
  Ctr P f args [.vec esz rows] (fun r o=>∃r1 o1,post r1 o1∧r=shR 1 r1∧o= .vec esz rows::o1):=
 hc.borrow (fun w σ β vs hH hr=>by
  obtain⟨σf,h1,h2,h3⟩:=vec_frz hH
  exact⟨σf,h1,bwL_ok h2 h3 args vs hcl hr⟩) hf
end Go.Sx
