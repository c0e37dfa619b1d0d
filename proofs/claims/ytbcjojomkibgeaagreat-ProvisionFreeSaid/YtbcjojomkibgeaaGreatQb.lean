/- Lemmas of this seat. Conditions: as stated. -/
import Derived.Test.YtbcjojomkibgeaaGreatQa
set_option linter.unusedVariables false
set_option linter.unusedSimpArgs false
set_option maxHeartbeats 2000000
set_option maxRecDepth 4000
namespace Go.Proofs.YtbcjojomkibgeaaGreat
open Go.Sx Go.Fq Go.Dt
theorem z2_Qb {G H:Prop} (k:H) (h:H→G:=by first|exact fun r=>aS r|exact fun r=>aG r|exact fun r=>aD r|exact fun r=>aP_Q5 r|exact fun r=>aI r|exact fun r=>aJ r|exact fun r=>aW (.qs [0,1,2,3,4,5,6,7,8,9,10,11,12,13,14,15,16,17] (.l 18 [] (.qs [19] (.l 20 [] .nil .no)) .no)) r):G:=h k
theorem z1_Qb {G H:Prop} (k:H) (h:H→G:=by first|exact fun r=>aS r|exact fun r=>aG r|exact fun r=>aD r|exact fun r=>aH r|exact fun r=>aP_Q5 r|exact fun r=>aI r|exact fun r=>aJ r|exact fun r=>aW (.qs [0,1,2,3,4,5,6,7,8,9,10,11,12,13,14,15,16,17] (.l 18 [] (.qs [19] (.l 20 [] .nil .no)) .no)) r):G:=h k
theorem sray_ok (n m:Nat) (f:Nat→Nat→Int) (bs tu sl:Nat→Int) (d co:Int) (ov:Prop) (c:Nat) (hm:m≤100) (hn:n≤100) (hc:c<n+2*m) (hd:1≤d∧B62 d) (hf:∀a<m,B62 (f a c)) (hb:∀i<m,0≤bs i∧bs i<(n+2*m:Nat)):
  Ctr Tryz.prog 118 [.ptr 0 0,i64 c] (tab (m+1) m (n+2*m+1) n m f bs tu sl d co ov)
   (fun r o=>∃x:Prop×List F,((¬x.1→¬ov)∧((∀i<m,bs i<n→(fnew (0-f i c) d).2.2 =0)→x.1→ov))∧o=tab (m+1) m (n+2*m+1) n m f bs tu sl d co x.1∧r=fsl x.2):=by
 refine Ctr.impO ?_
 refine fI 5 Tryz.func118 ?_
 have hml:=mts_len (m+1) (n+2*m+1) f
 (repeat' (conv=>whnf);first|refine aC ?_ ?_<;>intro<;>try omega|refine z1_Qb ?_|refine⟨n,n,rfl,rfl,Nat.le_refl _,⟨by simp only;omega,by omega⟩,?_⟩|fail);all_goals try (conv=>whnf)
 refine LoopOb.mk (Y:=Nat×List F) (st:=fun y=>⟨[(16,i64 y.1),(15,i64 n),(5, .vec 5),(0, .ptr 0 0),(1,i64 c)],tab (m+1) m (n+2*m+1) n m f bs tu sl d co ov++[.vec 2 (fr2 y.2)]⟩)
  (inv:=fun y=>y.1≤n∧y.2.length=n) (fun y=>n-y.1) (0,List.replicate n (0,0)) [0,1,2,3,4,6] ⟨by simp,by simp⟩ (by dsimp only;rw [fr2_rep,List.length_replicate];(exact aL)) ?_
 rintro⟨j,l⟩ ⟨hj,hl⟩
 dsimp only at hj hl⊢
 have hll:=fr_len l
 (repeat' (conv=>whnf);first|refine z1_Qb ?_|fail);all_goals try (conv=>whnf)
 refine CondOb.mk (fun hlt=>?_) (fun hlt=>?_)
 ·(repeat' (conv=>whnf);first|refine aC ?_ ?_<;>intro<;>try omega|refine z1_Qb ?_|refine⟨_,rfl,(by rw [fr_len];omega),?_⟩|refine⟨_,fr_get (by omega),?_⟩|refine⟨_,rfl,(by rw [List.length_set,fr_len];omega),?_⟩|refine⟨_,(by rw [fr2_put];exact fr_get (by rw [List.length_set];omega)),?_⟩|fail);all_goals try (conv=>whnf)
  ·exact⟨(j+1,(l.set j (0,1)).set j (1,1)),[0,1,2,3,4,5],⟨by dsimp only;omega,by simp [hl]⟩,by dsimp only;omega,by dsimp only;rw [←fr2_put,←fr2_put];(exact aL)⟩
  ·exact⟨(j+1,l.set j (0,1)),[0,1,2,3,4,5],⟨by dsimp only;omega,by simp [hl]⟩,by dsimp only;omega,by dsimp only;rw [←fr2_put];(exact aL)⟩
 (repeat' (conv=>whnf);first|refine aC ?_ ?_<;>intro<;>try omega|refine z1_Qb ?_|fail);all_goals try (conv=>whnf)
 refine LoopOb.mk (Y:=Nat×Prop×List F) (st:=fun y=>⟨[(36,i64 y.1),(35,i64 m),(34, .vec 2),(5, .vec 5),(0, .ptr 0 0),(1,i64 c)],tab (m+1) m (n+2*m+1) n m f bs tu sl d co y.2.1++[.vec 2 (fr2 y.2.2)]⟩)
  (inv:=fun y=>y.1≤m∧y.2.2.length=n∧(¬y.2.1→¬ov)∧((∀i<m,bs i<n→(fnew (0-f i c) d).2.2 =0)→y.2.1→ov)) (fun y=>m-y.1) (0,ov,l) [0,1,2,3,4,5] ⟨by simp,hl,fun h=>h,fun _ h=>h⟩ (by rw [vcs_len];(exact aL)) ?_
 clear hl hll hj hlt
 rintro⟨i,q,l⟩ ⟨hi,hl,hq1,hq2⟩
 dsimp only at hi hl hq1 hq2⊢
 have hll:=fr_len l
 (repeat' (conv=>whnf);first|refine z1_Qb ?_|fail);all_goals try (conv=>whnf)
 refine CondOb.mk (fun hlt=>?_) (fun hlt=>?_)
 ·have him:i<m:=by omega
  have hbi:=hb i him
  obtain⟨b,hbb⟩:∃b:Nat,bs i=b:=⟨(bs i).toNat,by omega⟩
  have hgb:(vcs m bs)[i]? =some [i64 b]:=by rw [vcs_get him,hbb]
  have cW:=width_ok (m+1) m (n+2*m+1) n m f bs tu sl d co q (by omega) (by omega)
  have hfi:=hf i him
  have cF:=sfrac_ok (m+1) m (n+2*m+1) n m f bs tu sl d co q (0-f i c) d (by unfold B62 at*;omega) hd.2
  (repeat' (conv=>whnf);first|refine DrawOb.re [] (.qs [0,1,2,3,4,5,6,7,8,9,10,11,12,13,14,15,16,17] (.l 18 [] (.qs [19] (.l 20 [] .nil .no)) .no)) (by decide+kernel) ?_|refine⟨i,_,rfl,hgb,?_⟩|refine aC ?_ ?_<;>intro<;>try omega|refine z1_Qb ?_|refine And.intro ⟨rfl,rfl⟩ ?_|refine⟨_,rfl,(by simp only [mts_len,vcs_len];omega),?_⟩|refine And.intro (by simp only [mts_len,vcs_len];omega) ?_|refine⟨_,_,rfl,mts_get (by omega),(by simp only [vcs_len];omega),?_⟩|refine⟨_,_,mts_get (by omega),vcs_get (by omega),?_⟩|refine⟨_,mts_get (by omega),?_⟩|refine⟨_,vcs_get (by omega),?_⟩|refine⟨_,_,rfl,vcs_get (by omega),?_⟩|refine⟨n+m+i,_,(by omega),mts_get (by omega),(by simp only [vcs_len];omega),?_⟩|(refine aK [0,1,2,3,4] cW ?_)|fail);all_goals try (conv=>whnf)
  rotate_left
  ·exact⟨(i+1,q,l),[0,1,2,3,4,5],⟨by dsimp only;omega,hl,hq1,hq2⟩,by dsimp only;omega,by(exact aL)⟩
  have hlb:bs i<n:=by assumption
  refine aM [0,1,2,3,4] cF rfl rfl ?_
  rintro _ _ ⟨⟨q1,x⟩,z,rfl,rfl⟩
  dsimp only at z⊢
  (repeat' (conv=>whnf);first|refine aC ?_ ?_<;>intro<;>try omega|refine z1_Qb ?_|refine⟨b,hbb,(by rw [fr_len];omega),?_⟩|refine⟨_,fr_get (by omega),?_⟩|refine And.intro ⟨rfl,rfl⟩ ?_|refine⟨_,rfl,(by simp only [mts_len,vcs_len];omega),?_⟩|refine And.intro (by simp only [mts_len,vcs_len];omega) ?_|refine⟨_,_,rfl,mts_get (by omega),(by simp only [vcs_len];omega),?_⟩|refine⟨_,_,mts_get (by omega),vcs_get (by omega),?_⟩|refine⟨_,mts_get (by omega),?_⟩|refine⟨_,vcs_get (by omega),?_⟩|refine⟨_,_,rfl,vcs_get (by omega),?_⟩|refine⟨n+m+i,_,(by omega),mts_get (by omega),(by simp only [vcs_len];omega),?_⟩|fail);all_goals try (conv=>whnf)
  exact⟨(i+1,q1,l.set b (x.1,x.2)),[0,1,2,3,4,5],⟨by dsimp only;omega,by simp [hl],fun h=>hq1 (z.ex h).1,fun D h=>hq2 D (z.fit (by omega) (D i him hlb) h)⟩,by dsimp only;omega,by dsimp only;rw [←fr2_put];(exact aL)⟩
 ·have e:i=m:=by omega
  subst e
  (repeat' (conv=>whnf);first|refine aC ?_ ?_<;>intro _|refine z2_Qb ?_|fail);all_goals try (conv=>whnf)
  refine .mk [.fz 5] ?_
  (conv=>whnf)
  exact⟨(q,l),⟨hq1,hq2⟩,OI.refl _,Imp.refl _⟩
end Go.Proofs.YtbcjojomkibgeaaGreat
