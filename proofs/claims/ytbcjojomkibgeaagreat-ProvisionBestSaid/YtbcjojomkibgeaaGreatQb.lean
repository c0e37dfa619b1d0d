/- Lemmas of this seat. Conditions: as stated. -/
import Derived.Test.YtbcjojomkibgeaaGreatQa
set_option linter.unusedVariables false
set_option linter.unusedSimpArgs false
set_option maxHeartbeats 2000000
set_option maxRecDepth 4000
namespace Go.Proofs.YtbcjojomkibgeaaGreat
section
open Go.Sx Go.Fq Go.Dt
theorem z2_Qb {G H:Prop} (k:H) (h:H→G:=by first|exact fun r=>aS r|exact fun r=>aG r|exact fun r=>aD r|exact fun r=>aP_Q5 r|exact fun r=>aI r|exact fun r=>aJ r|exact fun r=>aW (.qs [0,1,2,3,4,5,6,7,8,9,10,11,12,13,14,15,16,17] (.l 18 [] (.qs [19] (.l 20 [] .nil .no)) .no)) r):G:=h k
theorem z1_Qb {G H:Prop} (k:H) (h:H→G:=by first|exact fun r=>aS r|exact fun r=>aG r|exact fun r=>aD r|exact fun r=>aH r|exact fun r=>aP_Q5 r|exact fun r=>aI r|exact fun r=>aJ r|exact fun r=>aW (.qs [0,1,2,3,4,5,6,7,8,9,10,11,12,13,14,15,16,17] (.l 18 [] (.qs [19] (.l 20 [] .nil .no)) .no)) r):G:=h k
theorem sray_ok (n m:Nat) (f:Nat→Nat→Int) (bs tu sl:Nat→Int) (d co:Int) (ov:Prop) (c:Nat) (hm:m≤100) (hn:n≤100) (hc:c<n+2*m) (hd:1≤d∧B62 d) (hf:∀a<m,B62 (f a c)) (hb:∀i<m,0≤bs i∧bs i<(n+2*m:Nat)):
  Ctr Tryz.prog 118 [.ptr 0 0,i64 c] (tab (m+1) m (n+2*m+1) n m f bs tu sl d co ov)
   (fun r o=>∃x:Prop×List F,((¬x.1→¬ov)∧((∀i<m,bs i<n→(fnew (0-f i c) d).2.2 =0)→x.1→ov))∧o=tab (m+1) m (n+2*m+1) n m f bs tu sl d co x.1∧r=fsl x.2):=by
 refine Ctr.impO ?_
 refine fI 5 Tryz.func118 ?_
 have hml:=mts_len (m+1) (n+2*m+1) f
 (repeat' (conv=>whnf);first|refine aC ?_ ?_<;>intro<;>try omega|refine z1_Qb ?_|refine⟨n,n,rfl,rfl,Nat.le_refl _,⟨by simp only;omega,by omega⟩,?_⟩|fail);all_goals try (conv=>whnf)
 refine LoopOb.mk (Y:=Nat×List F) (st:=fun y=>⟨[(16,i64 y.1),(15,i64 n),(5, .vec 5),(0, .ptr 0 0),(1,i64 c)],tab (m+1) m (n+2*m+1) n m f bs tu sl d co ov++[.vec 2 (fr2 y.2)]⟩)
  (inv:=fun y=>y.1≤n∧y.2.length=n) (fun y=>n-y.1) (0,List.replicate n (0,0)) [0,1,2,3,4,6] ⟨by simp,by simp⟩ (by dsimp only;rw [fr2_rep,List.length_replicate];(exact aL)) ?_
 rintro⟨j,l⟩ ⟨hj,hl⟩
 dsimp only at hj hl⊢
 have hll:=fr_len l
 (repeat' (conv=>whnf);first|refine z1_Qb ?_|fail);all_goals try (conv=>whnf)
 refine CondOb.mk (fun hlt=>?_) (fun hlt=>?_)
 ·(repeat' (conv=>whnf);first|refine aC ?_ ?_<;>intro<;>try omega|refine z1_Qb ?_|refine⟨_,rfl,(by rw [fr_len];omega),?_⟩|refine⟨_,fr_get (by omega),?_⟩|refine⟨_,rfl,(by rw [List.length_set,fr_len];omega),?_⟩|refine⟨_,(by rw [fr2_put];exact fr_get (by rw [List.length_set];omega)),?_⟩|fail);all_goals try (conv=>whnf)
  ·exact⟨(j+1,(l.set j (0,1)).set j (1,1)),[0,1,2,3,4,5],⟨by dsimp only;omega,by simp [hl]⟩,by dsimp only;omega,by dsimp only;rw [←fr2_put,←fr2_put];(exact aL)⟩
  ·exact⟨(j+1,l.set j (0,1)),[0,1,2,3,4,5],⟨by dsimp only;omega,by simp [hl]⟩,by dsimp only;omega,by dsimp only;rw [←fr2_put];(exact aL)⟩
 (repeat' (conv=>whnf);first|refine aC ?_ ?_<;>intro<;>try omega|refine z1_Qb ?_|fail);all_goals try (conv=>whnf)
 refine LoopOb.mk (Y:=Nat×Prop×List F) (st:=fun y=>⟨[(36,i64 y.1),(35,i64 m),(34, .vec 2),(5, .vec 5),(0, .ptr 0 0),(1,i64 c)],tab (m+1) m (n+2*m+1) n m f bs tu sl d co y.2.1++[.vec 2 (fr2 y.2.2)]⟩)
  (inv:=fun y=>y.1≤m∧y.2.2.length=n∧(¬y.2.1→¬ov)∧((∀i<m,bs i<n→(fnew (0-f i c) d).2.2 =0)→y.2.1→ov)) (fun y=>m-y.1) (0,ov,l) [0,1,2,3,4,5] ⟨by simp,hl,fun h=>h,fun _ h=>h⟩ (by rw [vcs_len];(exact aL)) ?_
 clear hl hll hj hlt
 rintro⟨i,q,l⟩ ⟨hi,hl,hq1,hq2⟩
 dsimp only at hi hl hq1 hq2⊢
 have hll:=fr_len l
 (repeat' (conv=>whnf);first|refine z1_Qb ?_|fail);all_goals try (conv=>whnf)
 refine CondOb.mk (fun hlt=>?_) (fun hlt=>?_)
 ·have him:i<m:=by omega
  have hbi:=hb i him
  obtain⟨b,hbb⟩:∃b:Nat,bs i=b:=⟨(bs i).toNat,by omega⟩
  have hgb:(vcs m bs)[i]? =some [i64 b]:=by rw [vcs_get him,hbb]
  have cW:=width_ok (m+1) m (n+2*m+1) n m f bs tu sl d co q (by omega) (by omega)
  have hfi:=hf i him
  have cF:=sfrac_ok (m+1) m (n+2*m+1) n m f bs tu sl d co q (0-f i c) d (by unfold B62 at*;omega) hd.2
  (repeat' (conv=>whnf);first|refine DrawOb.re [] (.qs [0,1,2,3,4,5,6,7,8,9,10,11,12,13,14,15,16,17] (.l 18 [] (.qs [19] (.l 20 [] .nil .no)) .no)) (by decide+kernel) ?_|refine⟨i,_,rfl,hgb,?_⟩|refine aC ?_ ?_<;>intro<;>try omega|refine z1_Qb ?_|refine And.intro ⟨rfl,rfl⟩ ?_|refine⟨_,rfl,(by simp only [mts_len,vcs_len];omega),?_⟩|refine And.intro (by simp only [mts_len,vcs_len];omega) ?_|refine⟨_,_,rfl,mts_get (by omega),(by simp only [vcs_len];omega),?_⟩|refine⟨_,_,mts_get (by omega),vcs_get (by omega),?_⟩|refine⟨_,mts_get (by omega),?_⟩|refine⟨_,vcs_get (by omega),?_⟩|refine⟨_,_,rfl,vcs_get (by omega),?_⟩|refine⟨n+m+i,_,(by omega),mts_get (by omega),(by simp only [vcs_len];omega),?_⟩|(refine aK [0,1,2,3,4] cW ?_)|fail);all_goals try (conv=>whnf)
  rotate_left
  ·exact⟨(i+1,q,l),[0,1,2,3,4,5],⟨by dsimp only;omega,hl,hq1,hq2⟩,by dsimp only;omega,by(exact aL)⟩
  have hlb:bs i<n:=by assumption
  refine aM [0,1,2,3,4] cF rfl rfl ?_
  rintro _ _ ⟨⟨q1,x⟩,z,rfl,rfl⟩
  dsimp only at z⊢
  (repeat' (conv=>whnf);first|refine aC ?_ ?_<;>intro<;>try omega|refine z1_Qb ?_|refine⟨b,hbb,(by rw [fr_len];omega),?_⟩|refine⟨_,fr_get (by omega),?_⟩|refine And.intro ⟨rfl,rfl⟩ ?_|refine⟨_,rfl,(by simp only [mts_len,vcs_len];omega),?_⟩|refine And.intro (by simp only [mts_len,vcs_len];omega) ?_|refine⟨_,_,rfl,mts_get (by omega),(by simp only [vcs_len];omega),?_⟩|refine⟨_,_,mts_get (by omega),vcs_get (by omega),?_⟩|refine⟨_,mts_get (by omega),?_⟩|refine⟨_,vcs_get (by omega),?_⟩|refine⟨_,_,rfl,vcs_get (by omega),?_⟩|refine⟨n+m+i,_,(by omega),mts_get (by omega),(by simp only [vcs_len];omega),?_⟩|fail);all_goals try (conv=>whnf)
  exact⟨(i+1,q1,l.set b (x.1,x.2)),[0,1,2,3,4,5],⟨by dsimp only;omega,by simp [hl],fun h=>hq1 (z.ex h).1,fun D h=>hq2 D (z.fit (by omega) (D i him hlb) h)⟩,by dsimp only;omega,by dsimp only;rw [←fr2_put];(exact aL)⟩
 ·have e:i=m:=by omega
  subst e
  (repeat' (conv=>whnf);first|refine aC ?_ ?_<;>intro _|refine z2_Qb ?_|fail);all_goals try (conv=>whnf)
  refine .mk [.fz 5] ?_
  (conv=>whnf)
  exact⟨(q,l),⟨hq1,hq2⟩,OI.refl _,Imp.refl _⟩
end
section
open Go.Sx Go.Fq Go.Dt
structure ExI (m E C:Nat) (T0:M) (u:Nat→Nat) (co:Nat→Int) (s0:TS) (ov:Prop) (F:Prop) (i:Nat) (s:TS) (q:Prop):Prop where
 hb:∀a<m+1,∀b<E+1,B62 (s.1 a b)
 hd:1≤s.2.2∧B62 s.2.2
 bs:∀i<m,0≤s.2.1 i∧s.2.1 i<E
 ex:¬q→¬ov∧Arw m (E+1) C s0 s∧Inv m (E+1) T0 u co s.1 (bN s) s.2.2∧∀a<i,(C:Int)≤s.2.1 a→∀j<C,s.1 a j=0
 fit:F→q→ov
section
variable {m E C:Nat} {T0:M} {u:Nat→Nat} {co:Nat→Int} {s0 s:TS} {ov:Prop} {i:Nat} {q:Prop} {F:Prop}
theorem ExI.skip (h:ExI m E C T0 u co s0 ov F i s q) (hi:s.2.1 i<C∨∀j<C,s.1 i j=0):ExI m E C T0 u co s0 ov F (i+1) s q:=by
 refine⟨h.hb,h.hd,h.bs,fun hq=>?_,h.fit⟩
 obtain⟨h1,h2,h3,h4⟩:=h.ex hq
 refine⟨h1,h2,h3,fun a ha hb j hj=>?_⟩
 by_cases e:a=i
 ·subst e
  rcases hi with hi|hi
  ·omega
  ·exact hi j hj
 ·exact h4 a (by omega) hb j hj
theorem ExI.step {c:Nat} {q2:Prop} {g:Nat→Nat→Int} (h:ExI m E C T0 u co s0 ov (DsF m E T0 u co) i s q) (hu:∀l<m,u l<E+1) (hC:C≤E) (hc:c<C) (hr:i<m) (hbs:(C:Int)≤s.2.1 i) (hp:s.1 i c≠0)
  (k:PvC s.1 m (E+1) i c s.2.2 q (m+1) q2 g):ExI m E C T0 u co s0 ov (DsF m E T0 u co) (i+1) (g,up s.2.1 i c,((s.1 i c).natAbs :Int)) q2:=by
 refine⟨k.hb,⟨by show 1≤((s.1 i c).natAbs :Int);omega,?_⟩,fun j hj=>?_,fun hq=>?_,fun F hq=>?_⟩
 ·have:=h.hb i (by omega) c (by omega)
  show B62 ((s.1 i c).natAbs :Int)
  unfold B62 at*;omega
 ·show 0≤up s.2.1 i c j∧up s.2.1 i c j<E
  unfold up;split
  ·omega
  ·exact h.bs j hj
 ·obtain⟨hq1,hg⟩:=k.ex hq
  obtain⟨ho,hR,I,hz⟩:=h.ex hq1
  have P:Piw m (E+1) s i c (g,up s.2.1 i c,((s.1 i c).natAbs :Int)):=⟨fun a ha b hb=>by show g a b=_;rw [hg a ha b hb,pv_end ha],rfl,rfl⟩
  have eb:bN (g,up s.2.1 i c,((s.1 i c).natAbs :Int))=ub (bN s) i c:=by
   funext j
   show(up s.2.1 i c j).toNat =ub (bN s) i c j
   unfold ub bN up;split<;>simp
  refine⟨ho, .step hR hr hc hbs hp P,?_,fun a ha hb j hj=>?_⟩
  ·rw [eb];exact I.pivot hr (by omega) hp hu (pv_pvt I hr (by omega) P)
  ·have hb:(C:Int)≤up s.2.1 i c a:=hb
   by_cases e:a=i
   ·subst e;unfold up at hb;rw [if_pos rfl]at hb;omega
   ·unfold up at hb;rw [if_neg e]at hb
    exact piw_zero P (by omega) e (hz a (by omega) hb c hc) (by omega) (hz a (by omega) hb j hj)
 ·by_cases hq1:q
  ·exact h.fit F hq1
  ·exact absurd (k.fit ((F s (h.ex hq1).2.2.1 h.bs c (by omega)).2 i hr) hq) hq1
end
theorem z1_Qc {G H:Prop} (k:H) (h:H→G:=by first|exact fun r=>aS r|exact fun r=>aG r|exact fun r=>aD r|exact fun r=>aH r|exact fun r=>aP_Q5 r|exact fun r=>aI r|exact fun r=>aJ r|exact fun r=>aW (.qs [0,1,2,3,4,5,6,7,8,9,10,11,12,13,14,15,16] .nil) r|exact fun r=>aW (.qs [0,1,2,3,4,5,6,7,8,9,10] .nil) r):G:=h k
theorem expel_ok (n m:Nat) (T0:M) (u:Nat→Nat) (cf:Nat→Int) (s0:TS) (tu sl:Nat→Int) (co:Int) (ov:Prop) (hm:m≤100) (hn:n≤100) (hu:∀l<m,u l<n+2*m+1)
  (hb:∀a<m+1,∀b<n+2*m+1,B62 (s0.1 a b)) (hd:1≤s0.2.2∧B62 s0.2.2) (hbs:∀i<m,0≤s0.2.1 i∧s0.2.1 i<(n+2*m:Nat))
  (h0:¬ov→Inv m (n+2*m+1) T0 u cf s0.1 (bN s0) s0.2.2):
  Ctr Tryz.prog 116 [.ptr 0 0] (tab (m+1) m (n+2*m+1) n m s0.1 s0.2.1 tu sl s0.2.2 co ov) (fun z o=>∃x:TS×Prop,ExI m (n+2*m) (n+m) T0 u cf s0 ov (DsF m (n+2*m) T0 u cf) m x.1 x.2∧o=tab (m+1) m (n+2*m+1) n m x.1.1 x.1.2.1 tu sl x.1.2.2 co x.2∧z= .tup []):=by
 refine Ctr.impO ?_
 refine fI 5 Tryz.func116 ?_
 have hI0:ExI m (n+2*m) (n+m) T0 u cf s0 ov (DsF m (n+2*m) T0 u cf) 0 s0 ov:=⟨hb,hd,hbs,fun h=>⟨h, .refl,h0 h,fun a ha=>absurd ha (by omega)⟩,fun _ h=>h⟩
 clear hb hd hbs h0
 (repeat' (conv=>whnf);first|refine aC ?_ ?_<;>intro<;>try omega|refine z1_Qc ?_|fail);all_goals try (conv=>whnf)
 refine LoopOb.mk (Y:=Nat×TS×Prop) (st:=fun y=>⟨[(9,i64 y.1),(8,i64 m),(0, .ptr 0 0)],tab (m+1) m (n+2*m+1) n m y.2.1.1 y.2.1.2.1 tu sl y.2.1.2.2 co y.2.2⟩)
  (inv:=fun y=>y.1≤m∧ExI m (n+2*m) (n+m) T0 u cf s0 ov (DsF m (n+2*m) T0 u cf) y.1 y.2.1 y.2.2) (fun y=>m-y.1) (0,s0,ov) [0,1,2,3,4] ⟨by simp,hI0⟩ (by rw [vcs_len];(exact aL)) ?_
 rintro⟨i,⟨f,bs,d⟩,q⟩ ⟨hi,hI⟩
 dsimp only at hi hI⊢
 (repeat' (conv=>whnf);first|refine z1_Qc ?_|fail);all_goals try (conv=>whnf)
 refine CondOb.mk (fun hlt=>?_) (fun hlt=>?_)
 rotate_left
 ·have e:i=m:=by omega
  subst e
  (repeat' (conv=>whnf);first|refine aC ?_ ?_<;>intro<;>try omega|refine z1_Qc ?_|fail);all_goals try (conv=>whnf)
  exact⟨((f,bs,d),q),hI,OI.refl _,Imp.refl _⟩
 have him:i<m:=by omega
 have hml:=mts_len (m+1) (n+2*m+1) f
 have hbi:=hI.bs i him
 dsimp only at hbi
 (repeat' (conv=>whnf);first|refine aC ?_ ?_<;>intro<;>try omega|refine z1_Qc ?_|refine And.intro ⟨rfl,rfl⟩ ?_|refine⟨_,rfl,(by simp only [mts_len,vcs_len];omega),?_⟩|refine And.intro (by simp only [mts_len,vcs_len];omega) ?_|refine⟨_,_,rfl,mts_get (by omega),(by simp only [vcs_len];omega),?_⟩|refine⟨_,_,mts_get (by omega),vcs_get (by omega),?_⟩|refine⟨_,mts_get (by omega),?_⟩|refine⟨_,vcs_get (by omega),?_⟩|refine⟨_,_,rfl,vcs_get (by omega),?_⟩|refine⟨n+m+i,_,(by omega),mts_get (by omega),(by simp only [vcs_len];omega),?_⟩|fail);all_goals try (conv=>whnf)
 ·exact⟨(i+1,(f,bs,d),q),[0,1,2,3,4],⟨by dsimp only;omega,hI.skip (.inl (by dsimp only;push_cast;assumption))⟩,by dsimp only;omega,by(exact aL)⟩
 have hge:((n+m:Nat):Int)≤bs i:=by push_cast;omega
 refine LoopOb.mk (Y:=Nat) (st:=fun c=>⟨[(3,i64 c),(2,i64 i),(9,i64 i),(8,i64 m),(0, .ptr 0 0)],tab (m+1) m (n+2*m+1) n m f bs tu sl d co q⟩)
  (inv:=fun c=>c≤n+m∧∀k<c,f i k=0) (fun c=>n+m-c) 0 [0,1,2,3,4] ⟨by omega,fun k hk=>absurd hk (by omega)⟩ (by(exact aL)) ?_
 rintro c ⟨hc,hz⟩
 (repeat' (conv=>whnf);first|refine aC ?_ ?_<;>intro<;>try omega|refine z1_Qc ?_|refine And.intro ⟨rfl,rfl⟩ ?_|refine⟨_,rfl,(by simp only [mts_len,vcs_len];omega),?_⟩|refine And.intro (by simp only [mts_len,vcs_len];omega) ?_|refine⟨_,_,rfl,mts_get (by omega),(by simp only [vcs_len];omega),?_⟩|refine⟨_,_,mts_get (by omega),vcs_get (by omega),?_⟩|refine⟨_,mts_get (by omega),?_⟩|refine⟨_,vcs_get (by omega),?_⟩|refine⟨_,_,rfl,vcs_get (by omega),?_⟩|refine⟨n+m+i,_,(by omega),mts_get (by omega),(by simp only [vcs_len];omega),?_⟩|fail);all_goals try (conv=>whnf)
 rotate_left
 ·have h0:f i c=0:=Classical.not_not.1 (by assumption)
  exact⟨c+1,[0,1,2,3,4],⟨by omega,fun k hk=>by
   by_cases e:k=c
   ·subst e;exact h0
   ·exact hz k (by omega)⟩,by omega,by(exact aL)⟩
 ·have e:c=n+m:=by omega
  subst e
  exact⟨(i+1,(f,bs,d),q),[0,1,2,3,4],⟨by dsimp only;omega,hI.skip (.inr hz)⟩,by dsimp only;omega,by(exact aL)⟩
 have hp:f i c≠0:=by assumption
 have cP:=pivotS_ok (n+2*m+1) n m f bs tu sl d co q i c hm (by omega) him (by omega) hI.hd hI.hb hp
 refine aM [0,1,2,3,4] cP rfl rfl ?_
 rintro _ _ ⟨⟨q2,g⟩,hP,rfl,rfl⟩
 dsimp only at hP⊢
 have hI2:=hI.step hu (by omega) (by omega) him hge hp hP
 (repeat' (conv=>whnf);first|refine aC ?_ ?_<;>intro<;>try omega|refine z1_Qc ?_|fail);all_goals try (conv=>whnf)
 exact⟨(i+1,(g,up bs i c,((f i c).natAbs :Int)),q2),[0,1,2,3,4],⟨by dsimp only;omega,hI2⟩,by dsimp only;omega,by(exact aL)⟩
end
end Go.Proofs.YtbcjojomkibgeaaGreat
