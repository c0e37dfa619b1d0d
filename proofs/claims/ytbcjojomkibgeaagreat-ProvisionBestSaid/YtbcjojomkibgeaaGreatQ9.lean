/- Lemmas of this seat. Conditions: as stated. -/
import Derived.Test.YtbcjojomkibgeaaGreatQ7
set_option linter.unusedVariables false
set_option linter.unusedSimpArgs false
set_option maxHeartbeats 2000000
set_option maxRecDepth 4000
namespace Go.Proofs.YtbcjojomkibgeaaGreat
open Go.Sx Go.Fq Go.Dt
structure DuP (f:Nat→Nat→Int) (d:Int) (n m:Nat) (own cost:Int) (tu sl:Nat→Int) (i:Nat):Prop where
 h1:B62 (own*d)
 h2:B62 (own*d-f m (n+m+i))
 h3:B62 ((own*d-f m (n+m+i))*tu i)
 h4:B62 ((own*d-f m (n+m+i))*tu i*sl i)
 h5:B62 (d*cost)
 h6:d*cost≠0
 h7:(fnew ((own*d-f m (n+m+i))*tu i*sl i) (d*cost)).2.2 =0
theorem du_step {f:Nat→Nat→Int} {d:Int} {n m:Nat} {own cost:Int} {tu sl:Nat→Int} {i:Nat} {q q1 q2 q3 q4 q5 q6:Prop} {a y v v2 dd:Int} {x:F}
  (z1:Cal q q1 (own*d) a) (z2:Cal q1 q2 (a-f m (n+m+i)) y) (z3:Cal q2 q3 (y*tu i) v) (z4:Cal q3 q4 (v*sl i) v2) (z5:Cal q4 q5 (d*cost) dd) (z6:FrS v2 dd q5 q6 x):
  (¬q6→¬q∧VF x∧val x=Rat.divInt ((own*d-f m (n+m+i))*tu i*sl i) (d*cost))∧(DuP f d n m own cost tu sl i→q6→q):=by
 refine⟨fun h=>?_,fun D h=>?_⟩
 ·obtain⟨h5,h6,h7⟩:=z6.ex h
  obtain⟨h4,e5⟩:=z5.ex h5
  obtain⟨h3,e4⟩:=z4.ex h4
  obtain⟨h2,e3⟩:=z3.ex h3
  obtain⟨h1,e2⟩:=z2.ex h2
  obtain⟨h0,e1⟩:=z1.ex h1
  subst e1 e2 e3 e4 e5
  exact⟨h0,h6,h7⟩
 ·refine Classical.byContradiction fun hq=>?_
  have k1:¬q1:=fun e=>hq (z1.fit D.h1 e)
  have e1:=(z1.ex k1).2
  subst e1
  have k2:¬q2:=fun e=>k1 (z2.fit D.h2 e)
  have e2:=(z2.ex k2).2
  subst e2
  have k3:¬q3:=fun e=>k2 (z3.fit D.h3 e)
  have e3:=(z3.ex k3).2
  subst e3
  have k4:¬q4:=fun e=>k3 (z4.fit D.h4 e)
  have e4:=(z4.ex k4).2
  subst e4
  have k5:¬q5:=fun e=>k4 (z5.fit D.h5 e)
  have e5:=(z5.ex k5).2
  subst e5
  exact k5 (z6.fit D.h6 D.h7 h)
def DuV (f:Nat→Nat→Int) (d:Int) (n m:Nat) (own cost:Int) (tu sl:Nat→Int) (i:Nat) (Y:List F):Prop:=∀a<i,VF (Y.getD a (0,1))∧val (Y.getD a (0,1))=Rat.divInt ((own*d-f m (n+m+a))*tu a*sl a) (d*cost)
theorem DuV.app {f:Nat→Nat→Int} {d:Int} {n m:Nat} {own cost:Int} {tu sl:Nat→Int} {Y:List F} {x:F} (h:DuV f d n m own cost tu sl Y.length Y) (hx:VF x∧val x=Rat.divInt ((own*d-f m (n+m+Y.length))*tu Y.length*sl Y.length) (d*cost)):DuV f d n m own cost tu sl (Y.length+1) (Y++[x]):=fun a ha=>by
 rw [List.getD_eq_getElem?_getD]
 by_cases e:a=Y.length
 ·subst e;simpa using hx
 ·rw [List.getElem?_append_left (by omega),←List.getD_eq_getElem?_getD];exact h a (by omega)
theorem z2_Q9 {G H:Prop} (k:H) (h:H→G:=by first|exact fun r=>aS r|exact fun r=>aG r|exact fun r=>aD r|exact fun r=>aP_Q5 r|exact fun r=>aI r|exact fun r=>aJ r|exact fun r=>aW (.qs [0,1,2,3,4,5,6,8,9,10,11,12,13,14,15,16,17,18,19,20,21,22,23,24,25,26,27,28,29,30] (.l 7 [30,25,21,17,15,11] (.l 31 [] (.qs [32] .nil) .no) .no)) r|exact fun r=>aW (.qs [0,1,2,3,4,5,6,7,8,9,10,11,13,14,15,16,17,18,19,21,22,23,24,25,26] (.l 12 [25,19,16] (.l 20 [25] (.l 27 [] (.l 28 [] (.l 29 [] (.l 30 [] (.qs [31] .nil) .no) .no) .no) .no) .no) .no)) r):G:=h k
theorem z1_Q9 {G H:Prop} (k:H) (h:H→G:=by first|exact fun r=>aS r|exact fun r=>aG r|exact fun r=>aD r|exact fun r=>aH r|exact fun r=>aP_Q5 r|exact fun r=>aI r|exact fun r=>aJ r|exact fun r=>aW (.qs [0,1,2,3,4,5,6,8,9,10,11,12,13,14,15,16,17,18,19,20,21,22,23,24,25,26,27,28,29,30] (.l 7 [30,25,21,17,15,11] (.l 31 [] (.qs [32] .nil) .no) .no)) r|exact fun r=>aW (.qs [0,1,2,3,4,5,6,7,8,9,10,11,13,14,15,16,17,18,19,21,22,23,24,25,26] (.l 12 [25,19,16] (.l 20 [25] (.l 27 [] (.l 28 [] (.l 29 [] (.l 30 [] (.qs [31] .nil) .no) .no) .no) .no) .no) .no)) r):G:=h k
theorem sdual_ok (n m w:Nat) (f:Nat→Nat→Int) (bs tu sl:Nat→Int) (d co:Int) (ov:Prop) (own cost:Int) (hm:m≤100) (hn:n≤100) (hw:w=n+2*m+1) (ho:B62 own) (hc:B62 cost) (hd:B62 d) (hf:∀b<w,B62 (f m b)) (ht:∀i<m,B62 (tu i)) (hs:∀i<m,B62 (sl i)):
  Ctr Tryz.prog 115 [.ptr 0 0,i64 own,i64 cost] (tab (m+1) m w n m f bs tu sl d co ov)
   (fun r o=>∃x:Prop×List F,((¬x.1→¬ov∧x.2.length=m∧DuV f d n m own cost tu sl m x.2)∧((∀i<m,DuP f d n m own cost tu sl i)→x.1→ov))∧o=tab (m+1) m w n m f bs tu sl d co x.1∧r=fsl x.2):=by
 refine Ctr.impO ?_
 refine fI 5 Tryz.func115 ?_
 have hml:=mts_len (m+1) w f
 (repeat' (conv=>whnf);first|refine aC ?_ ?_<;>intro<;>try omega|refine z1_Q9 ?_|fail);all_goals try (conv=>whnf)
 refine LoopOb.mk (Y:=Nat×Prop×List F) (st:=fun y=>⟨[(8,i64 y.1),(7, .vec 5),(0, .ptr 0 0),(1,i64 own),(2,i64 cost)],tab (m+1) m w n m f bs tu sl d co y.2.1++[.vec 2 (fr2 y.2.2)]⟩)
  (inv:=fun y=>y.1≤m∧y.2.2.length=y.1∧(¬y.2.1→¬ov∧DuV f d n m own cost tu sl y.1 y.2.2)∧((∀i<m,DuP f d n m own cost tu sl i)→y.2.1→ov)) (fun y=>m-y.1) (0,ov,[]) [0,1,2,3,4,6] ⟨by simp,rfl,fun h=>⟨h,fun a ha=>absurd ha (by simp)⟩,fun _ h=>h⟩ (by(exact aL)) ?_
 rintro⟨i,q,l⟩ ⟨hi,hl,hq1,hq2⟩
 dsimp only at hi hl hq1 hq2⊢
 have hll:=fr_len l
 (repeat' (conv=>whnf);first|refine z1_Q9 ?_|fail);all_goals try (conv=>whnf)
 refine CondOb.mk (fun hlt=>?_) (fun hlt=>?_)
 ·have him:i<m:=by omega
  have bf:=hf (n+m+i) (by omega)
  have bt:=ht i him
  have bs':=hs i him
  have cM1:=mul_ok (m+1) m w n m f bs tu sl d co q own d ho hd
  (repeat' (conv=>whnf);first|refine DrawOb.re [] (.qs [0,1,2,3,4,5,6,8,9,10,11,12,13,14,15,16,17,18,19,20,21,22,23,24,25,26,27,28,29,30] (.l 7 [30,25,21,17,15,11] (.l 31 [] (.qs [32] .nil) .no) .no)) (by decide+kernel) ?_|refine aC ?_ ?_<;>intro<;>try omega|refine z1_Q9 ?_|refine And.intro ⟨rfl,rfl⟩ ?_|refine⟨_,rfl,(by simp only [mts_len,vcs_len];omega),?_⟩|refine And.intro (by simp only [mts_len,vcs_len];omega) ?_|refine⟨_,_,rfl,mts_get (by omega),(by simp only [vcs_len];omega),?_⟩|refine⟨_,_,mts_get (by omega),vcs_get (by omega),?_⟩|refine⟨_,mts_get (by omega),?_⟩|refine⟨_,vcs_get (by omega),?_⟩|refine⟨_,_,rfl,vcs_get (by omega),?_⟩|refine⟨n+m+i,_,(by omega),mts_get (by omega),(by simp only [vcs_len];omega),?_⟩|fail);all_goals try (conv=>whnf)
  refine aM [0,1,2,3,4] cM1 rfl rfl ?_
  rintro _ _ ⟨⟨p1,a⟩,z1,rfl,rfl⟩
  dsimp only at z1⊢
  have cS:=sub_ok (m+1) m w n m f bs tu sl d co p1 a (f m (n+m+i)) z1.bd bf
  (repeat' (conv=>whnf);first|refine aC ?_ ?_<;>intro<;>try omega|refine z1_Q9 ?_|refine And.intro ⟨rfl,rfl⟩ ?_|refine⟨_,rfl,(by simp only [mts_len,vcs_len];omega),?_⟩|refine And.intro (by simp only [mts_len,vcs_len];omega) ?_|refine⟨_,_,rfl,mts_get (by omega),(by simp only [vcs_len];omega),?_⟩|refine⟨_,_,mts_get (by omega),vcs_get (by omega),?_⟩|refine⟨_,mts_get (by omega),?_⟩|refine⟨_,vcs_get (by omega),?_⟩|refine⟨_,_,rfl,vcs_get (by omega),?_⟩|refine⟨n+m+i,_,(by omega),mts_get (by omega),(by simp only [vcs_len];omega),?_⟩|fail);all_goals try (conv=>whnf)
  refine aM [0,1,2,3,4] cS rfl rfl ?_
  rintro _ _ ⟨⟨p2,y⟩,z2,rfl,rfl⟩
  dsimp only at z2⊢
  have cM2:=mul_ok (m+1) m w n m f bs tu sl d co p2 y (tu i) z2.bd bt
  (repeat' (conv=>whnf);first|refine DrawOb.re [] (.qs [0,1,2,3,4,5,6,7,8,9,10,11,13,14,15,16,17,18,19,21,22,23,24,25,26] (.l 12 [25,19,16] (.l 20 [25] (.l 27 [] (.l 28 [] (.l 29 [] (.l 30 [] (.qs [31] .nil) .no) .no) .no) .no) .no) .no)) (by decide+kernel) ?_|refine aC ?_ ?_<;>intro<;>try omega|refine z1_Q9 ?_|refine And.intro ⟨rfl,rfl⟩ ?_|refine⟨_,rfl,(by simp only [mts_len,vcs_len];omega),?_⟩|refine And.intro (by simp only [mts_len,vcs_len];omega) ?_|refine⟨_,_,rfl,mts_get (by omega),(by simp only [vcs_len];omega),?_⟩|refine⟨_,_,mts_get (by omega),vcs_get (by omega),?_⟩|refine⟨_,mts_get (by omega),?_⟩|refine⟨_,vcs_get (by omega),?_⟩|refine⟨_,_,rfl,vcs_get (by omega),?_⟩|refine⟨n+m+i,_,(by omega),mts_get (by omega),(by simp only [vcs_len];omega),?_⟩|fail);all_goals try (conv=>whnf)
  refine aM [0,1,2,3,4] cM2 rfl rfl ?_
  rintro _ _ ⟨⟨p3,v⟩,z3,rfl,rfl⟩
  dsimp only at z3⊢
  have cM3:=mul_ok (m+1) m w n m f bs tu sl d co p3 v (sl i) z3.bd bs'
  (repeat' (conv=>whnf);first|refine aC ?_ ?_<;>intro<;>try omega|refine z1_Q9 ?_|refine And.intro ⟨rfl,rfl⟩ ?_|refine⟨_,rfl,(by simp only [mts_len,vcs_len];omega),?_⟩|refine And.intro (by simp only [mts_len,vcs_len];omega) ?_|refine⟨_,_,rfl,mts_get (by omega),(by simp only [vcs_len];omega),?_⟩|refine⟨_,_,mts_get (by omega),vcs_get (by omega),?_⟩|refine⟨_,mts_get (by omega),?_⟩|refine⟨_,vcs_get (by omega),?_⟩|refine⟨_,_,rfl,vcs_get (by omega),?_⟩|refine⟨n+m+i,_,(by omega),mts_get (by omega),(by simp only [vcs_len];omega),?_⟩|fail);all_goals try (conv=>whnf)
  refine aM [0,1,2,3,4] cM3 rfl rfl ?_
  rintro _ _ ⟨⟨p4,v2⟩,z4,rfl,rfl⟩
  dsimp only at z4⊢
  have cM4:=mul_ok (m+1) m w n m f bs tu sl d co p4 d cost hd hc
  (repeat' (conv=>whnf);first|refine aC ?_ ?_<;>intro<;>try omega|refine z1_Q9 ?_|refine And.intro ⟨rfl,rfl⟩ ?_|refine⟨_,rfl,(by simp only [mts_len,vcs_len];omega),?_⟩|refine And.intro (by simp only [mts_len,vcs_len];omega) ?_|refine⟨_,_,rfl,mts_get (by omega),(by simp only [vcs_len];omega),?_⟩|refine⟨_,_,mts_get (by omega),vcs_get (by omega),?_⟩|refine⟨_,mts_get (by omega),?_⟩|refine⟨_,vcs_get (by omega),?_⟩|refine⟨_,_,rfl,vcs_get (by omega),?_⟩|refine⟨n+m+i,_,(by omega),mts_get (by omega),(by simp only [vcs_len];omega),?_⟩|fail);all_goals try (conv=>whnf)
  refine aM [0,1,2,3,4] cM4 rfl rfl ?_
  rintro _ _ ⟨⟨p5,dd⟩,z5,rfl,rfl⟩
  dsimp only at z5⊢
  have cF:=sfrac_ok (m+1) m w n m f bs tu sl d co p5 v2 dd z4.bd z5.bd
  (repeat' (conv=>whnf);first|refine aC ?_ ?_<;>intro<;>try omega|refine z1_Q9 ?_|refine And.intro ⟨rfl,rfl⟩ ?_|refine⟨_,rfl,(by simp only [mts_len,vcs_len];omega),?_⟩|refine And.intro (by simp only [mts_len,vcs_len];omega) ?_|refine⟨_,_,rfl,mts_get (by omega),(by simp only [vcs_len];omega),?_⟩|refine⟨_,_,mts_get (by omega),vcs_get (by omega),?_⟩|refine⟨_,mts_get (by omega),?_⟩|refine⟨_,vcs_get (by omega),?_⟩|refine⟨_,_,rfl,vcs_get (by omega),?_⟩|refine⟨n+m+i,_,(by omega),mts_get (by omega),(by simp only [vcs_len];omega),?_⟩|fail);all_goals try (conv=>whnf)
  refine aM [0,1,2,3,4] cF rfl rfl ?_
  rintro _ _ ⟨⟨p6,x⟩,z6,rfl,rfl⟩
  dsimp only at z6⊢
  obtain⟨d1,d2⟩:=du_step z1 z2 z3 z4 z5 z6
  (repeat' (conv=>whnf);first|refine aC ?_ ?_<;>intro<;>try omega|refine z1_Q9 ?_|refine And.intro ⟨rfl,rfl⟩ ?_|refine⟨_,rfl,(by simp only [mts_len,vcs_len];omega),?_⟩|refine And.intro (by simp only [mts_len,vcs_len];omega) ?_|refine⟨_,_,rfl,mts_get (by omega),(by simp only [vcs_len];omega),?_⟩|refine⟨_,_,mts_get (by omega),vcs_get (by omega),?_⟩|refine⟨_,mts_get (by omega),?_⟩|refine⟨_,vcs_get (by omega),?_⟩|refine⟨_,_,rfl,vcs_get (by omega),?_⟩|refine⟨n+m+i,_,(by omega),mts_get (by omega),(by simp only [vcs_len];omega),?_⟩|fail);all_goals try (conv=>whnf)
  exact⟨(i+1,p6,l++[(x.1,x.2)]),[0,1,2,3,4,7],⟨by dsimp only;omega,by simp [hl],fun h=>⟨(hq1 (d1 h).1).1,by dsimp only;subst hl;exact(hq1 (d1 h).1).2.app (d1 h).2⟩,fun D h=>hq2 D (d2 (D i him) h)⟩,by dsimp only;omega,by dsimp only;rw [fr2_append];(exact aL)⟩
 ·(repeat' (conv=>whnf);first|refine aC ?_ ?_<;>intro _|refine z2_Q9 ?_|fail);all_goals try (conv=>whnf)
  refine .mk [.fz 5] ?_
  (conv=>whnf)
  have e:i=m:=by omega
  subst e
  exact⟨(q,l),⟨fun h=>⟨(hq1 h).1,hl,(hq1 h).2⟩,hq2⟩,OI.refl _,Imp.refl _⟩
end Go.Proofs.YtbcjojomkibgeaaGreat
