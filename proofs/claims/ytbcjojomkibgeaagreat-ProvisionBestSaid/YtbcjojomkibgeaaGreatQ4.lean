/- Lemmas of this seat. Conditions: as stated. -/
import Derived.Test.YtbcjojomkibgeaaGreatQ3a
set_option linter.unusedVariables false
set_option linter.unusedSimpArgs false
set_option maxHeartbeats 2000000
set_option maxRecDepth 4000
namespace Go.Proofs.YtbcjojomkibgeaaGreat
open Go.Sx Go.Fq Go.Dt
def rdc (c:Nat→Int) (d:Int) (bs:Nat→Int) (f:Nat→Nat→Int):Nat→Nat→Int
 |0,k=>c k*d
 |i+1,k=>rdc c d bs f i k-c (bs i).toNat *f i k
structure PrA (F ov q:Prop) (c:Nat→Int) (d:Int) (bs:Nat→Int) (f:Nat→Nat→Int) (m j:Nat) (g:Nat→Int):Prop where
 hb:∀a,B62 (g a)
 z:∀a,j≤a→g a=0
 ex:¬q→¬ov∧∀a<j,g a=rdc c d bs f m a
 fit:F→q→ov
structure PrB (F ov q:Prop) (c:Nat→Int) (d:Int) (bs:Nat→Int) (f:Nat→Nat→Int) (m j i:Nat) (g:Nat→Int):Prop where
 hb:∀a,B62 (g a)
 z:∀a,j+1≤a→g a=0
 ex:¬q→¬ov∧(∀a<j,g a=rdc c d bs f m a)∧g j=rdc c d bs f i j
 fit:F→q→ov
theorem PrB.next {F ov q:Prop} {c:Nat→Int} {d:Int} {bs:Nat→Int} {f:Nat→Nat→Int} {m j:Nat} {g:Nat→Int} (h:PrB F ov q c d bs f m j m g):PrA F ov q c d bs f m (j+1) g:=by
 refine⟨h.hb,h.z,fun hq=>?_,h.fit⟩
 obtain⟨h1,h2,h3⟩:=h.ex hq
 refine⟨h1,fun a ha=>?_⟩
 by_cases e:a=j
 ·subst e;exact h3
 ·exact h2 a (by omega)
def PrF (c:Nat→Int) (d:Int) (bs:Nat→Int) (f:Nat→Nat→Int) (m w:Nat):Prop:=∀k<w,(∀i≤m,B62 (rdc c d bs f i k))∧∀i<m,B62 (c (bs i).toNat *f i k)
theorem PrA.first {ov q q':Prop} {c:Nat→Int} {d:Int} {bs:Nat→Int} {f:Nat→Nat→Int} {m w j:Nat} {g:Nat→Int} {v:Int} (h:PrA (PrF c d bs f m w) ov q c d bs f m j g) (hj:j<w) (k:Cal q q' (c j*d) v):
  PrB (PrF c d bs f m w) ov q' c d bs f m j 0 (up g j v):=by
 refine⟨fun a=>?_,fun a ha=>?_,fun hq=>?_,fun hF hq=>?_⟩
 ·unfold up;split
  ·exact k.bd
  ·exact h.hb a
 ·unfold up;rw [if_neg (by omega)];exact h.z a (by omega)
 ·obtain⟨h1,h2⟩:=k.ex hq
  obtain⟨h3,h4⟩:=h.ex h1
  refine⟨h3,fun a ha=>?_,?_⟩
  ·unfold up;rw [if_neg (by omega)];exact h4 a ha
  ·simp [up,rdc,h2]
 ·exact h.fit hF (k.fit ((hF j hj).1 0 (Nat.zero_le _)) hq)
theorem PrA.skip {F ov q:Prop} {c:Nat→Int} {d:Int} {bs:Nat→Int} {f:Nat→Nat→Int} {m j:Nat} {g:Nat→Int} (h:PrA F ov q c d bs f m j g) (hc:c j=0):PrB F ov q c d bs f m j 0 g:=
 ⟨h.hb,fun a ha=>h.z a (by omega),fun hq=>⟨(h.ex hq).1,(h.ex hq).2,by rw [h.z j (Nat.le_refl _)];simp [rdc,hc]⟩,h.fit⟩
theorem PrB.step {ov q q1 q2:Prop} {c:Nat→Int} {d:Int} {bs:Nat→Int} {f:Nat→Nat→Int} {m w j i:Nat} {g:Nat→Int} {u v:Int} (h:PrB (PrF c d bs f m w) ov q c d bs f m j i g) (hj:j<w) (hi:i<m)
  (k:Cal q q1 (c (bs i).toNat *f i j) u) (k2:Cal q1 q2 (g j-u) v):PrB (PrF c d bs f m w) ov q2 c d bs f m j (i+1) (up g j v):=by
 refine⟨fun a=>?_,fun a ha=>?_,fun hq=>?_,fun hF hq=>?_⟩
 ·unfold up;split
  ·exact k2.bd
  ·exact h.hb a
 ·unfold up;rw [if_neg (by omega)];exact h.z a ha
 ·obtain⟨a1,a2⟩:=k2.ex hq
  obtain⟨b1,b2⟩:=k.ex a1
  obtain⟨h3,h4,h5⟩:=h.ex b1
  refine⟨h3,fun a ha=>?_,?_⟩
  ·unfold up;rw [if_neg (by omega)];exact h4 a ha
  ·simp only [up,if_pos,rdc];rw [a2,h5,b2]
 ·by_cases hq1:q1
  ·exact h.fit hF (k.fit ((hF j hj).2 i hi) hq1)
  ·obtain⟨b1,b2⟩:=k.ex hq1
   obtain⟨h3,h4,h5⟩:=h.ex b1
   refine absurd (k2.fit ?_ hq) hq1
   rw [h5,b2]
   exact(hF j hj).1 (i+1) hi
theorem mts_take {N m w:Nat} {f:Nat→Nat→Int} (h:m≤N):(mts N w f).take m=mts m w f:=by
 unfold mts;rw [←List.map_take,List.take_range,Nat.min_eq_left h]
abbrev tab8 (N k w n m:Nat) (f:Nat→Nat→Int) (bs tu sl:Nat→Int) (d co:Int) (ov:Prop):List Chunk:=
 [.box [.vec 8,i64 d, .vec 2, .vec 3, .vec 4,i64 co,i64 n,i64 m, .bp ov], .dead, .vec 1 (vcs k bs), .vec 1 (vcs k tu), .vec 1 (vcs k sl), .dead, .dead, .dead, .mat 1 (mts N w f)]
theorem aP_Q4 {A B K:Prop} (k:K) (a:A:=by(simp only [zA,zT,zD,zC,zN,ints_len,zR,fr_len,rw_len,mts_len,vcs_len];omega)) (b:B:=by(simp only [zA,zT,zD,zC,zN,ints_len,zR,fr_len,rw_len,mts_len,vcs_len];omega)):(A∧B)∧K:=⟨⟨a,b⟩,k⟩
theorem z3_Q4 {G H:Prop} (k:H) (h:H→G:=by first|exact fun r=>aS r|exact fun r=>aG r|exact fun r=>aD r|exact fun r=>aH r|exact fun r=>aP_Q4 r|exact fun r=>aI r|exact fun r=>aJ r|exact fun r=>aW (.qs [0,1,2,3,4,5,6,7,8,9,10] (.l 11 [] (.qs [12] (.l 13 [] .nil .no)) .no)) r|exact fun r=>aW (.qs [0,1,2,3,4,5,6,7,8,9,10,11,12,13,14,15,16,17,18,19,20,21] (.l 22 [6] (.l 23 [] (.qs [24] (.l 25 [] .nil .no)) .no) .no)) r|exact fun r=>aW (.qs [0,1,2,3,4,5,6,7,8,9,10,11,12,14] (.l 13 [] (.l 15 [] (.l 16 [] (.qs [17,18] (.l 19 [] .nil .no)) .no) .no) (.l 15 [12,8,4] (.l 13 [] (.l 16 [] (.qs [17,18] (.l 19 [] .nil .no)) .no) .no) .no))) r):G:=h k
theorem z2_Q4 {G H:Prop} (k:H) (h:H→G:=by first|exact fun r=>aS r|exact fun r=>aG r|exact fun r=>aH r|exact fun r=>aP_Q4 r|exact fun r=>aI r|exact fun r=>aJ r|exact fun r=>aW (.qs [0,1,2,3,4,5,6,7,8,9,10] (.l 11 [] (.qs [12] (.l 13 [] .nil .no)) .no)) r|exact fun r=>aW (.qs [0,1,2,3,4,5,6,7,8,9,10,11,12,13,14,15,16,17,18,19,20,21] (.l 22 [6] (.l 23 [] (.qs [24] (.l 25 [] .nil .no)) .no) .no)) r):G:=h k
theorem z1_Q4 {G H:Prop} (k:H) (h:H→G:=by first|exact fun r=>aS r|exact fun r=>aG r|exact fun r=>aD r|exact fun r=>aH r|exact fun r=>aP_Q4 r|exact fun r=>aI r|exact fun r=>aJ r|exact fun r=>aW (.qs [0,1,2,3,4,5,6,7,8,9,10] (.l 11 [] (.qs [12] (.l 13 [] .nil .no)) .no)) r|exact fun r=>aW (.qs [0,1,2,3,4,5,6,7,8,9,10,11,12,13,14,15,16,17,18,19,20,21] (.l 22 [6] (.l 23 [] (.qs [24] (.l 25 [] .nil .no)) .no) .no)) r):G:=h k
theorem price_ok (N w n m:Nat) (f:Nat→Nat→Int) (bs tu sl:Nat→Int) (d co:Int) (ov:Prop) (c:Nat→Int) (hn:n≤100) (hm:m≤100) (hw:w=n+2*m+1) (hN:m≤N∧N≤m+1)
  (hc:∀k<n+2*m,B62 (c k)) (hcE:c (n+2*m)=0) (hd:B62 d) (hf:∀a<m,∀b<w,B62 (f a b)) (hbs:∀i<m,0≤bs i∧bs i<(n+2*m:Nat)):
  Ctr Tryz.prog 113 [.ptr 0 0, .psl 1 (vcs (n+2*m) c)] (tab N m w n m f bs tu sl d co ov) (fun r o=>∃x:Prop×(Nat→Int),PrA (PrF c d bs f m w) ov x.1 c d bs f m w x.2∧o=tab8 (m+1) m w n m (up2 f m x.2) bs tu sl d co x.1∧r= .tup []):=by
 refine Ctr.impO ?_
 refine fI 5 Tryz.func113 ?_
 have hvl:=fun w g=>vcs_len w g
 have cWd:=width_ok N m w n m f bs tu sl d co ov (by omega) (by omega)
 (repeat' (conv=>whnf);first|refine aC ?_ ?_<;>intro<;>try omega|refine z1_Q4 ?_|(refine aK [0,1,2,3,4] cWd ?_)|refine⟨w,w,by push_cast;omega,by push_cast;omega,Nat.le_refl _,⟨by simp only;omega,by omega⟩,?_⟩|fail);all_goals try (conv=>whnf)
 clear cWd
 refine LoopOb.mk (Y:=Nat×Prop×(Nat→Int)) (st:=fun y=>⟨[(14,i64 y.1),(13,i64 w),(4, .vec 5),(0, .ptr 0 0),(1, .psl 1 (vcs (n+2*m) c))],tab N m w n m f bs tu sl d co y.2.1++[.vec 1 (vcs w y.2.2)]⟩)
  (inv:=fun y=>y.1≤w∧PrA (PrF c d bs f m w) ov y.2.1 c d bs f m y.1 y.2.2) (fun y=>w-y.1) (0,ov,fun _=>0) [0,1,2,3,4,5] ⟨by simp,⟨fun _=>b62_0,fun _ _=>rfl,fun h=>⟨h,fun a ha=>absurd ha (by omega)⟩,fun _ h=>h⟩⟩ (by rw [List.length_replicate,←vcs_repl];(exact aL)) ?_
 rintro⟨j,q,g⟩ ⟨hj,hP⟩
 dsimp only at hj hP⊢
 (repeat' (conv=>whnf);first|refine z1_Q4 ?_|fail);all_goals try (conv=>whnf)
 refine CondOb.mk (fun hlt=>?_) (fun hlt=>?_)
 ·have hjw:j<w:=by omega
  have cWd:=width_ok N m w n m f bs tu sl d co q (by omega) (by omega)
  refine CutOb.split ?_
  (repeat' (conv=>whnf);first|refine aC ?_ ?_<;>intro<;>try omega|refine z2_Q4 ?_|fail);all_goals try (conv=>whnf)
  refine CutOb.cut (Y:=Prop×(Nat→Int)) (st:=fun y=>⟨[(5,i64 j),(14,i64 j),(13,i64 w),(4, .vec 5),(0, .ptr 0 0),(1, .psl 1 (vcs (n+2*m) c))],tab N m w n m f bs tu sl d co y.1++[.vec 1 (vcs w y.2)]⟩) (inv:=fun y=>PrB (PrF c d bs f m w) ov y.1 c d bs f m j 0 y.2) ?_ ?_
  ·(repeat' (conv=>whnf);first|refine⟨j,_,rfl,vcs_get (by omega),?_⟩|refine aC ?_ ?_<;>intro<;>try omega|refine z1_Q4 ?_|(refine aK [0,1,2,3,4] cWd ?_)|fail);all_goals try (conv=>whnf)
   ·have cM:=mul_ok N m w n m f bs tu sl d co q (c j) d (hc j (by omega)) hd
    refine aM [0,1,2,3,4] cM rfl rfl ?_
    rintro _ _ ⟨⟨q1,v⟩,hz,rfl,rfl⟩
    dsimp only at hz⊢
    have hB:=hP.first hjw hz
    (repeat' (conv=>whnf);first|refine⟨_,vcs_get (by omega),?_⟩|refine⟨j,rfl,by rw [hvl];omega,?_⟩|refine aC ?_ ?_<;>intro<;>try omega|refine z1_Q4 ?_|fail);all_goals try (conv=>whnf)
    exact⟨(q1,up g j v),[0,1,2,3,4,5],hB,by dsimp only;rw [←vcs_set];(exact aL)⟩
   ·have e:j=n+2*m:=by omega
    exact⟨(q,g),[0,1,2,3,4,5],hP.skip (by rw [e];exact hcE),by(exact aL)⟩
  rintro⟨q0,g0⟩ hB0
  dsimp only at hB0⊢
  (repeat' (conv=>whnf);first|refine aC ?_ ?_<;>intro<;>try omega|refine z1_Q4 ?_|fail);all_goals try (conv=>whnf)
  refine LoopOb.mk (Y:=Nat×Prop×(Nat→Int)) (st:=fun y=>⟨[(39,i64 y.1),(38,i64 m),(37, .vec 2),(5,i64 j),(14,i64 j),(13,i64 w),(4, .vec 5),(0, .ptr 0 0),(1, .psl 1 (vcs (n+2*m) c))],tab N m w n m f bs tu sl d co y.2.1++[.vec 1 (vcs w y.2.2)]⟩)
   (inv:=fun y=>y.1≤m∧PrB (PrF c d bs f m w) ov y.2.1 c d bs f m j y.1 y.2.2) (fun y=>m-y.1) (0,q0,g0) [0,1,2,3,4,5] ⟨by simp,hB0⟩ (by rw [hvl];(exact aL)) ?_
  rintro⟨i,q1,g1⟩ ⟨hi,hB1⟩
  dsimp only at hi hB1⊢
  (repeat' (conv=>whnf);first|refine z1_Q4 ?_|fail);all_goals try (conv=>whnf)
  refine CondOb.mk (fun hli=>?_) (fun hli=>?_)
  ·have him:i<m:=by omega
   have hbi:=hbs i him
   obtain⟨b,hb⟩:∃b:Nat,bs i=b:=⟨(bs i).toNat,by omega⟩
   have hgb:(vcs m bs)[i]? =some [i64 b]:=by rw [vcs_get him,hb]
   have hgc:(vcs (n+2*m) c)[b]? =some [i64 (c b)]:=vcs_get (by omega)
   have hgm:(mts N w f)[i]? =some (vcs w (f i)):=mts_get (by omega)
   have cM:=mul_ok N m w n m f bs tu sl d co q1 (c b) (f i j) (hc b (by omega)) (hf i him j hjw)
   have hst:=fun q2 q3 u v=>PrB.step (q1:=q2) (q2:=q3) (u:=u) (v:=v) hB1 hjw him
   rw [show(bs i).toNat =b by omega]at hst
   (repeat' (conv=>whnf);first|refine⟨_,vcs_get (w:=w) (g:=g1) (by omega),?_⟩|refine⟨j,rfl,by rw [hvl];omega,?_⟩|refine⟨b,_,rfl,hgc,?_⟩|refine⟨_,hgb,?_⟩|refine⟨i,by omega,by rw [hvl];omega,?_⟩|refine aC ?_ ?_<;>intro<;>try omega|refine z1_Q4 ?_|refine⟨_,rfl,(by simp only [mts_len,vcs_len];omega),?_⟩|refine And.intro (by simp only [mts_len,vcs_len];omega) ?_|refine⟨_,_,rfl,mts_get (by omega),(by simp only [vcs_len];omega),?_⟩|refine⟨_,_,mts_get (by omega),vcs_get (by omega),?_⟩|refine⟨_,mts_get (by omega),?_⟩|fail);all_goals try (conv=>whnf)
   refine aM [0,1,2,3,4] cM rfl rfl ?_
   rintro _ _ ⟨⟨q2,u⟩,hz,rfl,rfl⟩
   dsimp only at hz⊢
   have cS:=sub_ok N m w n m f bs tu sl d co q2 (g1 j) u (hB1.hb j) hz.bd
   (repeat' (conv=>whnf);first|refine aC ?_ ?_<;>intro<;>try omega|refine z1_Q4 ?_|fail);all_goals try (conv=>whnf)
   refine aM [0,1,2,3,4] cS rfl rfl ?_
   rintro _ _ ⟨⟨q3,v⟩,hz2,rfl,rfl⟩
   dsimp only at hz2⊢
   have hB2:=hst q2 q3 u v hz hz2
   (repeat' (conv=>whnf);first|refine⟨_,vcs_get (by omega),?_⟩|refine⟨j,rfl,by rw [hvl];omega,?_⟩|refine aC ?_ ?_<;>intro<;>try omega|refine z1_Q4 ?_|fail);all_goals try (conv=>whnf)
   exact⟨(i+1,q3,up g1 j v),[0,1,2,3,4,5],⟨by dsimp only;omega,hB2⟩,by dsimp only;omega,by dsimp only;rw [←vcs_set];(exact aL)⟩
  ·have e:i=m:=by omega
   subst e
   (repeat' (conv=>whnf);first|refine aC ?_ ?_<;>intro<;>try omega|refine z1_Q4 ?_|fail);all_goals try (conv=>whnf)
   exact⟨(j+1,q1,g1),[0,1,2,3,4,5],⟨by dsimp only;omega,hB1.next⟩,by dsimp only;omega,by(exact aL)⟩
 ·have e:j=w:=by omega
  subst e
  (repeat' (conv=>whnf);first|refine And.intro ⟨Nat.le_refl _,by simp only [mts_len];omega,rfl⟩ ?_|refine⟨m,rfl,?_⟩|refine aC ?_ ?_<;>intro<;>try omega|refine z3_Q4 ?_|refine And.intro ?_ ?_|refine And.intro ?_ ?_|fail);all_goals try (conv=>whnf)
  all_goals
   refine⟨(q,g),hP,?_,Imp.refl _⟩
   dsimp only [tab8]
   rw [←mts_app,←mts_take hN.1]
   exact OI.refl _
end Go.Proofs.YtbcjojomkibgeaaGreat
