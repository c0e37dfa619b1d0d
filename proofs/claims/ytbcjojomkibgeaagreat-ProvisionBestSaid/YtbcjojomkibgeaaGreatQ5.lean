/- Lemmas of this seat. Conditions: as stated. -/
import Derived.Test.YtbcjojomkibgeaaGreatQ3a
set_option linter.unusedVariables false
set_option linter.unusedSimpArgs false
set_option maxHeartbeats 2000000
set_option maxRecDepth 4000
namespace Go.Proofs.YtbcjojomkibgeaaGreat
open Go.Sx Go.Fq Go.Dt
def PvF (f:Nat→Nat→Int) (m w r c:Nat):Prop:=∀a<m+1,∀b<w,B62 (f a b*f r c)∧B62 (f a c*f r b)∧B62 (f a b*f r c-f a c*f r b)
def ng0 (f:Nat→Nat→Int) (r c a b:Nat):Int:=if a=r then ngv (f r c) (f r) b else f a b
structure PvC (f:Nat→Nat→Int) (m w r c:Nat) (d:Int) (ov:Prop) (i:Nat) (q:Prop) (g:Nat→Nat→Int):Prop where
 hb:∀a<m+1,∀b<w,B62 (g a b)
 rr:∀b<w,g r b=ng0 f r c r b
 ex:¬q→¬ov∧∀a<m+1,∀b<w,g a b=nw (ng0 f r c) r c d i a b
 fit:PvF f m w r c→q→ov
structure PvD (f:Nat→Nat→Int) (m w r c:Nat) (d:Int) (ov:Prop) (i k:Nat) (q:Prop) (g:Nat→Nat→Int):Prop where
 hb:∀a<m+1,∀b<w,B62 (g a b)
 rr:∀b<w,g r b=ng0 f r c r b
 ex:¬q→¬ov∧∀a<m+1,∀b<w,g a b=nwk (ng0 f r c) r c d i k a b
 fit:PvF f m w r c→q→ov
theorem ng0_r {f:Nat→Nat→Int} {r c b:Nat}:ng0 f r c r b=(if f r c<0 then-(f r b)else f r b):=by
 unfold ng0 ngv;rw [if_pos rfl];split<;>omega
theorem ng0_ne {f:Nat→Nat→Int} {r c a b:Nat} (h:a≠r):ng0 f r c a b=f a b:=by unfold ng0;rw [if_neg h]
theorem b62_neg {x:Int} (h:B62 x):B62 (-x):=by unfold B62 at*;omega
theorem pvF_n {f:Nat→Nat→Int} {m w r c:Nat} (h:PvF f m w r c) {a b:Nat} (ha:a<m+1) (hb:b<w) (hn:a≠r):
  B62 (ng0 f r c a b*ng0 f r c r c)∧B62 (ng0 f r c a c*ng0 f r c r b)∧B62 (ng0 f r c a b*ng0 f r c r c-ng0 f r c a c*ng0 f r c r b):=by
 obtain⟨h1,h2,h3⟩:=h a ha b hb
 rw [ng0_r,ng0_r,ng0_ne hn,ng0_ne hn]
 split
 ·rw [Int.mul_neg,Int.mul_neg]
  refine⟨b62_neg h1,b62_neg h2,?_⟩
  have:=b62_neg h3
  rw [show-(f a b*f r c-f a c*f r b)= -(f a b*f r c)- -(f a c*f r b)by omega]at this
  exact this
 ·exact⟨h1,h2,h3⟩
theorem pv_end {f:Nat→Nat→Int} {m r c a b:Nat} {d:Int} (ha:a<m+1):nw (ng0 f r c) r c d (m+1) a b=pv f r c d a b:=by
 unfold nw pv
 by_cases hr:a=r
 ·subst hr
  rw [if_neg (by simp),ng0_r];simp
 ·rw [if_pos ⟨ha,hr⟩]
  unfold nw1
  rw [ng0_r,ng0_r,ng0_ne hr,ng0_ne hr]
  simp only [if_neg hr]
  split
  ·rw [Int.mul_neg,Int.mul_neg,show-(f a b*f r c)- -(f a c*f r b)= -(f a b*f r c-f a c*f r b)by omega,Int.neg_tdiv]
  ·rfl
theorem tdiv_b62 {x d:Int} (hx:B62 x) (hd:1≤d):B62 (x.tdiv d):=by
 have e:(x.tdiv d).natAbs =x.natAbs/d.natAbs:=Int.natAbs_tdiv x d
 have:=Nat.div_le_self x.natAbs d.natAbs
 unfold B62 at*;omega
theorem PvC.begin {f:Nat→Nat→Int} {m w r c i:Nat} {d:Int} {ov q:Prop} {g:Nat→Nat→Int} (h:PvC f m w r c d ov i q g):PvD f m w r c d ov i 0 q g:=
 ⟨h.hb,h.rr,fun hq=>⟨(h.ex hq).1,fun a ha b hb=>by rw [(h.ex hq).2 a ha b hb];simp [nwk]⟩,h.fit⟩
theorem PvC.skip {f:Nat→Nat→Int} {m w r c:Nat} {d:Int} {ov q:Prop} {g:Nat→Nat→Int} (h:PvC f m w r c d ov r q g):PvC f m w r c d ov (r+1) q g:=
 ⟨h.hb,h.rr,fun hq=>⟨(h.ex hq).1,fun a ha b hb=>by
  rw [(h.ex hq).2 a ha b hb];unfold nw
  by_cases e:a=r
  ·rw [if_neg (fun x=>x.2 e),if_neg (fun x=>x.2 e)]
  ·simp only [show(a<r∧a≠r)↔(a<r+1∧a≠r)by omega]⟩,h.fit⟩
theorem PvD.done {f:Nat→Nat→Int} {m w r c i:Nat} {d:Int} {ov q:Prop} {g:Nat→Nat→Int} (h:PvD f m w r c d ov i w q g):PvC f m w r c d ov (i+1) q g:=
 ⟨h.hb,h.rr,fun hq=>⟨(h.ex hq).1,fun a ha b hb=>by
  rw [(h.ex hq).2 a ha b hb];unfold nwk nw
  by_cases e:a=i
  ·by_cases e2:a=r
   ·rw [if_neg (fun x=>x.2.2 e2),if_neg (fun x=>x.2 e2),if_neg (fun x=>x.2 e2)]
   ·rw [if_pos ⟨e,hb,e2⟩,if_pos ⟨by omega,e2⟩]
  ·rw [if_neg (fun x=>e x.1)]
   simp only [show(a<i∧a≠r)↔(a<i+1∧a≠r)by omega]⟩,h.fit⟩
theorem PvD.step {f:Nat→Nat→Int} {m w r c i k:Nat} {d:Int} {ov q q1 q2 q3:Prop} {g:Nat→Nat→Int} {p fv u1 u2 v:Int} (h:PvD f m w r c d ov i k q g) (hi:i<m+1) (hn:i≠r) (hk:k<w) (hr:r<m+1) (hc:c<w) (hd:1≤d)
  (hp:p=ng0 f r c r c) (hf:¬q→fv=ng0 f r c i c) (k1:Cal q q1 (g i k*p) u1) (k2:Cal q1 q2 (fv*g r k) u2) (k3:Cal q2 q3 (u1-u2) v):PvD f m w r c d ov i (k+1) q3 (up2 g i (up (g i) k (v.tdiv d))):=by
 have hgk:¬q→g i k=ng0 f r c i k:=fun hq=>by
  rw [(h.ex hq).2 i hi k hk];unfold nwk nw;rw [if_neg (by omega),if_neg (by omega)]
 refine⟨fun a ha b hb=>?_,fun b hb=>?_,fun hq=>?_,fun hF hq=>?_⟩
 ·unfold up2;split
  ·unfold up;split
   ·exact tdiv_b62 k3.bd hd
   ·exact h.hb i hi b hb
  ·exact h.hb a ha b hb
 ·unfold up2;rw [if_neg (Ne.symm hn)];exact h.rr b hb
 ·obtain⟨a1,a2⟩:=k3.ex hq
  obtain⟨b1,b2⟩:=k2.ex a1
  obtain⟨c1,c2⟩:=k1.ex b1
  obtain⟨h1,h2⟩:=h.ex c1
  refine⟨h1,fun a ha b hb=>?_⟩
  have e1:=hgk c1
  have ev:v.tdiv d=nw1 (ng0 f r c) r c d i k:=by rw [a2,b2,c2,e1,hf c1,h.rr k hk,hp];rfl
  unfold up2
  split
  ·rename_i ea
   unfold up
   split
   ·rename_i eb;rw [ev,ea,eb];unfold nwk;rw [if_pos ⟨rfl,by omega,hn⟩]
   ·rename_i eb
    rw [h2 i hi b hb,ea];unfold nwk
    simp only [show b<k↔b<k+1 by omega]
  ·rename_i ea
   rw [h2 a ha b hb];unfold nwk;rw [if_neg (fun x=>ea x.1),if_neg (fun x=>ea x.1)]
 ·obtain⟨f1,f2,f3⟩:=pvF_n hF hi hk hn
  by_cases hq0:q
  ·exact h.fit hF hq0
  ·have e1:=hgk hq0
   have e2:=hf hq0
   have hq1:¬q1:=fun x=>hq0 (k1.fit (by rw [e1,hp];exact f1) x)
   have hq2:¬q2:=fun x=>hq1 (k2.fit (by rw [e2,h.rr k hk];exact f2) x)
   exact absurd (k3.fit (by rw [(k1.ex hq1).2,(k2.ex hq2).2,e1,e2,h.rr k hk,hp];exact f3) hq) hq2
theorem mts_congr {N w:Nat} {f g:Nat→Nat→Int} (h:∀a<N,∀b<w,f a b=g a b):mts N w f=mts N w g:=by
 unfold mts;apply List.map_congr_left;intro a ha;exact vcs_congr fun b hb=>h a (by simpa using ha) b hb
theorem aP_Q5 {A B K:Prop} (k:K) (a:A:=by(simp only [zA,zT,zD,zC,zN,ints_len,zR,fr_len,rw_len,mts_len,vcs_len];omega)) (b:B:=by(simp only [zA,zT,zD,zC,zN,ints_len,zR,fr_len,rw_len,mts_len,vcs_len];omega)):(A∧B)∧K:=⟨⟨a,b⟩,k⟩
theorem z2_Q5 {G H:Prop} (k:H) (h:H→G:=by first|exact fun r=>aS r|exact fun r=>aG r|exact fun r=>aD r|exact fun r=>aH r|exact fun r=>aP_Q5 r|exact fun r=>aI r|exact fun r=>aJ r|exact fun r=>aW (.qs [0,1,2,3,4,5,6,7,8,9,10,11,12,13,14,15,16,17,18,19] (.l 20 [] .nil .no)) r|exact fun r=>aW (.qs [0,1,2,3,4,5,6,7,8,9,10,11,12,13,14,15,16,17,18,19,20,22,23,24,25,26,27,28,29,30,31,32,33,36,37,38,39] (.l 21 [39,33,30,27,6,3] (.l 34 [39,6,3] (.l 35 [39,6,3] (.qs [40,41] (.l 42 [] .nil .no)) .no) .no) .no)) r):G:=h k
theorem z1_Q5 {G H:Prop} (k:H) (h:H→G:=by first|exact fun r=>aS r|exact fun r=>aG r|exact fun r=>aH r|exact fun r=>aP_Q5 r|exact fun r=>aI r|exact fun r=>aJ r|exact fun r=>aW (.qs [0,1,2,3,4,5,6,7,8,9,10,11,12,13,14,15,16,17,18,19] (.l 20 [] .nil .no)) r|exact fun r=>aW (.qs [0,1,2,3,4,5,6,7,8,9,10,11,12,13,14,15,16,17,18,19,20,22,23,24,25,26,27,28,29,30,31,32,33,36,37,38,39] (.l 21 [39,33,30,27,6,3] (.l 34 [39,6,3] (.l 35 [39,6,3] (.qs [40,41] (.l 42 [] .nil .no)) .no) .no) .no)) r):G:=h k
theorem pivotS_ok (w n m:Nat) (f:Nat→Nat→Int) (bs tu sl:Nat→Int) (d co:Int) (ov:Prop) (r c:Nat) (hm:m≤100) (hw:w≤1000) (hr:r<m) (hc:c<w) (hd:1≤d∧B62 d) (hf:∀a<m+1,∀b<w,B62 (f a b)) (hp:f r c≠0):
  Ctr Tryz.prog 140 [.ptr 0 0,i64 r,i64 c] (tab (m+1) m w n m f bs tu sl d co ov) (fun z o=>∃x:Prop×(Nat→Nat→Int),PvC f m w r c d ov (m+1) x.1 x.2∧o=tab (m+1) m w n m x.2 (up bs r c) tu sl (f r c).natAbs co x.1∧z= .tup []):=by
 refine Ctr.impO ?_
 refine fI 5 Tryz.func140 ?_
 have hml:=fun f=>mts_len (m+1) w f
 have hvl:=fun w g=>vcs_len w g
 (repeat' (conv=>whnf);first|refine aC ?_ ?_<;>intro<;>try omega|refine z1_Q5 ?_|fail);all_goals try (conv=>whnf)
 refine CutOb.cut (Y:=Unit) (st:=fun _=>⟨[(0, .ptr 0 0),(1,i64 r),(2,i64 c)],tab (m+1) m w n m (ng0 f r c) bs tu sl d co ov⟩) (inv:=fun _=>True) ?_ ?_
 ·(repeat' (conv=>whnf);first|refine aC ?_ ?_<;>intro<;>try omega|refine z2_Q5 ?_|refine⟨_,rfl,(by simp only [mts_len,vcs_len];omega),?_⟩|refine And.intro (by simp only [mts_len,vcs_len];omega) ?_|refine⟨_,_,rfl,mts_get (by omega),(by simp only [vcs_len];omega),?_⟩|refine⟨_,_,mts_get (by omega),vcs_get (by omega),?_⟩|refine⟨_,mts_get (by omega),?_⟩|fail);all_goals try (conv=>whnf)
  ·refine LoopOb.mk (Y:=Nat) (st:=fun j=>⟨[(30,i64 j),(29,i64 w),(0, .ptr 0 0),(1,i64 r),(2,i64 c)],tab (m+1) m w n m (up2 f r (ngr (f r) j)) bs tu sl d co ov⟩) (inv:=fun j=>j≤w) (fun j=>w-j) 0 [0,1,2,3,4] (by omega) (by
    have e0:up2 f r (ngr (f r) 0)=f:=by
     funext a b;unfold up2 ngr;split
     ·rename_i e;rw [if_neg (by omega),e]
     ·rfl
    rw [hvl,e0];(exact aL)) ?_
   intro j hj
   have hjm:=mts_len (m+1) w (up2 f r (ngr (f r) j))
   (repeat' (conv=>whnf);first|refine z2_Q5 ?_|fail);all_goals try (conv=>whnf)
   refine CondOb.mk (fun hlj=>?_) (fun hlj=>?_)
   ·have hb:B62 (up2 f r (ngr (f r) j) r j):=by
     have:=hf r (by omega) j (by omega)
     unfold up2 ngr;rw [if_pos rfl,if_neg (by omega)];exact this
    have hst:up2 (up2 f r (ngr (f r) j)) r (up (up2 f r (ngr (f r) j) r) j (0-up2 f r (ngr (f r) j) r j))=up2 f r (ngr (f r) (j+1)):=by
     have e1:up2 f r (ngr (f r) j) r=ngr (f r) j:=by funext b;simp [up2]
     rw [e1,ngr_step]
     funext a b;unfold up2;split<;>rfl
    generalize up2 f r (ngr (f r) j)=g at*
    (repeat' (conv=>whnf);first|refine aC ?_ ?_<;>intro<;>try omega|refine z2_Q5 ?_|refine⟨_,rfl,(by simp only [mts_len,vcs_len];omega),?_⟩|refine And.intro (by simp only [mts_len,vcs_len];omega) ?_|refine⟨_,_,rfl,mts_get (by omega),(by simp only [vcs_len];omega),?_⟩|refine⟨_,_,mts_get (by omega),vcs_get (by omega),?_⟩|refine⟨_,mts_get (by omega),?_⟩|fail);all_goals try (conv=>whnf)
    exact⟨j+1,[0,1,2,3,4],by omega,by omega,by dsimp only [tab];rw [vcs_set,mts_set,hst];(exact aL)⟩
   ·have e:j=w:=by omega
    subst e
    have e1:mts (m+1) j (up2 f r (ngr (f r) j))=mts (m+1) j (ng0 f r c):=mts_congr fun a _ b hb=>by
     have h0:f r c<0:=by assumption
     unfold up2 ngr ng0 ngv
     simp only [hb,h0,if_true]
    (repeat' (conv=>whnf);first|refine aC ?_ ?_<;>intro<;>try omega|refine z2_Q5 ?_|fail);all_goals try (conv=>whnf)
    exact⟨(),[0,1,2,3,4],trivial,by dsimp only [tab];rw [←e1];(exact aL)⟩
  ·have e1:ng0 f r c=f:=by
    have h0:¬f r c<0:=by assumption
    funext a b
    by_cases e:a=r
    ·subst e;simp [ng0,ngv,h0]
    ·simp [ng0,e]
   exact⟨(),[0,1,2,3,4],trivial,by rw [e1];(exact aL)⟩
 rintro _ _
 have hg0:∀a<m+1,∀b<w,B62 (ng0 f r c a b):=fun a ha b hb=>by
  unfold ng0;split
  ·unfold ngv
   have:=hf r (by omega) b hb
   split
   ·unfold B62 at*;omega
   ·exact this
  ·exact hf a ha b hb
 have hpe:ng0 f r c r c=((f r c).natAbs :Int):=by rw [ng0_r];split<;>omega
 have hP0:PvC f m w r c d ov 0 ov (ng0 f r c):=⟨hg0,fun _ _=>rfl,fun h=>⟨h,fun a _ b _=>by simp [nw]⟩,fun _ h=>h⟩
 have hpb:=hg0 r (by omega) c hc
 (repeat' (conv=>whnf);first|refine aC ?_ ?_<;>intro<;>try omega|refine z2_Q5 ?_|refine⟨_,rfl,(by simp only [mts_len,vcs_len];omega),?_⟩|refine And.intro (by simp only [mts_len,vcs_len];omega) ?_|refine⟨_,_,rfl,mts_get (by omega),(by simp only [vcs_len];omega),?_⟩|refine⟨_,_,mts_get (by omega),vcs_get (by omega),?_⟩|refine⟨_,mts_get (by omega),?_⟩|fail);all_goals try (conv=>whnf)
 rw [hpe]
 refine LoopOb.mk (Y:=Nat×Prop×(Nat→Nat→Int)) (st:=fun y=>⟨[(69,i64 y.1),(68,i64 (m+1:Nat)),(7,i64 (f r c).natAbs),(0, .ptr 0 0),(1,i64 r),(2,i64 c)],tab (m+1) m w n m y.2.2 bs tu sl d co y.2.1⟩)
  (inv:=fun y=>y.1≤m+1∧PvC f m w r c d ov y.1 y.2.1 y.2.2) (fun y=>m+1-y.1) (0,ov,ng0 f r c) [0,1,2,3,4] ⟨by simp,hP0⟩ (by rw [hml];(exact aL)) ?_
 rintro⟨i,q,g⟩ ⟨hi,hP⟩
 dsimp only at hi hP⊢
 (repeat' (conv=>whnf);first|refine z2_Q5 ?_|fail);all_goals try (conv=>whnf)
 refine CondOb.mk (fun hlt=>?_) (fun hlt=>?_)
 ·have him:i<m+1:=by omega
  have hgl:=mts_len (m+1) w g
  (repeat' (conv=>whnf);first|refine aC ?_ ?_<;>intro<;>try omega|refine z2_Q5 ?_|refine⟨_,rfl,(by simp only [mts_len,vcs_len];omega),?_⟩|refine And.intro (by simp only [mts_len,vcs_len];omega) ?_|refine⟨_,_,rfl,mts_get (by omega),(by simp only [vcs_len];omega),?_⟩|refine⟨_,_,mts_get (by omega),vcs_get (by omega),?_⟩|refine⟨_,mts_get (by omega),?_⟩|fail);all_goals try (conv=>whnf)
  ·have e:i=r:=by omega
   subst e
   exact⟨(i+1,q,g),[0,1,2,3,4],⟨by dsimp only;omega,hP.skip⟩,by dsimp only;omega,by(exact aL)⟩
  have hir:i≠r:=by omega
  have hfv:¬q→g i c=ng0 f r c i c:=fun hq=>by rw [(hP.ex hq).2 i him c hc];unfold nw;rw [if_neg (by omega)]
  have hfb:=hP.hb i him c hc
  generalize g i c=fv at*
  have hwl:=vcs_len w (g i)
  rw [hwl]
  refine LoopOb.mk (Y:=Nat×Prop×(Nat→Nat→Int)) (st:=fun y=>⟨[(93,i64 y.1),(92,i64 w),(9,i64 fv),(8,i64 i),(69,i64 i),(68,i64 (m+1:Nat)),(7,i64 (f r c).natAbs),(0, .ptr 0 0),(1,i64 r),(2,i64 c)],tab (m+1) m w n m y.2.2 bs tu sl d co y.2.1⟩)
   (inv:=fun y=>y.1≤w∧PvD f m w r c d ov i y.1 y.2.1 y.2.2∧(¬y.2.1→fv=ng0 f r c i c)) (fun y=>w-y.1) (0,q,g) [0,1,2,3,4] ⟨by simp,hP.begin,hfv⟩ (by(exact aL)) ?_
  clear hwl hfv hP hgl
  rintro⟨k,q,g⟩ ⟨hk,hD,hfv⟩
  dsimp only at hk hD hfv⊢
  have hgl:=mts_len (m+1) w g
  (repeat' (conv=>whnf);first|refine z2_Q5 ?_|fail);all_goals try (conv=>whnf)
  refine CondOb.mk (fun hlk=>?_) (fun hlk=>?_)
  ·have hkw:k<w:=by omega
   have b1:=hD.hb i him k hkw
   have b2:=hD.hb r (by omega) k hkw
   have hst:=fun q1 q2 q3 u1 u2 v=>PvD.step (q1:=q1) (q2:=q2) (q3:=q3) (p:=(f r c).natAbs) (fv:=fv) (u1:=u1) (u2:=u2) (v:=v) hD him hir hkw (by omega) hc hd.1 hpe.symm hfv
   have cM1:=mul_ok (m+1) m w n m g bs tu sl d co q (g i k) (f r c).natAbs b1 (by rw [←hpe];exact hpb)
   (repeat' (conv=>whnf);first|refine DrawOb.re [] (.qs [0,1,2,3,4,5,6,7,8,9,10,11,12,13,14,15,16,17,18,19,20,22,23,24,25,26,27,28,29,30,31,32,33,36,37,38,39] (.l 21 [39,33,30,27,6,3] (.l 34 [39,6,3] (.l 35 [39,6,3] (.qs [40,41] (.l 42 [] .nil .no)) .no) .no) .no)) (by decide+kernel) ?_|refine aC ?_ ?_<;>intro<;>try omega|refine z2_Q5 ?_|refine And.intro ⟨rfl,rfl⟩ ?_|refine⟨_,rfl,(by simp only [mts_len,vcs_len];omega),?_⟩|refine And.intro (by simp only [mts_len,vcs_len];omega) ?_|refine⟨_,_,rfl,mts_get (by omega),(by simp only [vcs_len];omega),?_⟩|refine⟨_,_,mts_get (by omega),vcs_get (by omega),?_⟩|refine⟨_,mts_get (by omega),?_⟩|fail);all_goals try (conv=>whnf)
   refine aM [0,1,2,3,4] cM1 rfl rfl ?_
   rintro _ _ ⟨⟨q1,u1⟩,z1,rfl,rfl⟩
   dsimp only at z1⊢
   have cM2:=mul_ok (m+1) m w n m g bs tu sl d co q1 fv (g r k) hfb b2
   (repeat' (conv=>whnf);first|refine aC ?_ ?_<;>intro<;>try omega|refine z2_Q5 ?_|refine And.intro ⟨rfl,rfl⟩ ?_|refine⟨_,rfl,(by simp only [mts_len,vcs_len];omega),?_⟩|refine And.intro (by simp only [mts_len,vcs_len];omega) ?_|refine⟨_,_,rfl,mts_get (by omega),(by simp only [vcs_len];omega),?_⟩|refine⟨_,_,mts_get (by omega),vcs_get (by omega),?_⟩|refine⟨_,mts_get (by omega),?_⟩|fail);all_goals try (conv=>whnf)
   refine aM [0,1,2,3,4] cM2 rfl rfl ?_
   rintro _ _ ⟨⟨q2,u2⟩,z2,rfl,rfl⟩
   dsimp only at z2⊢
   have cS:=sub_ok (m+1) m w n m g bs tu sl d co q2 u1 u2 z1.bd z2.bd
   (repeat' (conv=>whnf);first|refine aC ?_ ?_<;>intro<;>try omega|refine z2_Q5 ?_|refine And.intro ⟨rfl,rfl⟩ ?_|refine⟨_,rfl,(by simp only [mts_len,vcs_len];omega),?_⟩|refine And.intro (by simp only [mts_len,vcs_len];omega) ?_|refine⟨_,_,rfl,mts_get (by omega),(by simp only [vcs_len];omega),?_⟩|refine⟨_,_,mts_get (by omega),vcs_get (by omega),?_⟩|refine⟨_,mts_get (by omega),?_⟩|fail);all_goals try (conv=>whnf)
   refine aM [0,1,2,3,4] cS rfl rfl ?_
   rintro _ _ ⟨⟨q3,v⟩,z3,rfl,rfl⟩
   dsimp only at z3⊢
   have hD2:=hst q1 q2 q3 u1 u2 v z1 z2 z3
   have hvd:=tdiv_b62 z3.bd hd.1
   have hd1:=hd.1
   have hvd2: -4611686018427387904≤v.tdiv d∧v.tdiv d≤4611686018427387904:=hvd
   (repeat' (conv=>whnf);first|refine aC ?_ ?_<;>intro<;>try omega|refine z2_Q5 ?_|refine And.intro ⟨rfl,rfl⟩ ?_|refine And.intro (by omega) ?_|refine⟨_,rfl,(by simp only [mts_len,vcs_len];omega),?_⟩|refine And.intro (by simp only [mts_len,vcs_len];omega) ?_|refine⟨_,_,rfl,mts_get (by omega),(by simp only [vcs_len];omega),?_⟩|refine⟨_,_,mts_get (by omega),vcs_get (by omega),?_⟩|refine⟨_,mts_get (by omega),?_⟩|fail);all_goals try (conv=>whnf)
   exact⟨(k+1,q3,up2 g i (up (g i) k (v.tdiv d))),[0,1,2,3,4],⟨by dsimp only;omega,hD2,fun hq=>(by
    have a1:=(z3.ex hq).1
    have b1:=(z2.ex a1).1
    exact hfv (z1.ex b1).1)⟩,by dsimp only;omega,by dsimp only [tab];rw [vcs_set,mts_set];(exact aL)⟩
  ·have e:k=w:=by omega
   subst e
   (repeat' (conv=>whnf);first|refine aC ?_ ?_<;>intro<;>try omega|refine z2_Q5 ?_|fail);all_goals try (conv=>whnf)
   exact⟨(i+1,q,g),[0,1,2,3,4],⟨by dsimp only;omega,hD.done⟩,by dsimp only;omega,by(exact aL)⟩
 ·have e:i=m+1:=by omega
  subst e
  (repeat' (conv=>whnf);first|refine aC ?_ ?_<;>intro<;>try omega|refine z2_Q5 ?_|refine⟨_,rfl,(by simp only [vcs_len];omega),?_⟩|refine⟨_,vcs_get (by omega),?_⟩|fail);all_goals try (conv=>whnf)
  exact⟨(q,g),hP,by rw [vcs_set];exact OI.refl _,Imp.refl _⟩
end Go.Proofs.YtbcjojomkibgeaaGreat
