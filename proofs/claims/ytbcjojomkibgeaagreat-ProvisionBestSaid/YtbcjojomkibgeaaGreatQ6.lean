/- Lemmas of this seat. Conditions: as stated. -/
import Derived.Test.YtbcjojomkibgeaaGreatQ5
set_option linter.unusedVariables false
set_option linter.unusedSimpArgs false
set_option maxHeartbeats 2000000
set_option maxRecDepth 4000
namespace Go.Proofs.YtbcjojomkibgeaaGreat
open Go.Sx Go.Fq Go.Dt
def Rl (f:Nat→Nat→Int) (bs:Nat→Int) (E c r j:Nat):Prop:=f r E*f j c<f j E*f r c∨(f r E*f j c=f j E*f r c∧bs r≤bs j)
theorem rl_self {f:Nat→Nat→Int} {bs:Nat→Int} {E c r:Nat}:Rl f bs E c r r:= .inr ⟨rfl,Int.le_refl _⟩
theorem ratioS {a b c d e g:Int} (hb:0<b) (h1:a*d<c*b) (h2:c*g≤e*d) (hd:0<d) (hg:0<g):a*g<e*b:=by
 have h3:a*g*d<e*b*d:=by
  calc a*g*d=a*d*g:=by rw [Int.mul_right_comm]
   _<c*b*g:=Int.mul_lt_mul_of_pos_right h1 hg
   _=c*g*b:=by rw [Int.mul_right_comm]
   _≤e*d*b:=Int.mul_le_mul_of_nonneg_right h2 (by omega)
   _=e*b*d:=by rw [Int.mul_right_comm]
 exact Int.lt_of_mul_lt_mul_right h3 (by omega)
theorem ratioS' {a b c d e g:Int} (hb:0<b) (h1:a*d≤c*b) (h2:c*g<e*d) (hd:0<d) (hg:0<g):a*g<e*b:=by
 have h3:a*g*d<e*b*d:=by
  calc a*g*d=a*d*g:=by rw [Int.mul_right_comm]
   _≤c*b*g:=Int.mul_le_mul_of_nonneg_right h1 (by omega)
   _=c*g*b:=by rw [Int.mul_right_comm]
   _<e*d*b:=Int.mul_lt_mul_of_pos_right h2 hb
   _=e*b*d:=by rw [Int.mul_right_comm]
 exact Int.lt_of_mul_lt_mul_right h3 (by omega)
theorem ratioE {a b c d e g:Int} (h1:a*d=c*b) (h2:c*g=e*d) (hd:0<d):a*g=e*b:=by
 have h3:a*g*d=e*b*d:=by
  calc a*g*d=a*d*g:=by rw [Int.mul_right_comm]
   _=c*b*g:=by rw [h1]
   _=c*g*b:=by rw [Int.mul_right_comm]
   _=e*d*b:=by rw [h2]
   _=e*b*d:=by rw [Int.mul_right_comm]
 exact Int.eq_of_mul_eq_mul_right (by omega) h3
theorem rl_trans {f:Nat→Nat→Int} {bs:Nat→Int} {E c i r j:Nat} (hi:0<f i c) (hr:0<f r c) (hj:0<f j c) (h1:Rl f bs E c i r) (h2:Rl f bs E c r j):Rl f bs E c i j:=by
 rcases h1 with h1|⟨h1,b1⟩
 ·exact .inl (ratioS hi h1 (by rcases h2 with h2|⟨h2,_⟩<;>omega) hr hj)
 ·rcases h2 with h2|⟨h2,b2⟩
  ·exact .inl (ratioS' hi (by omega) h2 hr hj)
  ·exact .inr ⟨ratioE h1 h2 hr,by omega⟩
def LeF (f:Nat→Nat→Int) (m E c:Nat):Prop:=∀i<m,∀k<m,B62 (f i E*f k c)
structure LeI (f:Nat→Nat→Int) (bs:Nat→Int) (m E c:Nat) (ov:Prop) (i:Nat) (z:Int) (q:Prop):Prop where
 dv:(z= -1∧∀j<i,f j c≤0)∨∃r:Nat,z=r∧r<m∧0<f r c∧(¬q→∀j<i,0<f j c→Rl f bs E c r j)
 ex:¬q→¬ov
 fit:LeF f m E c→q→ov
section
variable {f:Nat→Nat→Int} {bs:Nat→Int} {m E c:Nat} {ov:Prop} {i:Nat} {z:Int} {q:Prop}
theorem LeI.skip (h:LeI f bs m E c ov i z q) (hn:f i c≤0):LeI f bs m E c ov (i+1) z q:=by
 refine⟨?_,h.ex,h.fit⟩
 rcases h.dv with⟨e,h⟩|⟨r,e,hr,hp,h⟩
 ·refine .inl ⟨e,fun j h1=>?_⟩
  by_cases hj:j=i
  ·subst hj;exact hn
  ·exact h j (by omega)
 ·refine .inr ⟨r,e,hr,hp,fun hq j h1 h2=>?_⟩
  by_cases hj:j=i
  ·subst hj;omega
  ·exact h hq j (by omega) h2
theorem LeI.first (h:LeI f bs m E c ov i (-1) q) (hi:i<m) (hp:0<f i c):LeI f bs m E c ov (i+1) i q:=by
 refine⟨?_,h.ex,h.fit⟩
 rcases h.dv with⟨e,h⟩|⟨r,e,_⟩
 ·refine .inr ⟨i,rfl,hi,hp,fun _ j h1 h2=>?_⟩
  by_cases hj:j=i
  ·subst hj;exact rl_self
  ·have:=h j (by omega);omega
 ·omega
theorem LeI.mid {r:Nat} {q1 q2:Prop} {a b:Int} (h:LeI f bs m E c ov i r q) (hi:i<m) (hr:r<m) (k1:Cal q q1 (f i E*f r c) a) (k2:Cal q1 q2 (f r E*f i c) b):(¬q2→¬q∧a=f i E*f r c∧b=f r E*f i c)∧(LeF f m E c→q2→ov):=by
 refine⟨fun hq=>?_,fun hF hq=>?_⟩
 ·obtain⟨a1,a2⟩:=k2.ex hq
  obtain⟨b1,b2⟩:=k1.ex a1
  exact⟨b1,b2,a2⟩
 ·exact h.fit hF (k1.fit (hF i hi r hr) (k2.fit (hF r hr i hi) hq))
theorem LeI.keep {r:Nat} {q1 q2:Prop} {a b:Int} (h:LeI f bs m E c ov i r q) (hi:i<m) (hr:r<m) (hp:0<f i c) (k1:Cal q q1 (f i E*f r c) a) (k2:Cal q1 q2 (f r E*f i c) b) (hc:¬a<b) (hd:a=b→¬bs i<bs r):LeI f bs m E c ov (i+1) r q2:=by
 obtain⟨h1,h2⟩:=h.mid hi hr k1 k2
 refine⟨?_,fun hq=>h.ex (h1 hq).1,h2⟩
 rcases h.dv with⟨e,_⟩|⟨r',e,hr',hp',h4⟩
 ·omega
 ·have:r'=r:=by omega
  subst this
  refine .inr ⟨r',rfl,hr,hp',fun hq j hj hjp=>?_⟩
  by_cases e:j=i
  ·subst e
   obtain⟨_,ea,eb⟩:=h1 hq
   subst ea eb
   by_cases e2:f j E*f r' c=f r' E*f j c
   ·exact .inr ⟨e2.symm,by have:=hd e2;omega⟩
   ·exact .inl (by omega)
  ·exact h4 (h1 hq).1 j (by omega) hjp
theorem LeI.new {r:Nat} {q1 q2:Prop} {a b:Int} (h:LeI f bs m E c ov i r q) (hi:i<m) (hr:r<m) (hp:0<f i c) (k1:Cal q q1 (f i E*f r c) a) (k2:Cal q1 q2 (f r E*f i c) b) (hc:a<b∨(a=b∧bs i<bs r)):LeI f bs m E c ov (i+1) i q2:=by
 obtain⟨h1,h2⟩:=h.mid hi hr k1 k2
 refine⟨?_,fun hq=>h.ex (h1 hq).1,h2⟩
 rcases h.dv with⟨e,_⟩|⟨r',e,hr',hp',h4⟩
 ·omega
 ·have:r'=r:=by omega
  subst this
  refine .inr ⟨i,rfl,hi,hp,fun hq j hj hjp=>?_⟩
  obtain⟨_,ea,eb⟩:=h1 hq
  subst ea eb
  by_cases e:j=i
  ·subst e;exact rl_self
  ·refine rl_trans hp hp' hjp ?_ (h4 (h1 hq).1 j (by omega) hjp)
   rcases hc with hc|⟨hc,hb⟩
   ·exact .inl hc
   ·exact .inr ⟨hc,by omega⟩
end
theorem z1_Q6 {G H:Prop} (k:H) (h:H→G:=by first|exact fun r=>aS r|exact fun r=>aG r|exact fun r=>aD r|exact fun r=>aH r|exact fun r=>aP_Q5 r|exact fun r=>aI r|exact fun r=>aJ r|exact fun r=>aW (.qs [0,1,2,3,4,5,6,7,8,9,10,11,12,13,14,15,16,17,18,19,20,22,23,24,25,26,27,28,29,30,31,32,33,34,35,36,37,38,39,40,41,42] (.l 21 [42,39,36,32,29,26] (.l 43 [] (.qs [44,45] .nil) .no) .no)) r|exact fun r=>aW (.qs [0,1,2,3,4,5,6,7,8,9,10,11,12,13,14,15,16,17,18,19,20,21,22,23,24] .nil) r):G:=h k
theorem leaving_ok (n m:Nat) (f:Nat→Nat→Int) (bs tu sl:Nat→Int) (d co:Int) (ov:Prop) (c:Nat) (hm:m≤100) (hn:n≤100) (hc:c<n+2*m+1) (hf:∀a<m+1,∀b<n+2*m+1,B62 (f a b)):
  Ctr Tryz.prog 139 [.ptr 0 0,i64 c] (tab (m+1) m (n+2*m+1) n m f bs tu sl d co ov) (fun z o=>∃x:Int×Prop,LeI f bs m (n+2*m) c ov m x.1 x.2∧o=tab (m+1) m (n+2*m+1) n m f bs tu sl d co x.2∧z=i64 x.1):=by
 refine Ctr.impO ?_
 refine fI 5 Tryz.func139 ?_
 have hml:=mts_len (m+1) (n+2*m+1) f
 have hvl:=fun w g=>vcs_len w g
 have cWd:=width_ok (m+1) m (n+2*m+1) n m f bs tu sl d co ov (by omega) (by omega)
 (repeat' (conv=>whnf);first|refine aC ?_ ?_<;>intro<;>try omega|refine z1_Q6 ?_|(refine aK [0,1,2,3,4] cWd ?_)|fail);all_goals try (conv=>whnf)
 refine LoopOb.mk (Y:=Nat×Int×Prop) (st:=fun y=>⟨[(7,i64 y.1),(6,i64 (n+2*m:Nat)),(5,i64 y.2.1),(0, .ptr 0 0),(1,i64 c)],tab (m+1) m (n+2*m+1) n m f bs tu sl d co y.2.2⟩)
  (inv:=fun y=>y.1≤m∧LeI f bs m (n+2*m) c ov y.1 y.2.1 y.2.2) (fun y=>m-y.1) (0,-1,ov) [0,1,2,3,4] ⟨by simp,⟨.inl ⟨rfl,fun j hj=>absurd hj (by simp)⟩,fun h=>h,fun _ h=>h⟩⟩ (by(exact aL)) ?_
 rintro⟨i,z,q⟩ ⟨hi,hz⟩
 dsimp only at hi hz⊢
 (repeat' (conv=>whnf);first|refine z1_Q6 ?_|fail);all_goals try (conv=>whnf)
 refine CondOb.mk (fun hlt=>?_) (fun hlt=>?_)
 rotate_left
 ·have e:i=m:=by omega
  subst e
  (repeat' (conv=>whnf);first|refine aC ?_ ?_<;>intro<;>try omega|refine z1_Q6 ?_|fail);all_goals try (conv=>whnf)
  exact⟨(z,q),hz,OI.refl _,Imp.refl _⟩
 have him:i<m:=by omega
 (repeat' (conv=>whnf);first|refine z1_Q6 ?_|refine⟨_,rfl,(by simp only [mts_len,vcs_len];omega),?_⟩|refine And.intro (by simp only [mts_len,vcs_len];omega) ?_|refine⟨_,_,rfl,mts_get (by omega),(by simp only [vcs_len];omega),?_⟩|refine⟨_,_,mts_get (by omega),vcs_get (by omega),?_⟩|refine⟨_,mts_get (by omega),?_⟩|fail);all_goals try (conv=>whnf)
 refine CondOb.mk (fun hle=>?_) (fun hle=>?_)
 ·(repeat' (conv=>whnf);first|refine aC ?_ ?_<;>intro<;>try omega|refine z1_Q6 ?_|fail);all_goals try (conv=>whnf)
  exact⟨(i+1,z,q),[0,1,2,3,4],⟨by dsimp only;omega,hz.skip hle⟩,by dsimp only;omega,by(exact aL)⟩
 have hp:0<f i c:=by omega
 have hf1:=hf i (by omega) (n+2*m) (by omega)
 have hf2:=hf i (by omega) c (by omega)
 rcases hz.dv with⟨rfl,_⟩|⟨r,rfl,hr,hrp,_⟩
 ·(repeat' (conv=>whnf);first|refine aC ?_ ?_<;>intro<;>try omega|refine z1_Q6 ?_|fail);all_goals try (conv=>whnf)
  exact⟨(i+1,i,q),[0,1,2,3,4],⟨by dsimp only;omega,hz.first him hp⟩,by dsimp only;omega,by(exact aL)⟩
 have hf3:=hf r (by omega) (n+2*m) (by omega)
 have hf4:=hf r (by omega) c (by omega)
 have cM1:=mul_ok (m+1) m (n+2*m+1) n m f bs tu sl d co q (f i (n+2*m)) (f r c) hf1 hf4
 (repeat' (conv=>whnf);first|refine DrawOb.re [] (.qs [0,1,2,3,4,5,6,7,8,9,10,11,12,13,14,15,16,17,18,19,20,22,23,24,25,26,27,28,29,30,31,32,33,34,35,36,37,38,39,40,41,42] (.l 21 [42,39,36,32,29,26] (.l 43 [] (.qs [44,45] .nil) .no) .no)) (by decide+kernel) ?_|refine aC ?_ ?_<;>intro<;>try omega|refine z1_Q6 ?_|refine⟨_,rfl,(by simp only [mts_len,vcs_len];omega),?_⟩|refine And.intro (by simp only [mts_len,vcs_len];omega) ?_|refine⟨_,_,rfl,mts_get (by omega),(by simp only [vcs_len];omega),?_⟩|refine⟨_,_,mts_get (by omega),vcs_get (by omega),?_⟩|refine⟨_,mts_get (by omega),?_⟩|fail);all_goals try (conv=>whnf)
 refine aM [0,1,2,3,4] cM1 rfl rfl ?_
 rintro _ _ ⟨⟨q1,u1⟩,z1,rfl,rfl⟩
 dsimp only at z1⊢
 have cM2:=mul_ok (m+1) m (n+2*m+1) n m f bs tu sl d co q1 (f r (n+2*m)) (f i c) hf3 hf2
 (repeat' (conv=>whnf);first|refine aC ?_ ?_<;>intro<;>try omega|refine z1_Q6 ?_|refine And.intro ⟨rfl,rfl⟩ ?_|refine⟨_,rfl,(by simp only [mts_len,vcs_len];omega),?_⟩|refine And.intro (by simp only [mts_len,vcs_len];omega) ?_|refine⟨_,_,rfl,mts_get (by omega),(by simp only [vcs_len];omega),?_⟩|refine⟨_,_,mts_get (by omega),vcs_get (by omega),?_⟩|refine⟨_,mts_get (by omega),?_⟩|fail);all_goals try (conv=>whnf)
 refine aM [0,1,2,3,4] cM2 rfl rfl ?_
 rintro _ _ ⟨⟨q2,u2⟩,z2,rfl,rfl⟩
 dsimp only at z2⊢
 have hk:=hz.keep him hr hp z1 z2
 have hw:=hz.new him hr hp z1 z2
 (repeat' (conv=>whnf);first|refine aC ?_ ?_<;>intro<;>try omega|refine z1_Q6 ?_|refine And.intro ⟨rfl,rfl⟩ ?_|refine⟨_,rfl,(by simp only [mts_len,vcs_len];omega),?_⟩|refine And.intro (by simp only [mts_len,vcs_len];omega) ?_|refine⟨_,_,rfl,mts_get (by omega),(by simp only [vcs_len];omega),?_⟩|refine⟨_,_,mts_get (by omega),vcs_get (by omega),?_⟩|refine⟨_,mts_get (by omega),?_⟩|refine⟨_,vcs_get (by omega),?_⟩|fail);all_goals try (conv=>whnf)
 all_goals first
  |exact⟨(i+1,i,q2),[0,1,2,3,4],⟨by dsimp only;omega,hw (by omega)⟩,by dsimp only;omega,by(exact aL)⟩
  |exact⟨(i+1,r,q2),[0,1,2,3,4],⟨by dsimp only;omega,hk (by omega) (by intro _;omega)⟩,by dsimp only;omega,by(exact aL)⟩
end Go.Proofs.YtbcjojomkibgeaaGreat
