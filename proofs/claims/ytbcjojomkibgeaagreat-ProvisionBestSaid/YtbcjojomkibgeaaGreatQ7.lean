/- Lemmas of this seat. Conditions: as stated. -/
import Derived.Test.YtbcjojomkibgeaaGreatQ6
import Derived.Test.YtbcjojomkibgeaaGreatQ10
import Derived.Test.YtbcjojomkibgeaaGreatPl
import Derived.Test.YtbcjojomkibgeaaGreatF2
set_option linter.unusedVariables false
set_option linter.unusedSimpArgs false
set_option maxHeartbeats 2000000
set_option maxRecDepth 4000
namespace Go.Proofs.YtbcjojomkibgeaaGreat
section
open Go.Sx Go.Fq Go.Dt
theorem sq_snoc {m E C:Nat} {T0:M} {u:Nat→Nat} {co:Nat→Int} {h:Nat→St} {rr cc:Nat→Nat} {N:Nat} (S:Sq m E C T0 u co h rr cc N) {s':St} {r c:Nat} (k:BSt m E C (h N) r c s'):
  Sq m E C T0 u co (fun i=>if i≤N then h i else s') (fun i=>if i<N then rr i else r) (fun i=>if i<N then cc i else c) (N+1):=by
 refine⟨by simpa using S.inv,by simpa using S.rhs,fun i hi=>?_,S.hC,S.hu⟩
 by_cases e:i<N
 ·simp only [if_pos e,if_pos (show i≤N by omega),if_pos (show i+1≤N by omega)];exact S.st i e
 ·have:i=N:=by omega
  subst this
  simp only [Nat.lt_irrefl,if_false,Nat.le_refl,if_true,if_neg (show¬i+1≤i by omega)];exact k
abbrev sN (s:TS):St:=(s.1,bN s,s.2.2)
structure DsI (m E C:Nat) (T0:M) (u:Nat→Nat) (co:Nat→Int) (s0:TS) (ov:Prop) (F:Prop) (N:Nat) (s:TS) (q:Prop):Prop where
 hb:∀a<m+1,∀b<E+1,B62 (s.1 a b)
 hd:1≤s.2.2∧B62 s.2.2
 bs:∀i<m,0≤s.2.1 i∧s.2.1 i<E
 ex:¬q→¬ov∧Ruw m E C s0 s∧∃h rr cc,Sq m E C T0 u co h rr cc N∧h N=sN s
 fit:F→q→ov
def DsF (m E:Nat) (T0:M) (u:Nat→Nat) (co:Nat→Int):Prop:=∀s:TS,Inv m (E+1) T0 u co s.1 (bN s) s.2.2→(∀i<m,0≤s.2.1 i∧s.2.1 i<E)→∀c<E,LeF s.1 m E c∧∀r<m,PvF s.1 m (E+1) r c
section
variable {m E C:Nat} {T0:M} {u:Nat→Nat} {co:Nat→Int} {s0 s:TS} {ov:Prop} {N:Nat} {q:Prop}
theorem DsI.inv (h:DsI m E C T0 u co s0 ov (DsF m E T0 u co) N s q) (hq:¬q):Inv m (E+1) T0 u co s.1 (bN s) s.2.2∧∀i<m,0≤s.1 i E:=by
 obtain⟨_,_,hh,rr,cc,S,e⟩:=h.ex hq
 have:=S.invs (Nat.le_refl N)
 rw [e]at this;exact this
theorem DsI.bd (h:DsI m E C T0 u co s0 ov (DsF m E T0 u co) N s q) (hq:¬q):N<(E+1)^m:=by
 obtain⟨_,_,hh,rr,cc,S,e⟩:=h.ex hq
 exact S.bd
theorem DsI.lea {q1:Prop} {c:Nat} {z:Int} (h:DsI m E C T0 u co s0 ov (DsF m E T0 u co) N s q) (hc:c<E) (k:LeI s.1 s.2.1 m E c q m z q1):DsI m E C T0 u co s0 ov (DsF m E T0 u co) N s q1:=by
 refine⟨h.hb,h.hd,h.bs,fun hq=>h.ex (k.ex hq),fun F hq=>?_⟩
 by_cases hq0:q
 ·exact h.fit F hq0
 ·exact absurd (k.fit (F s (h.inv hq0).1 h.bs c hc).1 hq) hq0
theorem DsI.step {q1 q2:Prop} {r c:Nat} {g:Nat→Nat→Int} (h:DsI m E C T0 u co s0 ov (DsF m E T0 u co) N s q1) (hC:C≤E) (hc:c<C) (hr:r<m) (hp:0<s.1 r c) (hn:s.1 m c<0) (hf:∀k<c,0≤s.1 m k)
  (hl:¬q1→∀j<m,0<s.1 j c→Rl s.1 s.2.1 E c r j) (k:PvC s.1 m (E+1) r c s.2.2 q1 (m+1) q2 g):DsI m E C T0 u co s0 ov (DsF m E T0 u co) (N+1) (g,up s.2.1 r c,((s.1 r c).natAbs :Int)) q2:=by
 refine⟨k.hb,⟨by show 1≤((s.1 r c).natAbs :Int);omega,?_⟩,fun i hi=>?_,fun hq=>?_,fun F hq=>?_⟩
 ·have:=h.hb r (by omega) c (by omega)
  show B62 ((s.1 r c).natAbs :Int)
  unfold B62 at*;omega
 ·show 0≤up s.2.1 r c i∧up s.2.1 r c i<E
  unfold up;split
  ·omega
  ·exact h.bs i hi
 ·obtain⟨hq1,hg⟩:=k.ex hq
  obtain⟨ho,hR,hh,rr,cc,S,e⟩:=h.ex hq1
  have I:=(h.inv hq1).1
  have P:Piw m (E+1) s r c (g,up s.2.1 r c,((s.1 r c).natAbs :Int)):=⟨fun a ha b hb=>by show g a b=_;rw [hg a ha b hb,pv_end ha],rfl,rfl⟩
  have hmin:=hl hq1
  refine⟨ho, .step hR ⟨r,c,hr,hc,hn,hp,fun j hj hjp=>?_,P⟩,_,_,_,sq_snoc S (r:=r) (c:=c) (s':=sN (g,up s.2.1 r c,((s.1 r c).natAbs :Int))) ?_,if_neg (by omega)⟩
  ·rcases hmin j hj hjp with h|⟨h,_⟩<;>omega
  ·rw [e]
   refine⟨hr,hc,hn,hf,hp,fun j hj hjp=>?_,pv_pvt I hr (by omega) P,?_⟩
   ·have b1:=h.bs r hr
    have b2:=h.bs j hj
    rcases hmin j hj hjp with h|⟨h,h2⟩
    ·exact .inl h
    ·exact .inr ⟨h,by show(s.2.1 r).toNat ≤(s.2.1 j).toNat;omega⟩
   ·funext i
    show(up s.2.1 r c i).toNat =ub (bN s) r c i
    unfold ub bN up;split<;>simp
 ·by_cases hq1:q1
  ·exact h.fit F hq1
  ·exact absurd (k.fit ((F s (h.inv hq1).1 h.bs c (by omega)).2 r hr) hq) hq1
end
open Classical in
noncomputable def dsm (m E N:Nat) (q:Prop):Nat:=if q then 0 else(E+1)^m-N+1
theorem dsm_lt {m E N:Nat} {q q':Prop} (hq:¬q) (h:¬q'→N+1<(E+1)^m):dsm m E (N+1) q'<dsm m E N q:=by
 unfold dsm
 rw [if_neg hq]
 split
 ·omega
 ·have:=h (by assumption);omega
theorem z1_Q7 {G H:Prop} (k:H) (h:H→G:=by first|exact fun r=>aS r|exact fun r=>aG r|exact fun r=>aD r|exact fun r=>aH r|exact fun r=>aP_Q5 r|exact fun r=>aI r|exact fun r=>aJ r|exact fun r=>aW (.qs [0,1,2,3,4,5,6,7,8,9,10,11,12,13,14,15,16,17,18] .nil) r):G:=h k
theorem descend_ok (n m C:Nat) (T0:M) (u:Nat→Nat) (cf:Nat→Int) (s0:TS) (tu sl:Nat→Int) (co:Int) (ov:Prop) (hm:m≤100) (hn:n≤100) (hC:C≤n+2*m) (hu:∀l<m,u l<n+2*m+1)
  (hb:∀a<m+1,∀b<n+2*m+1,B62 (s0.1 a b)) (hd:1≤s0.2.2∧B62 s0.2.2) (hbs:∀i<m,0≤s0.2.1 i∧s0.2.1 i<(n+2*m:Nat))
  (h0:¬ov→Inv m (n+2*m+1) T0 u cf s0.1 (bN s0) s0.2.2∧∀i<m,0≤s0.1 i (n+2*m)):
  Ctr Tryz.prog 114 [.ptr 0 0,i64 C] (tab (m+1) m (n+2*m+1) n m s0.1 s0.2.1 tu sl s0.2.2 co ov) (fun z o=>∃x:Int×Nat×TS×Prop,(DsI m (n+2*m) C T0 u cf s0 ov (DsF m (n+2*m) T0 u cf) x.2.1 x.2.2.1 x.2.2.2∧-1≤x.1∧x.1≤C∧(¬x.2.2.2→Ends m C x.2.2.1.1 x.1))∧o=tab (m+1) m (n+2*m+1) n m x.2.2.1.1 x.2.2.1.2.1 tu sl x.2.2.1.2.2 co x.2.2.2∧z=i64 x.1):=by
 refine Ctr.impO ?_
 refine fI 5 Tryz.func114 ?_
 have hI0:DsI m (n+2*m) C T0 u cf s0 ov (DsF m (n+2*m) T0 u cf) 0 s0 ov:=⟨hb,hd,hbs,fun h=>⟨h, .refl,fun _=>sN s0,fun _=>0,fun _=>0,⟨(h0 h).1,(h0 h).2,fun k hk=>absurd hk (by omega),hC,hu⟩,rfl⟩,fun _ h=>h⟩
 clear hb hd hbs h0
 (repeat' (conv=>whnf);first|refine aC ?_ ?_<;>intro<;>try omega|refine z1_Q7 ?_|fail);all_goals try (conv=>whnf)
 refine LoopOb.mk (Y:=Nat×TS×Prop) (st:=fun y=>⟨[(0, .ptr 0 0),(1,i64 C)],tab (m+1) m (n+2*m+1) n m y.2.1.1 y.2.1.2.1 tu sl y.2.1.2.2 co y.2.2⟩)
  (inv:=fun y=>DsI m (n+2*m) C T0 u cf s0 ov (DsF m (n+2*m) T0 u cf) y.1 y.2.1 y.2.2) (fun y=>dsm m (n+2*m) y.1 y.2.2) (0,s0,ov) [0,1,2,3,4] hI0 (by(exact aL)) ?_
 rintro⟨N,⟨f,bs,d⟩,q⟩ hI
 dsimp only at hI⊢
 (repeat' (conv=>whnf);first|refine z1_Q7 ?_|fail);all_goals try (conv=>whnf)
 refine CondOb.mk (fun hq=>?_) (fun hq=>?_)
 rotate_left
 ·(repeat' (conv=>whnf);first|refine aC ?_ ?_<;>intro<;>try omega|refine z1_Q7 ?_|fail);all_goals try (conv=>whnf)
  exact⟨(-1,N,(f,bs,d),q),⟨hI,by omega,by omega,fun h=>absurd h hq⟩,OI.refl _,Imp.refl _⟩
 have hml:=mts_len (m+1) (n+2*m+1) f
 (repeat' (conv=>whnf);first|refine aC ?_ ?_<;>intro<;>try omega|refine z1_Q7 ?_|fail);all_goals try (conv=>whnf)
 refine LoopOb.mk (Y:=Nat) (st:=fun c=>⟨[(5,i64 c),(0, .ptr 0 0),(1,i64 C)],tab (m+1) m (n+2*m+1) n m f bs tu sl d co q⟩)
  (inv:=fun c=>c≤C∧∀k<c,0≤f m k) (fun c=>C-c) 0 [0,1,2,3,4] ⟨by omega,fun k hk=>absurd hk (by omega)⟩ (by(exact aL)) ?_
 rintro c ⟨hc,hnn⟩
 (repeat' (conv=>whnf);first|refine aC ?_ ?_<;>intro<;>try omega|refine z1_Q7 ?_|refine⟨_,rfl,(by simp only [mts_len,vcs_len];omega),?_⟩|refine And.intro (by simp only [mts_len,vcs_len];omega) ?_|refine⟨_,_,rfl,mts_get (by omega),(by simp only [vcs_len];omega),?_⟩|refine⟨_,_,mts_get (by omega),vcs_get (by omega),?_⟩|refine⟨_,mts_get (by omega),?_⟩|fail);all_goals try (conv=>whnf)
 ·have hge:0≤f m c:=by assumption
  exact⟨c+1,[0,1,2,3,4],⟨by omega,fun k hk=>by
   by_cases e:k=c
   ·subst e;exact hge
   ·exact hnn k (by omega)⟩,by omega,by(exact aL)⟩
 rotate_left
 ·have e:c=C:=by omega
  subst e
  exact⟨(-1,N,(f,bs,d),q),⟨hI,by omega,by omega,fun _=> .inl ⟨rfl,hnn⟩⟩,OI.refl _,Imp.refl _⟩
 have hlc:c<C:=by omega
 have hneg:f m c<0:=by omega
 have cL:=leaving_ok n m f bs tu sl d co q c hm hn (by omega) hI.hb
 refine aM [0,1,2,3,4] cL rfl rfl ?_
 rintro _ _ ⟨⟨z,q1⟩,hz,rfl,rfl⟩
 dsimp only at hz⊢
 have hI1:=hI.lea (by omega) hz
 rcases hz.dv with⟨rfl,hz1⟩|⟨r,rfl,hr,hrp,hz1⟩
 ·(repeat' (conv=>whnf);first|refine aC ?_ ?_<;>intro<;>try omega|refine z1_Q7 ?_|fail);all_goals try (conv=>whnf)
  exact⟨(c,N,(f,bs,d),q1),⟨hI1,by dsimp only;omega,by dsimp only;omega,fun _=> .inr ⟨c,rfl,hlc,hneg,hz1⟩⟩,OI.refl _,Imp.refl _⟩
 ·have cP:=pivotS_ok (n+2*m+1) n m f bs tu sl d co q1 r c hm (by omega) hr (by omega) hI.hd hI.hb (by omega)
  (repeat' (conv=>whnf);first|refine aC ?_ ?_<;>intro<;>try omega|refine z1_Q7 ?_|fail);all_goals try (conv=>whnf)
  refine aM [0,1,2,3,4] cP rfl rfl ?_
  rintro _ _ ⟨⟨q2,g⟩,hP,rfl,rfl⟩
  dsimp only at hP⊢
  have hI2:=hI1.step hC hlc hr hrp hneg hnn hz1 hP
  (repeat' (conv=>whnf);first|refine aC ?_ ?_<;>intro<;>try omega|refine z1_Q7 ?_|fail);all_goals try (conv=>whnf)
  exact⟨(N+1,(g,up bs r c,((f r c).natAbs :Int)),q2),[0,1,2,3,4],hI2,dsm_lt hq (fun h=>hI2.bd h),by(exact aL)⟩
end
section
open Go.Sx Go.Fq Go.Dt
structure FrS (a b:Int) (ov q:Prop) (x:F):Prop where
 ex:¬q→¬ov∧VF x∧val x=Rat.divInt a b
 fit:b≠0→(fnew a b).2.2 =0→q→ov
theorem gcd_div {a b:Int} (hb:b≠0):∃g:Int,g=(Nat.gcd a.natAbs b.natAbs:Nat)∧1≤g∧∃x y,a=x*g∧b=y*g∧a.tdiv g=x∧b.tdiv g=y:=by
 refine⟨_,rfl,?_,?_⟩
 ·have:0<Nat.gcd a.natAbs b.natAbs:=Nat.gcd_pos_of_pos_right _ (by omega)
  omega
 ·have hg:0<Nat.gcd a.natAbs b.natAbs:=Nat.gcd_pos_of_pos_right _ (by omega)
  obtain⟨x,hx⟩:=Int.ofNat_dvd_left.2 (Nat.gcd_dvd_left a.natAbs b.natAbs)
  obtain⟨y,hy⟩:=Int.ofNat_dvd_left.2 (Nat.gcd_dvd_right a.natAbs b.natAbs)
  generalize Nat.gcd a.natAbs b.natAbs=g at*
  refine⟨x,y,by rw [Int.mul_comm];exact hx,by rw [Int.mul_comm];exact hy,?_,?_⟩
  ·rw [hx];exact Int.mul_tdiv_cancel_left _ (by omega)
  ·rw [hy];exact Int.mul_tdiv_cancel_left _ (by omega)
theorem fnew_scale {x y g:Int} (hg:g≠0) (hy:y≠0):fnew (x*g) (y*g)=fnew x y:=by
 unfold fnew
 rw [if_neg (by intro h;rcases Int.mul_eq_zero.1 h with h|h<;>omega),if_neg hy,Rat.divInt_mul_right hg]
theorem vf_01:VF (0,1):=by decide
theorem z1_Q8 {G H:Prop} (k:H) (h:H→G:=by first|exact fun r=>aS r|exact fun r=>aG r|exact fun r=>aD r|exact fun r=>aH r|exact fun r=>aP_Q5 r|exact fun r=>aI r|exact fun r=>aJ r|exact fun r=>aW (.qs [0,1,2,3,4,5] (.l 6 [] (.qs [7,8,9] (.l 10 [] (.qs [11] .nil) .no)) .no)) r):G:=h k
theorem sfrac_ok (N k w n m:Nat) (f:Nat→Nat→Int) (bs tu sl:Nat→Int) (d co:Int) (ov:Prop) (a b:Int) (ha:B62 a) (hb:B62 b):
  Ctr Tryz.prog 119 [.ptr 0 0,i64 a,i64 b] (tab N k w n m f bs tu sl d co ov) (fun r o=>∃x:Prop×F,FrS a b ov x.1 x.2∧o=tab N k w n m f bs tu sl d co x.1∧r= .agg [i64 x.2.1,i64 x.2.2]):=by
 refine Ctr.impO ?_
 refine fI 5 Tryz.func119 ?_
 have cG:=sgcd_ok a b ha hb
 (repeat' (conv=>whnf);first|refine aC ?_ ?_<;>intro<;>try omega|refine z1_Q8 ?_|fail);all_goals try (conv=>whnf)
 ·exact⟨(True,(0,1)),⟨fun h=>absurd trivial h,fun _ _ _=>by assumption⟩,tab_ov,Imp.refl _⟩
 ·exact⟨(True,(0,1)),⟨fun h=>absurd trivial h,fun h=>absurd (by assumption) h⟩,tab_ov,Imp.refl _⟩
 have hb0:b≠0:=by assumption
 have hov:¬ov:=by assumption
 refine aK [] cG ?_
 obtain⟨g,hg,hg1,x,y,ea,eb,e1,e2⟩:=gcd_div (a:=a) (b:=b) hb0
 rw [←hg]
 have hy0:y≠0:=by rintro rfl;rw [Int.zero_mul]at eb;exact hb0 eb
 have hxa:x.natAbs≤a.natAbs:=by rw [ea,Int.natAbs_mul];exact Nat.le_mul_of_pos_right _ (by omega)
 have hya:y.natAbs≤b.natAbs:=by rw [eb,Int.natAbs_mul];exact Nat.le_mul_of_pos_right _ (by omega)
 have ef1:fnew x y=fnew a b:=by rw [ea,eb];exact(fnew_scale (by omega) hy0).symm
 have ef2:fnew (-x) (-y)=fnew a b:=by
  have:a= -x* -g∧b= -y* -g:=by rw [Int.neg_mul_neg,Int.neg_mul_neg];exact⟨ea,eb⟩
  rw [this.1,this.2];exact(fnew_scale (by omega) (by omega)).symm
 have n1:a.tdiv (0-g)= -x:=by rw [Int.zero_sub,Int.tdiv_neg,e1]
 have n2:b.tdiv (0-g)= -y:=by rw [Int.zero_sub,Int.tdiv_neg,e2]
 have hgb:g≤4611686018427387904:=by
  have:=Nat.le_of_dvd (by omega) (Nat.gcd_dvd_right a.natAbs b.natAbs)
  omega
 have c1:=fNew_ok x y (by omega) (by omega)
 have c2:=fNew_ok (-x) (-y) (by omega) (by omega)
 rw [ef1]at c1
 rw [ef2]at c2
 have hok:=fun u v (h:fnew a b=(u,v,0))=>fnew_ok hb0 h
 have hfx:(fnew a b).2.2 =0∨(fnew a b).2.2 ≠0:=by omega
 have hfin:∀q:Prop,(q↔(fnew a b).2.2 ≠0)→FrS a b ov q ((fnew a b).1,(fnew a b).2.1):=fun q hq=>⟨fun h=>⟨hov,by
  have h0:(fnew a b).2.2 =0:=Classical.not_not.1 fun e=>h (hq.2 e)
  exact hok _ _ (by rw [←h0])⟩,fun _ h h2=>absurd h (hq.1 h2)⟩
 clear hok ef1 ef2 cG
 generalize fnew a b=z at*
 (repeat' (conv=>whnf);first|(refine And.intro (by omega) ?_;first|rw [e1]|rw [e2]|rw [n1]|rw [n2])|refine aC ?_ ?_<;>intro<;>try omega|refine z1_Q8 ?_|(refine aK [] c1 ?_)|(refine aK [] c2 ?_)|fail);all_goals try (conv=>whnf)
 all_goals first
  |exact⟨(True,(z.1,z.2.1)),hfin True ⟨fun _=>by assumption,fun _=>trivial⟩,tab_ov,Imp.refl _⟩
  |exact⟨(ov,(z.1,z.2.1)),hfin ov ⟨fun h=>absurd h hov,fun h=>absurd h (by assumption)⟩,OI.refl _,Imp.refl _⟩
end
end Go.Proofs.YtbcjojomkibgeaaGreat
