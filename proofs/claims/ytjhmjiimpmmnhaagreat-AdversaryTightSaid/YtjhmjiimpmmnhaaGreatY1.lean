/- Lemmas of this seat. Conditions: as stated. -/
import Derived.Test.YtjhmjiimpmmnhaaGreatGf
import Derived.Test.YtjhmjiimpmmnhaaGreatR6
import Derived.Test.YtjhmjiimpmmnhaaGreatN8
set_option linter.unusedVariables false
set_option linter.unusedSimpArgs false
set_option maxHeartbeats 2000000
set_option maxRecDepth 4000
namespace Go.Proofs.YtjhmjiimpmmnhaaGreat
section
open Go.Sx Go.Cv
abbrev E4:=List Int×Int×Int×Int
def SumX (f g:C3) (x:E4):Prop:=∃a b,NmC f a∧NmC g b∧((com a b≤120∧MkP (pl2 f g) x)∨(120<com a b∧x=([],0,0,3)))
theorem NmC.uniq {f a b:C3} (h:NmC f a) (k:NmC f b):a=b:=by
 obtain⟨h1,h2,h3⟩:=h.2.2.2.uniq k.2.2.2
 exact Prod.ext h1 (Prod.ext h2 h3)
theorem SumX.uniq {f g:C3} {x y:E4} (h:SumX f g x) (k:SumX f g y):x=y:=by
 obtain⟨a,b,ha,hb,h⟩:=h
 obtain⟨a',b',ha',hb',k⟩:=k
 cases ha.uniq ha'
 cases hb.uniq hb'
 rcases h with⟨h1,h2⟩|⟨h1,rfl⟩<;>rcases k with⟨k1,k2⟩|⟨k1,rfl⟩
 ·exact h2.uniq k2
 ·omega
 ·omega
 ·rfl
theorem pl2_bd {f g:C3} (hf:VC f) (hg:VC g) (ff:FinC f) (fg:FinC g) {t:Nat} (h:t≤1000000):0≤pl2 f g t∧pl2 f g t≤4000000000000000:=by
 have a1:=cv_nonneg hf t
 have b1:=cv_nonneg hg t
 have a2:=cv_small hf (t:=t) (by omega) (ff.not hf _)
 have b2:=cv_small hg (t:=t) (by omega) (fg.not hg _)
 unfold pl2;omega
end
section
open Go.Sx Go.Cv
def SumP (vs:List Int) (p q:Int) (ws:List Int) (p' q':Int) (x:List Int×Int×Int×Int):Prop:=
 (∃e,PrepE vs p q ws p' q' e∧x=([],0,0,e))∨(∃a b,Prep vs p q ws p' q' a b∧com a b≤120∧MkP (pls a b) x)
theorem rplus_ok (a b:C3) (t:Nat) (ha:VC a) (hb:VC b) (ht:t≤1048576):Ctr Tryz.prog 179 [i64 (cv a t),i64 (cv b t)] [] (fun r o=>o=[]∧r=i64 (pls a b t)):=by
 have h1:=vc_bd ha ht
 have h2:=vc_bd hb ht
 have hp:plus (cv a t) (cv b t)=pls a b t:=by
  unfold plus pls cv
  simp only [ha.inf_iff ht,hb.inf_iff ht]
 rw [←hp]
 refine plus_ok _ _ h1.1 h2.1 h1.2 h2.2 (fun h3 h4=>?_)
 have h5:=cv_small ha ht (fun h=>h3 ((ha.inf_iff ht).2 h))
 have h6:=cv_small hb ht (fun h=>h4 ((hb.inf_iff ht).2 h))
 omega
theorem z3_R10 {G H:Prop} (k:H) (h:H→G:=by first|exact fun r=>aS r|exact fun r=>aG r|exact fun r=>aD r|exact fun r=>aP_R1 r|exact fun r=>aI r|exact fun r=>aJ r|exact fun r=>aW (.qs [0,1,2,3,4,5,6,7,8,9,10,11,12,13,14,15,16] (.l 17 [12,9,5,2] (.l 18 [] .nil .no) .no)) r|exact fun r=>aW (.qs [0,1,2,3,5,6] (.l 4 [5,1] (.l 7 [1] (.l 8 [1] (.l 9 [1] (.l 10 [] (.qs [11] (.l 12 [] .nil .no)) .no) .no) .no) .no) .no)) r):G:=h k
theorem z2_R10 {G H:Prop} (k:H) (h:H→G:=by first|exact fun r=>aS r|exact fun r=>aG r|exact fun r=>aD r|exact fun r=>aH r|exact fun r=>aP_R1 r|exact fun r=>aI r|exact fun r=>aJ r|exact fun r=>aW (.qs [0,1,2,3,4,5,6,7,8,9,10,11,12,13,14,15,16] (.l 17 [12,9,5,2] (.l 18 [] .nil .no) .no)) r|exact fun r=>aW (.qs [0,1,2,3,5,6] (.l 4 [5,1] (.l 7 [1] (.l 8 [1] (.l 9 [1] (.l 10 [] (.qs [11] (.l 12 [] .nil .no)) .no) .no) .no) .no) .no)) r):G:=h k
theorem Sum_ok (vs:List Int) (p q:Int) (ws:List Int) (p' q':Int):
  Ctr Tryz.prog 140 [crv vs p q,crv ws p' q'] [] (fun r o=>∃x:List Int×Int×Int×Int,SumP vs p q ws p' q' x∧o=[]∧r=crvE x):=by
 refine Ctr.impE ?_
 refine fI 0 Tryz.func140 ?_
 (repeat' (conv=>whnf);first|refine aC ?_ ?_<;>intro _|refine z1_R1 ?_|fail);all_goals try (conv=>whnf)
 refine aM [] (Pair_ok vs p q ws p' q') rfl rfl ?_
 rintro _ _ ⟨⟨A,B,l,e⟩,hPP,rfl,rfl⟩
 dsimp only at hPP⊢
 rcases pair_prep hPP with⟨he,he0⟩|⟨he,a,b,hP,hc,hA,hB,hl⟩
 ·(repeat' (conv=>whnf);first|refine aC ?_ ?_<;>intro<;>try omega|refine z1_R1 ?_|fail);all_goals try (conv=>whnf)
  exact⟨([],0,0,e), .inl ⟨e,he,rfl⟩,rfl,Imp.tup ⟨imp_zero,Imp.refl _,trivial⟩⟩
 ·subst he hA hB hl
  have va:=hP.va
  have vb:=hP.vb
  have f1:=frm_le va vb
  have c1:=com_pos va vb
  have a1:=va.n1
  have a2:=va.n2
  have b1:=vb.n1
  have b2:=vb.n2
  have a3:=va.p1
  have b3:=vb.p1
  have e1:((com a b:Nat):Int).tdiv a.2.1=((com a b/a.2.1:Nat):Int):=by rw [Int.tdiv_eq_ediv_of_nonneg (by omega)];rfl
  have e2:((com a b:Nat):Int).tdiv b.2.1=((com a b/b.2.1:Nat):Int):=by rw [Int.tdiv_eq_ediv_of_nonneg (by omega)];rfl
  have d1:com a b/a.2.1≤com a b:=Nat.div_le_self _ _
  have d2:com a b/b.2.1≤com a b:=Nat.div_le_self _ _
  have m1:=mul_bd (a:=a.2.2) (b:=((com a b/a.2.1:Nat):Int)) (A:=1073741824) (B:=120) va.q0 va.q1 (Int.natCast_nonneg _) (by omega)
  have m2:=mul_bd (a:=b.2.2) (b:=((com a b/b.2.1:Nat):Int)) (A:=1073741824) (B:=120) vb.q0 vb.q1 (Int.natCast_nonneg _) (by omega)
  have hsg:sgn a b=a.2.2*((com a b/a.2.1:Nat):Int)+b.2.2*((com a b/b.2.1:Nat):Int):=rfl
  have hk1b:(0:Int)≤((com a b/a.2.1:Nat):Int)∧((com a b/a.2.1:Nat):Int)≤120:=⟨Int.natCast_nonneg _,by omega⟩
  have hk2b:(0:Int)≤((com a b/b.2.1:Nat):Int)∧((com a b/b.2.1:Nat):Int)≤120:=⟨Int.natCast_nonneg _,by omega⟩
  generalize hk1:((com a b/a.2.1:Nat):Int)=k1 at*
  generalize hk2:((com a b/b.2.1:Nat):Int)=k2 at*
  (repeat' (conv=>whnf);first|refine aC ?_ ?_<;>intro<;>try omega|refine z2_R10 ?_|fail);all_goals try (conv=>whnf)
  dsimp only
  refine⟨by omega,?_⟩
  rw [e1]
  (repeat' (conv=>whnf);first|refine aC ?_ ?_<;>intro<;>try omega|refine z2_R10 ?_|fail);all_goals try (conv=>whnf)
  refine⟨by omega,?_⟩
  rw [e2]
  (repeat' (conv=>whnf);first|refine aC ?_ ?_<;>intro<;>try omega|refine z3_R10 ?_|fail);all_goals try (conv=>whnf)
  rw [←hsg]
  have hw:win a b≤400∧1≤win a b:=by unfold win;omega
  have hwe:max ((ints a.1).length :Int) (ints b.1).length =((win a b:Nat):Int):=by rw [ints_len,ints_len];unfold win;omega
  have hbd:∀t,t≤1048576→0≤pls a b t∧pls a b t≤INF:=fun t ht=>⟨pls_nonneg va vb t,pls_le va vb ht⟩
  refine .mk [.nb 5 0 1] ?_
  refine LoopOb.mk (Y:=Nat) (st:=fun t=>⟨[(11,i64 t),(10, .ptr 0 0),(8,i64 (com a b)),(7, .ptr 2 0),(6, .ptr 1 0),(4, .ptr 3 0)],[.box [.vec 4,i64 (com a b),i64 (sgn a b)], .box [.psl 1 (ints a.1),i64 a.2.1,i64 a.2.2], .box [.psl 1 (ints b.1),i64 b.2.1,i64 b.2.2], .box [.nil,i64 0,i64 0], .vec 1 (ints (vals (pls a b) t))]⟩)
   (inv:=fun t=>t≤win a b+com a b) (fun t=>win a b+com a b-t) 0 [5,3,4,2,6] (by omega) (by(exact aL)) ?_
  intro t ht
  (repeat' (conv=>whnf);first|refine aC ?_ ?_<;>intro<;>try omega|refine z3_R10 ?_|fail);all_goals try (conv=>whnf)
  ·refine .mk [] ?_
   (repeat' (conv=>whnf);first|refine aC ?_ ?_<;>intro<;>try omega|refine z2_R10 ?_|(refine aK [] (rAt_ok a t va (by omega)) ?_)|(refine aK [] (rAt_ok b t vb (by omega)) ?_)|(refine aK [] (rplus_ok a b t va vb (by omega)) ?_)|fail);all_goals try (conv=>whnf)
   refine⟨t+1,[0,1,2,3,6],by omega,by omega,?_⟩
   refine Le.mk (by kernel_rfl) ?_ ?_<;>repeat' (first|exact True.intro|refine And.intro ?_ ?_|exact Imp.refl _|exact Imp.any _|exact Imp.num (by omega)|exact rfl|simp [ints,vals_succ])
  ·have htN:t=win a b+com a b:=by omega
   subst htN
   have hsg0:0≤sgn a b∧sgn a b≤1099511627776:=by rw [hsg];omega
   refine .mk [.fz 4] ?_
   refine aM [] (Made_ok (vals (pls a b) (win a b+com a b)) (com a b) (sgn a b) (bd_vals (fun t ht=>hbd t (by omega)) c1 (by omega) (by omega) hsg0.1 hsg0.2)) rfl rfl ?_
   rintro _ _ ⟨⟨x1,x2,x3,x4⟩,hx,rfl,rfl⟩
   (repeat' (conv=>whnf);first|refine aC ?_ ?_<;>intro _|refine z1_R1 ?_|fail);all_goals try (conv=>whnf)
   refine⟨(x1,x2,x3,x4), .inr ⟨a,b,hP,hc,madeP_mk c1 (by rw [vals_len];omega) (fun t ht=>?_) (fun m hm h=>?_) (fun h=>?_) hx⟩,rfl,Imp.refl _⟩
   ·rw [vals_len]at ht;rw [vals_get ht]
   ·rw [vals_len]at hm;exact pls_inf_late va vb (by omega) h
   ·rw [vals_len,show win a b+com a b-com a b=win a b by omega]
    by_cases hf:FinC a∧FinC b
    ·exact(pls_per va vb hf).mono (by unfold frm win;omega)
    ·exact absurd (pls_late hf (Nat.le_refl _)) (h (win a b) (by rw [vals_len];omega))
end
section
open Go.Sx Go.Cv
theorem nmC_of {f a:C3} (hf:VC f) (h5:NF (cv f) a.1 a.2.1 a.2.2):NmC f a:=by
 obtain⟨g1,g2⟩:=h5.vf hf
 refine⟨g1,g2,fun ff=>?_,h5⟩
 intro hi
 have h6:=VF.val_inf g1 hi hi (t:=a.1.length-1) (Nat.le_refl _)
 have h7:=cv_small hf (t:=a.1.length-1) (by have:=g1.n2;omega) (ff.not hf _)
 have h8:=g2 (a.1.length-1)
 unfold cv at h7
 rw [h6]at h8
 simp only [INF]at h8
 omega
theorem pls_fin {a b:C3} (ha:VC a) (hb:VC b) (fa:FinC a) (fb:FinC b):pls a b=pl2 a b:=funext fun t=>by
 unfold pls pl2
 rw [if_neg (fun h=>h.elim (fa.not ha t) (fb.not hb t))]
theorem prep_nm {f g a b:C3} (hf:VC f) (hg:VC g) (h:Prep f.1 f.2.1 f.2.2 g.1 g.2.1 g.2.2 a b):NmC f a∧NmC g b:=by
 obtain⟨⟨p0,e0,_,h1⟩,⟨p1,e1,_,h2⟩,_,_⟩:=h
 have e0':p0=f.2.1:=by omega
 have e1':p1=g.2.1:=by omega
 subst e0' e1'
 exact⟨nmC_of hf h1,nmC_of hg h2⟩
theorem rSumX_ok (f g:C3) (hf:VC f) (hg:VC g) (ff:FinC f) (fg:FinC g):Ctr Tryz.prog 140 [crv f.1 f.2.1 f.2.2,crv g.1 g.2.1 g.2.2] [] (fun r o=>∃x:E4,SumX f g x∧o=[]∧r=crvE x):=
 (Sum_ok f.1 f.2.1 f.2.2 g.1 g.2.1 g.2.2).mono (fun r o ⟨x,h1,h2,h3⟩=>by
  refine⟨x,?_,h2,h3⟩
  rcases h1 with⟨e,he,rfl⟩|⟨a,b,hP,hc,hm⟩
  ·rcases he with⟨_,h|h⟩|⟨rfl,a,b,hP,hc⟩
   ·exact absurd hf.valid h
   ·exact absurd hg.valid h
   ·obtain⟨ha,hb⟩:=prep_nm hf hg hP
    exact⟨a,b,ha,hb, .inr ⟨hc,rfl⟩⟩
  ·obtain⟨ha,hb⟩:=prep_nm hf hg hP
   refine⟨a,b,ha,hb, .inl ⟨hc,?_⟩⟩
   rw [pls_fin ha.1 hb.1 (ha.2.2.1 ff) (hb.2.2.1 fg)]at hm
   rw [show pl2 f g=pl2 a b from funext fun t=>by unfold pl2;rw [ha.2.1,hb.2.1]]
   exact hm)
theorem rNormN (f:C3) (hf:VC f):Ctr Tryz.prog 195 [crv f.1 f.2.1 f.2.2] [] (fun r o=>∃a:C3,NmC f a∧o=[]∧r= .tup [crv a.1 a.2.1 a.2.2,i64 0]):=
 (Normal_ok f.1 f.2.1 f.2.2).mono (fun r o ⟨x,h1,h2,h3⟩=>by
  obtain⟨x1,x2,x3,x4⟩:=x
  rcases h1 with⟨he,p0,p1,e0,e1,h4,h5⟩|⟨h,_⟩
  ·dsimp only at he e1 h5 h3
   subst he e1
   have e2:p0=f.2.1:=by omega
   subst e2
   exact⟨(x1,p1,x3),nmC_of hf h5,h2,h3⟩
  ·exact absurd hf.valid h)
theorem z2_Y2 {G H:Prop} (k:H) (h:H→G:=by first|exact fun r=>aS r|exact fun r=>aG r|exact fun r=>aD r|exact fun r=>aP_R1 r|exact fun r=>aI r|exact fun r=>aJ r|exact fun r=>aW (.qs [0,1,2,3,4,5] (.l 6 [1] (.l 7 [1] (.l 8 [] (.qs [9] (.l 10 [] .nil .no)) .no) .no) .no)) r):G:=h k
theorem z1_Y2 {G H:Prop} (k:H) (h:H→G:=by first|exact fun r=>aS r|exact fun r=>aG r|exact fun r=>aD r|exact fun r=>aH r|exact fun r=>aP_R1 r|exact fun r=>aI r|exact fun r=>aJ r|exact fun r=>aW (.qs [0,1,2,3,4,5] (.l 6 [1] (.l 7 [1] (.l 8 [] (.qs [9] (.l 10 [] .nil .no)) .no) .no) .no)) r):G:=h k
theorem rAhead_ok (f:C3) (hf:VC f) (ff:FinC f) (d:Nat) (hd:d≤100000):Ctr Tryz.prog 178 [crv f.1 f.2.1 f.2.2,i64 d] [] (fun r o=>∃x,MkP (ahd f d) x∧o=[]∧r=crvE x):=by
 refine Ctr.impE ?_
 refine fI 0 Tryz.func178 ?_
 (repeat' (conv=>whnf);first|refine aC ?_ ?_<;>intro<;>try omega|refine z1_Y2 ?_|fail);all_goals try (conv=>whnf)
 refine aM [] (rNormN f hf) rfl rfl ?_
 rintro _ _ ⟨a,hn,rfl,rfl⟩
 have ha:=hn.1
 have fa:=hn.2.2.1 ff
 have n1:=ha.n1
 have n2:=ha.n2
 have p1:=ha.p1
 have p2:=ha.p2
 have pn:=ha.pn
 have q0:=ha.q0
 have q1:=ha.q1
 have hil:=ints_len a.1
 have hmk:∀x,MkP (ahd a d) x→MkP (ahd f d) x:=fun x h=>by rw [ahd_congr hn.2.1]at h;exact h
 have hbd:∀t,t≤1000→0≤ahd a d t∧ahd a d t≤INF:=fun t ht=>by
  have:=ahd_bd ha fa (d:=d) (t:=t) (by omega)
  simp only [INF];omega
 have hni:∀t,t≤1000→ahd a d t≠INF:=fun t ht=>by
  have:=ahd_bd ha fa (d:=d) (t:=t) (by omega)
  simp only [INF];omega
 (repeat' (conv=>whnf);first|refine aC ?_ ?_<;>intro<;>try omega|refine z2_Y2 ?_|fail);all_goals try (conv=>whnf)
 refine .mk [] ?_
 have hv1:([[i64 0]]:List (List SV))=ints (vals (ahd a d) 1):=by simp [vals,ahd,ints]
 rw [hv1]
 refine LoopOb.mk (Y:=Nat) (st:=fun t=>⟨[(9,i64 t),(8, .ptr 4 0),(6, .ptr 2 0),(1,i64 d),(4, .ptr 1 0)],[.box [.psl 1 (ints f.1),i64 f.2.1,i64 f.2.2], .box [.nil,i64 0,i64 0], .box [.psl 1 (ints a.1),i64 a.2.1,i64 a.2.2], .vec 1 (ints (vals (ahd a d) t)), .box [.vec 3,i64 a.2.1,i64 a.2.2]]⟩)
  (inv:=fun t=>1≤t∧t≤a.1.length+a.2.1+1) (fun t=>a.1.length+a.2.1+1-t) 1 [0,1,2,3,4] ⟨by omega,by omega⟩ (by(exact aL)) ?_
 rintro t ⟨ht1,ht⟩
 (repeat' (conv=>whnf);first|refine aC ?_ ?_<;>intro<;>try omega|refine z2_Y2 ?_|fail);all_goals try (conv=>whnf)
 ·refine .mk [] ?_
  refine aK [] (show Ctr Tryz.prog 94 [crv a.1 a.2.1 a.2.2,i64 ((t:Int)+d)] [] (fun r o=>o=[]∧r=i64 (ahd a d t))from by
   have:=rAt_ok a (t+d) ha (by omega)
   rw [Int.natCast_add]at this
   unfold ahd;rw [if_neg (by omega)];exact this) ?_
  (repeat' (conv=>whnf);first|refine aC ?_ ?_<;>intro<;>try omega|refine z1_Y2 ?_|fail);all_goals try (conv=>whnf)
  refine⟨t+1,[0,1,2,6,4],⟨by omega,by omega⟩,by omega,?_⟩
  refine Le.mk (by kernel_rfl) ?_ ?_<;>repeat' (first|exact True.intro|refine And.intro ?_ ?_|exact Imp.refl _|exact Imp.any _|exact Imp.num (by omega)|exact rfl|simp [ints,vals_succ])
 ·have htN:t=a.1.length+a.2.1+1:=by omega
  subst htN
  refine .mk [.fz 3] ?_
  refine aM [] (Made_ok (vals (ahd a d) (a.1.length+a.2.1+1)) a.2.1 a.2.2 (bd_vals (fun t ht=>hbd t (by omega)) p1 (by omega) (by omega) q0 (by omega))) rfl rfl ?_
  rintro _ _ ⟨⟨x1,x2,x3,x4⟩,hx,rfl,rfl⟩
  (repeat' (conv=>whnf);first|refine aC ?_ ?_<;>intro<;>try omega|refine z1_Y2 ?_|fail);all_goals try (conv=>whnf)
  refine⟨(x1,x2,x3,x4),hmk _ (madeP_mk p1 (by rw [vals_len];omega) (fun t ht=>?_) (fun m hm h=>?_) (fun h=>?_) hx),rfl,Imp.refl _⟩
  ·rw [vals_len]at ht;rw [vals_get ht]
  ·rw [vals_len]at hm;exact absurd h (hni m (by omega))
  ·rw [vals_len,show a.1.length+a.2.1+1-a.2.1=a.1.length+1 by omega]
   exact ahd_per ha d (a.1.length+1) (by omega) (by omega)
end
section
open Go.Sx Go.Np Go.Cv Go.Tp
def befR:Option Nat→SV
 |none=> .tup [i64 0, .bl false]
 |some s=> .tup [i64 s, .bl true]
open Classical in
noncomputable def befP (n:Nt) (d:List (List Int)) (f h:Int):Option Nat:=if ShapeP n d∧HopP n f h then bef d (n.fl.getD f.toNat fl0) h.toNat else none
theorem befP_t {n:Nt} {d:List (List Int)} {f h:Int} (hA:ShapeP n d∧HopP n f h):befP n d f h=bef d (n.fl.getD f.toNat fl0) h.toNat:=by unfold befP;rw [if_pos hA]
theorem befP_f {n:Nt} {d:List (List Int)} {f h:Int} (hA:¬(ShapeP n d∧HopP n f h)):befP n d f h=none:=by unfold befP;rw [if_neg hA]
end
section
open Go.Sx Go.Np Go.Cv Go.Tp
theorem z1_Y3 {G H:Prop} (k:H) (h:H→G:=by first|exact fun r=>aS r|exact fun r=>aG r|exact fun r=>aD r|exact fun r=>aH r|exact fun r=>aP_R1 r|exact fun r=>aI r|exact fun r=>aJ r|exact fun r=>aW (.qs [0,1,2,3,4,5,6,7,8,9,10,11] .nil) r):G:=h k
theorem rShape_ok (n:Nt) (hn:NL n) (d:List (List Int)) (hd:DL d):Ctr Tryz.prog 62 [ntv n, .psl 1 (dls d)] [] (fun r o=>o=[]∧r= .bp (ShapeP n d)):=by
 refine Ctr.imp ?_
 refine fI 0 Tryz.func62 ?_
 have cC:=rCheck_ok n hn
 have hll:=lnl n.ln
 have hdl:=dls_len d
 have hd1:=hd.l
 (repeat' (conv=>whnf);first|refine aC ?_ ?_<;>intro<;>try omega|refine z1_Y3 ?_|(refine aK [] cC ?_)|fail);all_goals try (conv=>whnf)
 all_goals try (exact⟨rfl,Imp.bl ⟨fun h=>(by cases h),fun h=>by have:=h.c;have:=h.l;omega⟩⟩)
 have hc:chkN n=0:=by omega
 have hl:d.length=n.ln.length:=by omega
 refine LoopOb.mk (Y:=Nat) (st:=fun i=>⟨[(5,i64 i),(2, .ptr 0 0),(1, .psl 1 (dls d))],[.box [.psl 1 (strs n.nm), .psl 5 (lns n.ln), .psl 8 (fls n.fl)]]⟩)
  (inv:=fun i=>i≤d.length∧(∀k,k<i→((d.getD k []).length :Int)=(n.ln.getD k ln0).n)∧∀k,k<i→∀j,j<(d.getD k []).length →-1≤(d.getD k []).getD j 0∧(d.getD k []).getD j 0≤400) (fun i=>d.length-i) 0 [0] ⟨by omega,by omega,by omega⟩ (by(exact aL)) ?_
 rintro i ⟨hi,hv1,hv2⟩
 (repeat' (conv=>whnf);first|refine z1_Y3 ?_|fail);all_goals try (conv=>whnf)
 refine CondOb.mk (fun hlt=>?_) (fun hlt=>?_)
 ·have hil:i<d.length:=by omega
  have hg:=dls_get hil
  have hg2:=lng (l:=n.ln) (i:=i) (by omega)
  have hrl:=hd.r i
  have hS:(ShapeP n d→((d.getD i []).length :Int)=(n.ln.getD i ln0).n ∧∀j,j<(d.getD i []).length →-1≤(d.getD i []).getD j 0∧(d.getD i []).getD j 0≤400):=fun h=>⟨h.r i hil,h.b i hil⟩
  have hst:((d.getD i []).length :Int)=(n.ln.getD i ln0).n →(∀j,j<(d.getD i []).length →-1≤(d.getD i []).getD j 0∧(d.getD i []).getD j 0≤400)→(∀k,k<i+1→((d.getD k []).length :Int)=(n.ln.getD k ln0).n)∧∀k,k<i+1→∀j,j<(d.getD k []).length →-1≤(d.getD k []).getD j 0∧(d.getD k []).getD j 0≤400:=fun h1 h2=>by
   refine⟨fun k hk=>?_,fun k hk=>?_⟩
   ·by_cases e:k=i
    ·rw [e];exact h1
    ·exact hv1 k (by omega)
   ·by_cases e:k=i
    ·rw [e];exact h2
    ·exact hv2 k (by omega)
  clear hv1 hv2
  generalize n.ln.getD i ln0=ll at*
  generalize d.getD i []=row at*
  have hil2:=ints_len row
  (repeat' (conv=>whnf);first|refine⟨i,_,rfl,hg2,?_⟩|refine⟨i,_,rfl,hg,?_⟩|refine aC ?_ ?_<;>intro<;>try omega|refine z1_Y3 ?_|fail);all_goals try (conv=>whnf)
  ·exact⟨rfl,Imp.bl ⟨fun h=>(by cases h),fun h=>by have:=(hS h).1;omega⟩⟩
  have hrn:(row.length:Int)=ll.n:=by omega
  refine LoopOb.mk (Y:=Nat) (st:=fun j=>⟨[(6,i64 j),(5,i64 i),(2, .ptr 0 0),(1, .psl 1 (dls d))],[.box [.psl 1 (strs n.nm), .psl 5 (lns n.ln), .psl 8 (fls n.fl)]]⟩)
   (inv:=fun j=>j≤row.length∧∀k,k<j→-1≤row.getD k 0∧row.getD k 0≤400) (fun j=>row.length-j) 0 [0] ⟨by omega,by omega⟩ (by(exact aL)) ?_
  rintro j ⟨hj,hw⟩
  (repeat' (conv=>whnf);first|refine⟨i,_,rfl,hg,?_⟩|refine z1_Y3 ?_|fail);all_goals try (conv=>whnf)
  refine CondOb.mk (fun hlt2=>?_) (fun hlt2=>?_)
  ·have hjl:j<row.length:=by omega
   have hgr:=ints_get hjl
   have hS2:ShapeP n d→-1≤row.getD j 0∧row.getD j 0≤400:=fun h=>(hS h).2 j hjl
   have hst2: -1≤row.getD j 0∧row.getD j 0≤400→∀k,k<j+1→-1≤row.getD k 0∧row.getD k 0≤400:=fun h k hk=>by
    by_cases e:k=j
    ·rw [e];exact h
    ·exact hw k (by omega)
   generalize row.getD j 0=x at*
   (repeat' (conv=>whnf);first|refine⟨j,_,rfl,hgr,?_⟩|refine⟨i,_,rfl,hg,?_⟩|refine aC ?_ ?_<;>intro<;>try omega|refine z1_Y3 ?_|fail);all_goals try (conv=>whnf)
   all_goals first
    |exact⟨j+1,[0],⟨by omega,hst2 (by omega)⟩,by omega,by(exact aL)⟩
    |exact⟨rfl,Imp.bl ⟨fun h=>(by cases h),fun h=>by have:=hS2 h;omega⟩⟩
    |trace_state
  ·have e:j=row.length:=by omega
   subst e
   obtain⟨s1,s2⟩:=hst hrn hw
   (repeat' (conv=>whnf);first|refine aC ?_ ?_<;>intro<;>try omega|refine z1_Y3 ?_|fail);all_goals try (conv=>whnf)
   exact⟨i+1,[0],⟨by omega,s1,s2⟩,by omega,by(exact aL)⟩
 ·have e:i=d.length:=by omega
  subst e
  (repeat' (conv=>whnf);first|refine aC ?_ ?_<;>intro<;>try omega|refine z1_Y3 ?_|fail);all_goals try (conv=>whnf)
  exact⟨rfl,Imp.bl ⟨fun _=>⟨hc,hl,hv1,hv2⟩,fun _=>rfl⟩⟩
end
section
open Go.Sx Go.Np Go.Cv Go.Tp
theorem z1_Y4 {G H:Prop} (k:H) (h:H→G:=by first|exact fun r=>aS r|exact fun r=>aG r|exact fun r=>aD r|exact fun r=>aH r|exact fun r=>aP_R1 r|exact fun r=>aI r|exact fun r=>aJ r|exact fun r=>aW (.qs [0,1,2,3,4,5,6,7,8,9,10,11,12] .nil) r):G:=h k
theorem rBefore_ok (n:Nt) (hn:NL n) (d:List (List Int)) (hd:DL d) (f h:Int):Ctr Tryz.prog 177 [ntv n, .psl 1 (dls d),i64 f,i64 h] [] (fun r o=>o=[]∧r=befR (befP n d f h)):=by
 refine fI 0 Tryz.func177 ?_
 have cS:=rShape_ok n hn d hd
 have hfl:=fll n.fl
 have hdl:=dls_len d
 have hd1:=hd.l
 by_cases hA:ShapeP n d∧HopP n f h
 ·have hB:=befP_t hA
  generalize befP n d f h=R at*
  obtain⟨hs,h1,h2,h3,h4⟩:=hA
  obtain⟨i,rfl⟩:=Int.eq_ofNat_of_zero_le h1
  obtain⟨k,rfl⟩:=Int.eq_ofNat_of_zero_le h3
  rw [Int.toNat_natCast]at h4 hB
  rw [Int.toNat_natCast]at hB
  have hg:=flg (l:=n.fl) (i:=i) (by omega)
  have hf:=chk_fl hs.c i (by omega)
  generalize n.fl.getD i fl0=g at*
  have hil:=ints_len g.rt
  have r4:=hf.l2
  (repeat' (conv=>whnf);first|refine⟨i,_,rfl,hg,?_⟩|refine aC ?_ ?_<;>intro<;>try omega|refine z1_Y4 ?_|(refine aK [] cS ?_)|fail);all_goals try (conv=>whnf)
  all_goals try (exfalso;first|exact absurd hs (by assumption)|omega)
  refine LoopOb.mk (Y:=Nat×Nat) (st:=fun y=>⟨[(12,i64 y.1),(11,i64 y.2),(10, .ptr 1 0),(3,i64 k),(1, .psl 1 (dls d))],[.box [.psl 1 (strs n.nm), .psl 5 (lns n.ln), .psl 8 (fls n.fl)], .box (flv g)]⟩)
   (inv:=fun y=>y.1≤k∧bef d g y.1=some y.2) (fun y=>k-y.1) (0,0) [0,1] ⟨by simp,rfl⟩ (by(exact aL)) ?_
  rintro⟨j,s⟩ ⟨hj,hb⟩
  dsimp only at hj hb⊢
  have hsl:=bef_le hs hf (by omega) hb
  (repeat' (conv=>whnf);first|refine z1_Y4 ?_|fail);all_goals try (conv=>whnf)
  refine CondOb.mk (fun hlt=>?_) (fun hlt=>?_)
  ·have hjk:j<k:=by omega
   obtain⟨w1,w2,w3,w4⟩:=hs.dly hf (i:=j) (by omega)
   have hxx:=(hf.b j (by omega)).1
   have hcc:=(hf.c j (by omega)).1
   have hgr:=ints_get (l:=g.rt) (j:=j) (by omega)
   have hst:bef d g (j+1)=if dly d g j<0 then none else some (s+(dly d g j).toNat):=by simp only [bef,hb]
   have hne:bef d g (j+1)=none→bef d g k=none:=fun h=>bef_none h (by omega)
   have hg1:=dls_get w1
   have hg2:=ints_get w2
   rw [show(d.getD (g.rt.getD j 0).toNat []).getD g.cl.toNat 0=dly d g j from rfl]at hg2
   generalize dly d g j=x at*
   generalize d.getD (g.rt.getD j 0).toNat []=row at*
   generalize g.rt.getD j 0=a at*
   (repeat' (conv=>whnf);first|refine⟨g.cl.toNat,_,by omega,hg2,?_⟩|refine⟨a.toNat,_,by omega,hg1,?_⟩|refine⟨j,_,rfl,hgr,?_⟩|refine aC ?_ ?_<;>intro<;>try omega|refine z1_Y4 ?_|fail);all_goals try (conv=>whnf)
   ·rw [if_pos (by assumption)]at hst
    rw [hB,hne hst]
    exact⟨rfl,rfl⟩
   ·rw [if_neg (by assumption)]at hst
    exact⟨(j+1,s+x.toNat),[0,1],⟨by dsimp only;omega,hst⟩,by dsimp only;omega,by rw [show((s+x.toNat:Nat):Int)=s+x by omega];(exact aL)⟩
  ·have e:j=k:=by omega
   subst e
   (repeat' (conv=>whnf);first|refine aC ?_ ?_<;>intro<;>try omega|refine z1_Y4 ?_|fail);all_goals try (conv=>whnf)
   exact⟨rfl,by rw [hB,hb];rfl⟩
 ·rw [befP_f hA]
  (repeat' (conv=>whnf);first|refine⟨f.toNat,_,by omega,flg (show f.toNat<n.fl.length by omega),?_⟩|refine aC ?_ ?_<;>intro<;>try omega|refine z1_Y4 ?_|(refine aK [] cS ?_)|fail);all_goals try (conv=>whnf)
  all_goals try exact⟨rfl,rfl⟩
  all_goals
   have hSp:ShapeP n d:=Classical.not_not.1 (by assumption)
   exact absurd ⟨hSp,by omega,by omega,by omega,by rw [ints_len]at*;omega⟩ hA
end
end Go.Proofs.YtjhmjiimpmmnhaaGreat
