/- Lemmas of this seat. Conditions: as stated. -/
import Derived.Test.YtbcjojomkibgeaaGreatQd
set_option linter.unusedVariables false
set_option linter.unusedSimpArgs false
set_option maxHeartbeats 2000000
set_option maxRecDepth 4000
namespace Go.Proofs.YtbcjojomkibgeaaGreat
open Go.Sx Go.Fq Go.Dt
structure ScA (p:Pr) (co:Int) (ov q:Prop) (j:Nat) (g:Nat→Int):Prop where
 hb:∀a,B62 (g a)
 z:∀a,j≤a→g a=0
 ex:¬q→¬ov∧∀a<j,g a=cc p co a
 fit:(∀a<p.c.length,B62 (cc p co a))→q→ov
theorem ScA.step {p:Pr} {co:Int} {ov q q':Prop} {j:Nat} {g:Nat→Int} {v:Int} (h:ScA p co ov q j g) (hj:j<p.c.length) (k:Cal q q' ((p.c.getD j (0,1)).1 *(co/(p.c.getD j (0,1)).2)) v):ScA p co ov q' (j+1) (up g j v):=by
 have e:cc p co j=(p.c.getD j (0,1)).1 *(co/(p.c.getD j (0,1)).2):=by unfold cc;rw [if_pos hj]
 refine⟨fun a=>?_,fun a ha=>?_,fun hq=>?_,fun F hq=>?_⟩
 ·unfold up;split
  ·exact k.bd
  ·exact h.hb a
 ·unfold up;rw [if_neg (by omega)];exact h.z a (by omega)
 ·obtain⟨h1,h2⟩:=k.ex hq
  obtain⟨h3,h4⟩:=h.ex h1
  refine⟨h3,fun a ha=>?_⟩
  unfold up;split
  ·rename_i e2;subst e2;rw [h2,e]
  ·exact h4 a (by omega)
 ·exact h.fit F (k.fit (by rw [←e];exact F j hj) hq)
theorem cst_b62 {n m i k:Nat}:B62 (cst n m i k):=by unfold cst;split<;>decide
theorem vcs_rep {w:Nat}:vcs w (fun _=>0)=List.replicate w [i64 0]:=by
 unfold vcs;rw [List.map_const'];simp
structure SvF (p:Pr) (f:Nat→Nat→Int) (bs tu sl:Nat→Int) (co:Int):Prop where
 c:∀a<p.c.length,B62 (cc p co a)
 pr:PrF (cst p.c.length p.r.length p.r.length) 1 bs f p.r.length (nE p+1)
 ds:∀cf,(cf=cst p.c.length p.r.length p.r.length∨cf=cc p co)→∀g,DsF p.r.length (nE p) (up2 f p.r.length g) (uC p) cf
 st:∀cf,(cf=cst p.c.length p.r.length p.r.length∨cf=cc p co)→∀g (s:TS),Inv p.r.length (nE p+1) (up2 f p.r.length g) (uC p) cf s.1 (bN s) s.2.2→(∀i<p.r.length,0≤s.2.1 i∧s.2.1 i<nE p)→
  (∀i<p.r.length,DuP s.1 s.2.2 p.c.length p.r.length 1 1 tu sl i)∧(∀i<p.r.length,DuP s.1 s.2.2 p.c.length p.r.length 0 co tu sl i)∧PrF (cc p co) s.2.2 s.2.1 s.1 p.r.length (nE p+1)∧
  (∀i<p.r.length,(fnew (s.1 i (nE p)) s.2.2).2.2 =0)∧(∀c<nE p,∀i<p.r.length,(fnew (0-s.1 i c) s.2.2).2.2 =0)∧B62 (s.2.2*co)∧s.2.2*co≠0∧(fnew (0-s.1 p.r.length (nE p)) (s.2.2*co)).2.2 =0
structure SvR (p:Pr) (FF ov q:Prop) (s:Slt):Prop where
 ex:¬q→¬ov∧SolV p s
 fit:FF→q→ov
abbrev solw (s:Int×List F×F×List F×List F):SV:= .agg [i64 s.1,fsl s.2.1,i64 s.2.2.1.1,i64 s.2.2.1.2,fsl s.2.2.2.1,fsl s.2.2.2.2]
abbrev tabZ (m:Nat) (bs tu sl:Nat→Int) (ov:Prop):List Chunk:=[.box [.any, .any, .any, .any, .any, .any, .any, .any, .bp ov], .dead, .vec 1 (vcs m bs), .vec 1 (vcs m tu), .vec 1 (vcs m sl)]
theorem z3_Qe {G H:Prop} (k:H) (h:H→G:=by first|exact fun r=>aS r|exact fun r=>aG r|exact fun r=>aD r|exact fun r=>aP_Q5 r|exact fun r=>aI r|exact fun r=>aJ r|exact fun r=>aW (.qs [0,1,2,3,4,5,6,7,8,9,10,11,12] (.l 13 [] .nil .no)) r|exact fun r=>aW (.qs [0,1,2,3,4,5,6,7] (.l 8 [] (.qs [9] (.l 10 [] .nil .no)) .no)) r|exact fun r=>aW (.qs [0,1,2,3,4,5,6,7,8,9] (.l 10 [] .nil .no)) r|exact fun r=>aW (.qs [0,1,2,3,4,5,6,7,8,9,10] (.l 11 [9,7,3] (.qs [12,13,14] .nil) .no)) r|exact fun r=>aW (.qs [0,1,2,3,4,5,6,7,8,9] (.l 10 [] (.qs [11] .nil) .no)) r|exact fun r=>aW (.qs [0,1,2,3,4,5,6,7,8,9,10,11,16,17,18,19,20,21,22,23,24] (.l 12 [24,20,10,8,4] (.qs [13,14,15] (.l 25 [14,10,8,4] (.l 26 [] (.qs [27] (.l 28 [] .nil .no)) .no) .no)) .no)) r):G:=h k
theorem z2_Qe {G H:Prop} (k:H) (h:H→G:=by first|exact fun r=>aS r|exact fun r=>aG r|exact fun r=>aD r|exact fun r=>aH r|exact fun r=>aP_Q5 r|exact fun r=>aI r|exact fun r=>aJ r|exact fun r=>aW (.qs [0,1,2,3,4,5,6,7,8,9,10,11,12] (.l 13 [] .nil .no)) r|exact fun r=>aW (.qs [0,1,2,3,4,5,6,7] (.l 8 [] (.qs [9] (.l 10 [] .nil .no)) .no)) r|exact fun r=>aW (.qs [0,1,2,3,4,5,6,7,8,9] (.l 10 [] .nil .no)) r|exact fun r=>aW (.qs [0,1,2,3,4,5,6,7,8,9,10] (.l 11 [9,7,3] (.qs [12,13,14] .nil) .no)) r|exact fun r=>aW (.qs [0,1,2,3,4,5,6,7,8,9] (.l 10 [] (.qs [11] .nil) .no)) r|exact fun r=>aW (.qs [0,1,2,3,4,5,6,7,8,9,10,11,16,17,18,19,20,21,22,23,24] (.l 12 [24,20,10,8,4] (.qs [13,14,15] (.l 25 [14,10,8,4] (.l 26 [] (.qs [27] (.l 28 [] .nil .no)) .no) .no)) .no)) r):G:=h k
theorem z1_Qe {G H:Prop} (k:H) (h:H→G:=by first|exact fun r=>aS r|exact fun r=>aG r|exact fun r=>aD r|exact fun r=>aH r|exact fun r=>aP_Q5 r|exact fun r=>aI r|exact fun r=>aJ r|exact fun r=>aW (.qs [0,3] (.l 1 [] (.l 2 [] (.l 4 [] (.qs [6] (.l 5 [] (.qs [7] .nil) .no)) .no) (.l 4 [] (.l 2 [] (.qs [6] (.l 5 [] (.qs [7] .nil) .no)) (.l 5 [] (.l 2 [] (.qs [6,7] .nil) .no) .no)) .no)) .no)) r|exact fun r=>aW (.qs [0,1,2,3,4,5,6,7,8,9,10,11,12] (.l 13 [] .nil .no)) r|exact fun r=>aW (.qs [0,1,2,3,4,5,6,7] (.l 8 [] (.qs [9] (.l 10 [] .nil .no)) .no)) r|exact fun r=>aW (.qs [0,1,2,3,4,5,6,7,8,9] (.l 10 [] .nil .no)) r|exact fun r=>aW (.qs [0,1,2,3,4,5,6,7,8,9,10] (.l 11 [9,7,3] (.qs [12,13,14] .nil) .no)) r|exact fun r=>aW (.qs [0,1,2,3,4,5,6,7,8,9] (.l 10 [] (.qs [11] .nil) .no)) r|exact fun r=>aW (.qs [0,1,2,3,4,5,6,7,8,9,10,11,16,17,18,19,20,21,22,23,24] (.l 12 [24,20,10,8,4] (.qs [13,14,15] (.l 25 [14,10,8,4] (.l 26 [] (.qs [27] (.l 28 [] .nil .no)) .no) .no)) .no)) r):G:=h k
theorem solve_ok' (p:Pr) (hv:VP p) (f:Nat→Nat→Int) (bs tu sl:Nat→Int) (co:Int) (ov:Prop) (h:BuA p p.r.length ov f bs tu sl co):
  Ctr Tryz.prog 72 [.ptr 0 0,prv p] (tab p.r.length p.r.length (nE p+1) p.c.length p.r.length f bs tu sl 1 co ov)
   (fun r o=>∃x:Prop×(Int×List F×F×List F×List F)×(Nat→Int),SvR p (SvF p f bs tu sl co) ov x.1 x.2.1∧o=tabZ p.r.length x.2.2 tu sl x.1∧r=solw x.2.1):=by
 refine Ctr.impO ?_
 refine fI 5 Tryz.func72 ?_
 obtain⟨hv1,hv2,hv3,hv4,hv5⟩:=id hv
 have hpm:D1 p→∀i<p.r.length,tu i*sl i=1∨tu i*sl i= -1:=fun hd i hi=>by rw [(h.one hd).2.2 i hi,Int.mul_one];exact h.ht i hi
 have hlc:=fr_len p.c
 have cWd:=width_ok p.r.length p.r.length (nE p+1) p.c.length p.r.length f bs tu sl 1 co ov (by omega) (by omega)
 (repeat' (conv=>whnf);first|refine DrawOb.cut (Y:=Unit) [] (.qs [0,3] (.l 1 [] (.l 2 [] (.l 4 [] (.qs [6] (.l 5 [] (.qs [7] .nil) .no)) .no) (.l 4 [] (.l 2 [] (.qs [6] (.l 5 [] (.qs [7] .nil) .no)) (.l 5 [] (.l 2 [] (.qs [6,7] .nil) .no) .no)) .no)) .no)) (fun _=>⟨[(6, .vec 8),(5, .vec 7),(4, .ptr 6 0),(3, .ptr 5 0),(0, .ptr 0 0)],tab p.r.length p.r.length (nE p+1) p.c.length p.r.length f bs tu sl 1 co ov++[.box [fsl p.c, .psl 4 (rws p.r)], .box [.any, .any, .any, .any, .any, .any], .vec 1 (vcs (nE p) fun _=>0), .vec 1 (vcs (nE p) fun _=>0)]⟩) (fun _=>True) (by decide+kernel) ?_ ?_|refine aC ?_ ?_<;>intro _|refine z1_Qe ?_|(refine aK [0,1,2,3,4] cWd ?_)|refine⟨nE p,nE p,by unfold nE;push_cast;omega,by unfold nE;push_cast;omega,Nat.le_refl _,⟨by unfold nE;simp only;omega,by unfold nE;omega⟩,?_⟩|refine And.intro ?_ ?_|fail);all_goals try (conv=>whnf)
 ·exact⟨(),[0,1,2,3,4,5,6,7,8],trivial,by dsimp only;rw [vcs_rep];(exact aL)⟩
 ·exact⟨(),[0,1,2,3,4,5,6,7,8],trivial,by dsimp only;rw [vcs_rep];(exact aL)⟩
 ·exact⟨(),[0,1,2,3,4,5,6,8,7],trivial,by dsimp only;rw [vcs_rep];(exact aL)⟩
 clear cWd
 rintro- -
 (repeat' (conv=>whnf);first|refine aC ?_ ?_<;>intro<;>try omega|refine z2_Qe ?_|fail);all_goals try (conv=>whnf)
 refine LoopOb.mk (Y:=Nat) (st:=fun i=>⟨[(7,i64 i),(6, .vec 8),(5, .vec 7),(4, .ptr 6 0),(3, .ptr 5 0),(0, .ptr 0 0)],tab p.r.length p.r.length (nE p+1) p.c.length p.r.length f bs tu sl 1 co ov++[.box [fsl p.c, .psl 4 (rws p.r)], .box [.any, .any, .any, .any, .any, .any], .vec 1 (vcs (nE p) (cst p.c.length p.r.length i)), .vec 1 (vcs (nE p) fun _=>0)]⟩)
  (inv:=fun i=>i≤p.r.length) (fun i=>p.r.length-i) 0 [0,1,2,3,4,5,6,7,8] (by omega) (by
   have e:(cst p.c.length p.r.length 0)=fun _=>0:=by funext k;unfold cst;rw [if_neg (by omega)]
   rw [e];(exact aL)) ?_
 intro i hi
 (repeat' (conv=>whnf);first|refine z2_Qe ?_|fail);all_goals try (conv=>whnf)
 refine CondOb.mk (fun hlt=>?_) (fun hlt=>?_)
 ·have him:i<p.r.length:=by omega
  have hnE:p.c.length+p.r.length+i<nE p:=by unfold nE;omega
  (repeat' (conv=>whnf);first|refine aC ?_ ?_<;>intro<;>try omega|refine z2_Qe ?_|refine⟨p.c.length+p.r.length+i,by push_cast;omega,by rw [vcs_len];exact hnE,?_⟩|refine⟨_,vcs_get hnE,?_⟩|fail);all_goals try (conv=>whnf)
  exact⟨i+1,[0,1,2,3,4,5,6,7,8],by omega,by omega,by rw [←cst_step,←vcs_set];(exact aL)⟩
 have e:i=p.r.length:=by omega
 subst e
 (repeat' (conv=>whnf);first|refine aC ?_ ?_<;>intro<;>try omega|refine z2_Qe ?_|fail);all_goals try (conv=>whnf)
 clear hi hlt
 refine LoopOb.mk (Y:=Nat×Prop×(Nat→Int)) (st:=fun y=>⟨[(42,i64 y.1),(41,i64 p.c.length),(40,fsl p.c),(6, .vec 8),(5, .vec 7),(4, .ptr 6 0),(3, .ptr 5 0),(0, .ptr 0 0)],tab p.r.length p.r.length (nE p+1) p.c.length p.r.length f bs tu sl 1 co y.2.1++[.box [fsl p.c, .psl 4 (rws p.r)], .box [.any, .any, .any, .any, .any, .any], .vec 1 (vcs (nE p) (cst p.c.length p.r.length p.r.length)), .vec 1 (vcs (nE p) y.2.2)]⟩)
  (inv:=fun y=>y.1≤p.c.length∧ScA p co ov y.2.1 y.1 y.2.2) (fun y=>p.c.length-y.1) (0,ov,fun _=>0) [0,1,2,3,4,5,6,7,8] ⟨by simp,⟨fun _=>b62_0,fun _ _=>rfl,fun h=>⟨h,fun a ha=>absurd ha (by simp)⟩,fun _ h=>h⟩⟩ (by rw [hlc];(exact aL)) ?_
 rintro⟨j,q,g⟩ ⟨hj,hS⟩
 dsimp only at hj hS⊢
 (repeat' (conv=>whnf);first|refine z2_Qe ?_|fail);all_goals try (conv=>whnf)
 refine CondOb.mk (fun hlt=>?_) (fun hlt=>?_)
 ·have hjl:j<p.c.length:=by omega
  have hgj:=fr_get (l:=p.c) hjl
  have hmem:p.c.getD j (0,1)∈p.c:=by rw [List.getD_eq_getElem?_getD,List.getElem?_eq_getElem hjl];exact List.getElem_mem _
  have vj:=hv4 _ hmem
  have hst:=fun q' v=>ScA.step (q':=q') (v:=v) hS hjl
  generalize p.c.getD j (0,1)=x at*
  obtain⟨x,y⟩:=x
  have cI:=integer_ok p.r.length p.r.length (nE p+1) p.c.length p.r.length f bs tu sl 1 co q x y co vj h.hc.1 h.hc.2
  have hvl:=vcs_len (nE p) g
  have hnE:j<nE p:=by unfold nE;omega
  (repeat' (conv=>whnf);first|refine⟨j,_,rfl,hgj,?_⟩|refine aC ?_ ?_<;>intro<;>try omega|refine z2_Qe ?_|fail);all_goals try (conv=>whnf)
  refine aM [0,1,2,3,4] cI rfl rfl ?_
  rintro _ _ ⟨⟨q3,v⟩,hz,rfl,rfl⟩
  dsimp only at hz⊢
  have hS2:=hst q3 v hz
  (repeat' (conv=>whnf);first|refine⟨_,vcs_get (by omega),?_⟩|refine⟨j,rfl,by rw [hvl];omega,?_⟩|refine aC ?_ ?_<;>intro<;>try omega|refine z2_Qe ?_|fail);all_goals try (conv=>whnf)
  exact⟨(j+1,q3,up g j v),[0,1,2,3,4,5,6,7,8],⟨by dsimp only;omega,hS2⟩,by dsimp only;omega,by rw [←vcs_set];(exact aL)⟩
 have e:j=p.c.length:=by omega
 subst e
 (repeat' (conv=>whnf);first|refine aC ?_ ?_<;>intro _|refine z3_Qe ?_|fail);all_goals try (conv=>whnf)
 refine .mk [.fz 7, .fz 8] ?_
 (conv=>whnf)
 have cP1:=price_ok p.r.length (nE p+1) p.c.length p.r.length f bs tu sl 1 co q (cst p.c.length p.r.length p.r.length) (by omega) (by omega) rfl ⟨Nat.le_refl _,by omega⟩ (fun k _=>cst_b62) (by unfold cst;rw [if_neg (by omega)]) (by decide) (fun a ha b _=>h.hb a ha b) (fun i hi=>by have:=h.hs i hi;omega)
 refine aM [0,1,2,3,4] cP1 rfl rfl ?_
 rintro _ _ ⟨⟨q1,g1⟩,hp1,rfl,rfl⟩
 dsimp only at hp1⊢
 (repeat' (conv=>whnf);first|refine DrawOb.re [] (.qs [0,1,2,3,4,5,6,7,8,9] (.l 10 [] .nil .no)) (by decide+kernel) ?_|refine aC ?_ ?_<;>intro<;>try omega|refine z2_Qe ?_|refine And.intro ⟨rfl,rfl⟩ ?_|refine⟨_,rfl,(by simp only [mts_len,vcs_len];omega),?_⟩|refine And.intro (by simp only [mts_len,vcs_len];omega) ?_|refine⟨_,_,rfl,mts_get (by omega),(by simp only [vcs_len];omega),?_⟩|refine⟨_,_,mts_get (by omega),vcs_get (by omega),?_⟩|refine⟨_,mts_get (by omega),?_⟩|refine⟨_,vcs_get (by omega),?_⟩|refine⟨_,_,rfl,vcs_get (by omega),?_⟩|refine⟨n+m+i,_,(by omega),mts_get (by omega),(by simp only [vcs_len];omega),?_⟩|fail);all_goals try (conv=>whnf)
 have hB0:∀a<p.r.length+1,∀b<nE p+1,B62 (up2 f p.r.length g1 a b):=fun a ha b _=>by
  unfold up2;split
  ·exact hp1.hb b
  ·exact h.hb a (by omega) b
 have hinj:¬q1→Inj p (fun a=>tu a*sl a) (up2 f p.r.length g1,bs,1):=fun hq1=>inj_of h (hS.ex (hp1.ex hq1).1).1 hp1 hq1
 have hbs0:∀i<p.r.length,0≤bs i∧bs i<(p.c.length+2*p.r.length:Nat):=fun i hi=>by have:=h.hs i hi;omega
 have cD1:=descend_ok p.c.length p.r.length (p.c.length+p.r.length) (up2 f p.r.length g1) (uC p) (cst p.c.length p.r.length p.r.length) (up2 f p.r.length g1,bs,1) tu sl co q1 (by omega) (by omega) (by omega) (fun l hl=>uC_lt hl) hB0 ⟨Int.le_refl _,by show B62 1;decide⟩ hbs0 (fun hq1=>⟨(ini_ti (hinj hq1)).inv,fun i hi=>((hinj hq1).1 i hi).nn⟩)
 refine CallOb.mk [0,12,2,3,4] cD1 rfl ⟨Imp.refl _,Imp.num (by push_cast;omega),trivial⟩ rfl rfl ?_
 rintro _ _ ⟨⟨z1,N1,s1,q2⟩,⟨hD1,hz1a,hz1b,hE1⟩,rfl,rfl⟩
 dsimp only at hD1 hz1a hz1b hE1⊢
 clear cP1 cD1
 have hQ1:¬q2→Qh1 p (fun a=>tu a*sl a) (up2 f p.r.length g1,bs,1) s1 z1:=fun hq2=>⟨hv,hinj (hD1.ex hq2).1,(hD1.ex hq2).2.1,hE1 hq2⟩
 have hov2:SvF p f bs tu sl co→q2→ov:=fun F hq=>hS.fit F.c (hp1.fit F.pr (hD1.fit (F.ds _ (.inl rfl) g1) hq))
 have hno2:¬q2→¬ov:=fun hq=>(hS.ex (hp1.ex (hD1.ex hq).1).1).1
 (repeat' (conv=>whnf);first|refine z2_Qe ?_|refine And.intro ⟨rfl,rfl⟩ ?_|refine⟨_,rfl,(by simp only [mts_len,vcs_len];omega),?_⟩|refine And.intro (by simp only [mts_len,vcs_len];omega) ?_|refine⟨_,_,rfl,mts_get (by omega),(by simp only [vcs_len];omega),?_⟩|refine⟨_,_,mts_get (by omega),vcs_get (by omega),?_⟩|refine⟨_,mts_get (by omega),?_⟩|refine⟨_,vcs_get (by omega),?_⟩|refine⟨_,_,rfl,vcs_get (by omega),?_⟩|refine⟨n+m+i,_,(by omega),mts_get (by omega),(by simp only [vcs_len];omega),?_⟩|fail);all_goals try (conv=>whnf)
 refine CondOb.mk (fun hq2=>?_) (fun hq2=>?_)
 ·(repeat' (conv=>whnf);first|refine aC ?_ ?_<;>intro _|refine z3_Qe ?_|fail);all_goals try (conv=>whnf)
  refine .mk [.wk [0,1,2,3,4,5,6] ⟨[(4, .ptr 6 0)],tabZ p.r.length s1.2.1 tu sl q2++[.box [.any, .any], .box [i64 0, .nil,i64 0,i64 0, .nil, .nil]]⟩] ⟨by(exact aL),?_⟩
  (conv=>whnf)
  exact⟨(q2,(0,[],(0,0),[],[]),s1.2.1),⟨fun e=>absurd hq2 e,hov2⟩,OI.refl _,Imp.agg ⟨Imp.refl _,Imp.nil _,Imp.refl _,Imp.refl _,Imp.nil _,Imp.nil _,trivial⟩⟩
 have hQ1:=hQ1 hq2
 have hno2:=hno2 hq2
 have hB1:=hD1.hb
 obtain⟨f1,bs1,d1⟩:=s1
 dsimp only at hB1⊢
 have cW2:=width_ok (p.r.length+1) p.r.length (nE p+1) p.c.length p.r.length f1 bs1 tu sl d1 co q2 (by omega) (by omega)
 (repeat' (conv=>whnf);first|refine DrawOb.re [] (.qs [0,1,2,3,4,5,6,7,8,9,10] (.l 11 [9,7,3] (.qs [12,13,14] .nil) .no)) (by decide+kernel) ?_|refine z2_Qe ?_|refine And.intro ⟨rfl,rfl⟩ ?_|refine⟨_,rfl,(by simp only [mts_len,vcs_len];omega),?_⟩|refine And.intro (by simp only [mts_len,vcs_len];omega) ?_|refine⟨_,_,rfl,mts_get (by omega),(by simp only [vcs_len];omega),?_⟩|refine⟨_,_,mts_get (by omega),vcs_get (by omega),?_⟩|refine⟨_,mts_get (by omega),?_⟩|refine⟨_,vcs_get (by omega),?_⟩|refine⟨_,_,rfl,vcs_get (by omega),?_⟩|refine⟨n+m+i,_,(by omega),mts_get (by omega),(by simp only [vcs_len];omega),?_⟩|(refine aK [0,12,2,3,4] cW2 ?_)|refine⟨nE p,_,(by unfold nE;push_cast;omega),mts_get (by omega),(by rw [vcs_len];omega),?_⟩|fail);all_goals try (conv=>whnf)
 have hI1:=(ph1_cost hQ1).1
 have hR1:=(ph1_cost hQ1).2.1
 have hFs:=fun F:SvF p f bs tu sl co=>F.st _ (.inl rfl) g1 (f1,bs1,d1) hI1.inv hI1.bs
 have e01:VF (0,1)∧val (0,1)=0:=⟨vf_01,by unfold val;simp⟩
 refine CondOb.mk (fun hneg=>?_) (fun hneg=>?_)
 ·have cU:=sdual_ok p.c.length p.r.length (nE p+1) f1 bs1 tu sl d1 co q2 1 1 (by omega) (by omega) rfl (by decide) (by decide) hD1.hd.2 (fun b hb=>hB1 _ (by omega) b hb) (fun i hi=>by rcases h.ht i hi with e|e<;>rw [e]<;>decide) (fun i hi=>(h.hl i hi).2)
  (repeat' (conv=>whnf);first|refine aC ?_ ?_<;>intro<;>try omega|refine z2_Qe ?_|fail);all_goals try (conv=>whnf)
  refine aM [0,12,2,3,4] cU rfl rfl ?_
  rintro _ _ ⟨⟨q3,Y⟩,⟨hu1,hu2⟩,rfl,rfl⟩
  dsimp only at hu1 hu2⊢
  (repeat' (conv=>whnf);first|refine aC ?_ ?_<;>intro _|refine z3_Qe ?_|fail);all_goals try (conv=>whnf)
  refine .mk [.wk [0,1,2,3,4,5,6] ⟨[(4, .ptr 6 0)],tabZ p.r.length bs1 tu sl q3++[.box [.any, .any], .box [i64 3, .nil,i64 0,i64 1,fsl Y, .nil]]⟩] ⟨by(exact aL),?_⟩
  (conv=>whnf)
  exact⟨(q3,(3,[],(0,1),Y,[]),bs1),⟨fun e=>⟨hno2, .inf hpm hQ1 hneg (hu1 e).2.1 (hu1 e).2.2⟩,fun F e=>hov2 F (hu2 (hFs F).1 e)⟩,OI.refl _,Imp.agg ⟨Imp.refl _,Imp.nil _,Imp.refl _,Imp.refl _,Imp.refl _,Imp.nil _,trivial⟩⟩
 have hob:f1 p.r.length (nE p)=0:=by have:=ph1_le hQ1;dsimp only at this;omega
 have hz1:=zr1 hQ1 hob
 have cX:=expel_ok p.c.length p.r.length (up2 f p.r.length g1) (uC p) (cst p.c.length p.r.length p.r.length) (f1,bs1,d1) tu sl co q2 (by omega) (by omega) (fun l hl=>uC_lt hl) hB1 hD1.hd hD1.bs (fun _=>hI1.inv)
 (repeat' (conv=>whnf);first|refine aC ?_ ?_<;>intro<;>try omega|refine z2_Qe ?_|fail);all_goals try (conv=>whnf)
 refine aM [0,12,2,3,4] cX rfl rfl ?_
 rintro _ _ ⟨⟨⟨f2,bs2,d2⟩,q3⟩,hX,rfl,rfl⟩
 dsimp only at hX⊢
 obtain⟨hq0,hgc⟩:¬ov∧g=cc p co:=by
  obtain⟨e1,e2⟩:=hS.ex (hp1.ex (hD1.ex hq2).1).1
  refine⟨e1,funext fun a=>?_⟩
  by_cases ha:a<p.c.length
  ·exact e2 a ha
  ·rw [hS.z a (by omega),cc_hi (by omega)]
 subst hgc
 have cP2:=price_ok (p.r.length+1) (nE p+1) p.c.length p.r.length f2 bs2 tu sl d2 co q3 (cc p co) (by omega) (by omega) rfl ⟨by omega,Nat.le_refl _⟩ (fun k _=>hS.hb k) (hS.z _ (by omega)) hX.hd.2 (fun a ha b hb=>hX.hb a (by omega) b hb) hX.bs
 (repeat' (conv=>whnf);first|refine aC ?_ ?_<;>intro<;>try omega|refine z2_Qe ?_|fail);all_goals try (conv=>whnf)
 refine aM [0,12,2,3,4] cP2 rfl rfl ?_
 rintro _ _ ⟨⟨q4,g3⟩,hp2,rfl,rfl⟩
 dsimp only at hp2⊢
 have hTI2:¬q3→TI p (up2 f p.r.length g1,bs,1) (cst p.c.length p.r.length p.r.length) (f2,bs2,d2):=fun e=>⟨(hX.ex e).2.2.1,hX.bs⟩
 have hg3:¬q4→∀k<nE p+1,g3 k=red p co (f2,bs2,d2) p.r.length k:=fun e k hk=>by
  rw [(hp2.ex e).2 k hk]
  exact rdc_red (s:=(f2,bs2,d2)) (fun _=>rfl)
 have hTI3:¬q4→TI p (up2 f p.r.length g1,bs,1) (cc p co) (up2 f2 p.r.length g3,bs2,d2):=fun e=>ti_cost (hTI2 (hp2.ex e).1) (hg3 e)
 have hB3:∀a<p.r.length+1,∀b<nE p+1,B62 (up2 f2 p.r.length g3 a b):=fun a ha b hb=>by
  unfold up2;split
  ·exact hp2.hb b
  ·exact hX.hb a ha b hb
 have cD2:=descend_ok p.c.length p.r.length (p.c.length+p.r.length) (up2 f p.r.length g1) (uC p) (cc p co) (up2 f2 p.r.length g3,bs2,d2) tu sl co q4 (by omega) (by omega) (by omega) (fun l hl=>uC_lt hl) hB3 hX.hd hX.bs (fun e=>⟨(hTI3 e).inv,rhs_keep (hz1.art hI1 (hX.ex (hp2.ex e).1).2.1)⟩)
 (repeat' (conv=>whnf);first|refine DrawOb.re [] (.qs [0,1,2,3,4,5,6,7,8,9] (.l 10 [] (.qs [11] .nil) .no)) (by decide+kernel) ?_|refine aC ?_ ?_<;>intro<;>try omega|refine z2_Qe ?_|refine And.intro ⟨rfl,rfl⟩ ?_|refine⟨_,rfl,(by simp only [mts_len,vcs_len];omega),?_⟩|refine And.intro (by simp only [mts_len,vcs_len];omega) ?_|refine⟨_,_,rfl,mts_get (by omega),(by simp only [vcs_len];omega),?_⟩|refine⟨_,_,mts_get (by omega),vcs_get (by omega),?_⟩|refine⟨_,mts_get (by omega),?_⟩|refine⟨_,vcs_get (by omega),?_⟩|refine⟨_,_,rfl,vcs_get (by omega),?_⟩|refine⟨n+m+i,_,(by omega),mts_get (by omega),(by simp only [vcs_len];omega),?_⟩|fail);all_goals try (conv=>whnf)
 refine CallOb.mk [0,16,2,3,4] cD2 rfl ⟨Imp.refl _,Imp.num (by push_cast;omega),trivial⟩ rfl rfl ?_
 rintro _ _ ⟨⟨z2,N2,s4,q5⟩,⟨hD2,hz2a,hz2b,hE2⟩,rfl,rfl⟩
 dsimp only at hD2 hz2a hz2b hE2⊢
 clear cP2 cD2 cX
 have hno5:¬q5→¬q4∧¬q3:=fun e=>⟨(hD2.ex e).1,(hp2.ex (hD2.ex e).1).1⟩
 have hQ2:¬q5→Qh2 p co (f1,bs1,d1) (f2,bs2,d2) (up2 f2 p.r.length g3,bs2,d2) s4 z2:=fun e=>by
  obtain⟨e4,e3⟩:=hno5 e
  exact qh2_of hob (hX.ex e3).2.1 (hX.ex e3).2.2.2 h.hc.1 (h.ex hq0).1 (hg3 e4) (hD2.ex e).2.1 (hE2 e)
 have hov5:SvF p f bs tu sl co→q5→ov:=fun F hq=>hov2 F (by
  by_cases e3:q3
  ·exact hX.fit (F.ds _ (.inl rfl) g1) e3
  ·exact absurd (hp2.fit ((F.st _ (.inl rfl) g1 (f2,bs2,d2) (hTI2 e3).inv hX.bs).2.2.1) (hD2.fit (F.ds _ (.inr rfl) g1) hq)) e3)
 (repeat' (conv=>whnf);first|refine z2_Qe ?_|refine And.intro ⟨rfl,rfl⟩ ?_|refine⟨_,rfl,(by simp only [mts_len,vcs_len];omega),?_⟩|refine And.intro (by simp only [mts_len,vcs_len];omega) ?_|refine⟨_,_,rfl,mts_get (by omega),(by simp only [vcs_len];omega),?_⟩|refine⟨_,_,mts_get (by omega),vcs_get (by omega),?_⟩|refine⟨_,mts_get (by omega),?_⟩|refine⟨_,vcs_get (by omega),?_⟩|refine⟨_,_,rfl,vcs_get (by omega),?_⟩|refine⟨n+m+i,_,(by omega),mts_get (by omega),(by simp only [vcs_len];omega),?_⟩|fail);all_goals try (conv=>whnf)
 refine CondOb.mk (fun hq5=>?_) (fun hq5=>?_)
 ·(repeat' (conv=>whnf);first|refine aC ?_ ?_<;>intro _|refine z3_Qe ?_|fail);all_goals try (conv=>whnf)
  refine .mk [.wk [0,1,2,3,4,5,6] ⟨[(4, .ptr 6 0)],tabZ p.r.length s4.2.1 tu sl q5++[.box [.any, .any], .box [i64 0, .nil,i64 0,i64 0, .nil, .nil]]⟩] ⟨by(exact aL),?_⟩
  (conv=>whnf)
  exact⟨(q5,(0,[],(0,0),[],[]),s4.2.1),⟨fun e=>absurd hq5 e,hov5⟩,OI.refl _,Imp.agg ⟨Imp.refl _,Imp.nil _,Imp.refl _,Imp.refl _,Imp.nil _,Imp.nil _,trivial⟩⟩
 have hQ2:=hQ2 hq5
 obtain⟨f4,bs4,d4⟩:=s4
 have hB4:=hD2.hb
 have hd4:=hD2.hd
 have hbs4:=hD2.bs
 have hI4:=(ph2_ti hQ1 hQ2).1
 have hF4:=fun F:SvF p f bs tu sl co=>F.st _ (.inr rfl) g1 (f4,bs4,d4) hI4.inv hI4.bs
 have hE4:=hE2 hq5
 dsimp only at hB4 hd4 hbs4 hE4⊢
 have cPt:=spoint_ok p.c.length p.r.length f4 bs4 tu sl d4 co q5 (by omega) (by omega) hd4 (fun a ha=>hB4 a (by omega) _ (by omega)) hbs4
 (repeat' (conv=>whnf);first|refine aC ?_ ?_<;>intro<;>try omega|refine z2_Qe ?_|fail);all_goals try (conv=>whnf)
 refine aM [0,16,2,3,4] cPt rfl rfl ?_
 rintro _ _ ⟨⟨q6,X⟩,⟨hpt1,hpt2⟩,rfl,rfl⟩
 dsimp only at hpt1 hpt2⊢
 (repeat' (conv=>whnf);first|refine z2_Qe ?_|refine And.intro ⟨rfl,rfl⟩ ?_|refine⟨_,rfl,(by simp only [mts_len,vcs_len];omega),?_⟩|refine And.intro (by simp only [mts_len,vcs_len];omega) ?_|refine⟨_,_,rfl,mts_get (by omega),(by simp only [vcs_len];omega),?_⟩|refine⟨_,_,mts_get (by omega),vcs_get (by omega),?_⟩|refine⟨_,mts_get (by omega),?_⟩|refine⟨_,vcs_get (by omega),?_⟩|refine⟨_,_,rfl,vcs_get (by omega),?_⟩|refine⟨n+m+i,_,(by omega),mts_get (by omega),(by simp only [vcs_len];omega),?_⟩|fail);all_goals try (conv=>whnf)
 refine CondOb.mk (fun hz0=>?_) (fun hz0=>?_)
 ·obtain⟨c,rfl,hc,hcn,hcl⟩:∃c:Nat,z2=c∧c<p.c.length+p.r.length∧f4 p.r.length c<0∧∀i<p.r.length,f4 i c≤0:=by
   rcases hE4 with⟨e,_⟩|e
   ·omega
   ·exact e
  have cRy:=sray_ok p.c.length p.r.length f4 bs4 tu sl d4 co q6 c (by omega) (by omega) (by omega) hd4 (fun a ha=>hB4 a (by omega) _ (by omega)) hbs4
  (repeat' (conv=>whnf);first|refine aC ?_ ?_<;>intro<;>try omega|refine z2_Qe ?_|fail);all_goals try (conv=>whnf)
  refine aM [0,16,2,3,4] cRy rfl rfl ?_
  rintro _ _ ⟨⟨q7,Z⟩,⟨hry1,hry2⟩,rfl,rfl⟩
  dsimp only at hry1 hry2⊢
  (repeat' (conv=>whnf);first|refine aC ?_ ?_<;>intro _|refine z3_Qe ?_|fail);all_goals try (conv=>whnf)
  refine .mk [.wk [0,1,2,3,4,5,6] ⟨[(4, .ptr 6 0)],tabZ p.r.length bs4 tu sl q7++[.box [.any, .any], .box [i64 2,fsl X,i64 0,i64 1, .nil,fsl Z]]⟩] ⟨by(exact aL),?_⟩
  (conv=>whnf)
  exact⟨(q7,(2,X,(0,1),[],Z),bs4),⟨fun e=>⟨hq0, .unb (runb_ok hQ1 hQ2)⟩,fun F e=>hov5 F (hpt2 (fun i hi _=>(hF4 F).2.2.2.1 i hi) (hry2 (fun i hi _=>(hF4 F).2.2.2.2.1 c (by unfold nE;omega) i hi) e))⟩,OI.refl _,Imp.agg ⟨Imp.refl _,Imp.refl _,Imp.refl _,Imp.refl _,Imp.nil _,Imp.refl _,trivial⟩⟩
 have hfE:=hB4 p.r.length (by omega) (nE p) (by unfold nE;omega)
 have cW4:=width_ok (p.r.length+1) p.r.length (nE p+1) p.c.length p.r.length f4 bs4 tu sl d4 co q6 (by omega) (by omega)
 have cM4:=mul_ok (p.r.length+1) p.r.length (nE p+1) p.c.length p.r.length f4 bs4 tu sl d4 co q6 d4 co hd4.2 h.hc.2
 (repeat' (conv=>whnf);first|refine DrawOb.re [] (.qs [0,1,2,3,4,5,6,7,8,9,10,11,16,17,18,19,20,21,22,23,24] (.l 12 [24,20,10,8,4] (.qs [13,14,15] (.l 25 [14,10,8,4] (.l 26 [] (.qs [27] (.l 28 [] .nil .no)) .no) .no)) .no)) (by decide+kernel) ?_|refine aC ?_ ?_<;>intro<;>try omega|refine z2_Qe ?_|refine And.intro ⟨rfl,rfl⟩ ?_|refine⟨_,rfl,(by simp only [mts_len,vcs_len];omega),?_⟩|refine And.intro (by simp only [mts_len,vcs_len];omega) ?_|refine⟨_,_,rfl,mts_get (by omega),(by simp only [vcs_len];omega),?_⟩|refine⟨_,_,mts_get (by omega),vcs_get (by omega),?_⟩|refine⟨_,mts_get (by omega),?_⟩|refine⟨_,vcs_get (by omega),?_⟩|refine⟨_,_,rfl,vcs_get (by omega),?_⟩|refine⟨n+m+i,_,(by omega),mts_get (by omega),(by simp only [vcs_len];omega),?_⟩|refine⟨nE p,_,(by unfold nE;push_cast;omega),mts_get (by omega),(by rw [vcs_len];omega),?_⟩|(refine aK [0,16,2,3,4] cW4 ?_)|fail);all_goals try (conv=>whnf)
 refine aM [0,16,2,3,4] cM4 rfl rfl ?_
 rintro _ _ ⟨⟨q7,dd⟩,z5,rfl,rfl⟩
 dsimp only at z5⊢
 have cF4:=sfrac_ok (p.r.length+1) p.r.length (nE p+1) p.c.length p.r.length f4 bs4 tu sl d4 co q7 (0-f4 p.r.length (nE p)) dd (by unfold B62 at*;omega) z5.bd
 (repeat' (conv=>whnf);first|refine aC ?_ ?_<;>intro<;>try omega|refine z2_Qe ?_|refine And.intro ⟨rfl,rfl⟩ ?_|refine⟨_,rfl,(by simp only [mts_len,vcs_len];omega),?_⟩|refine And.intro (by simp only [mts_len,vcs_len];omega) ?_|refine⟨_,_,rfl,mts_get (by omega),(by simp only [vcs_len];omega),?_⟩|refine⟨_,_,mts_get (by omega),vcs_get (by omega),?_⟩|refine⟨_,mts_get (by omega),?_⟩|refine⟨_,vcs_get (by omega),?_⟩|refine⟨_,_,rfl,vcs_get (by omega),?_⟩|refine⟨n+m+i,_,(by omega),mts_get (by omega),(by simp only [vcs_len];omega),?_⟩|fail);all_goals try (conv=>whnf)
 refine aM [0,16,2,3,4] cF4 rfl rfl ?_
 rintro _ _ ⟨⟨q8,v⟩,z6,rfl,rfl⟩
 dsimp only at z6⊢
 have cU4:=sdual_ok p.c.length p.r.length (nE p+1) f4 bs4 tu sl d4 co q8 0 co (by omega) (by omega) rfl (by decide) h.hc.2 hd4.2 (fun b hb=>hB4 _ (by omega) b hb) (fun i hi=>by rcases h.ht i hi with e|e<;>rw [e]<;>decide) (fun i hi=>(h.hl i hi).2)
 (repeat' (conv=>whnf);first|refine aC ?_ ?_<;>intro<;>try omega|refine z2_Qe ?_|refine And.intro ⟨rfl,rfl⟩ ?_|refine⟨_,rfl,(by simp only [mts_len,vcs_len];omega),?_⟩|refine And.intro (by simp only [mts_len,vcs_len];omega) ?_|refine⟨_,_,rfl,mts_get (by omega),(by simp only [vcs_len];omega),?_⟩|refine⟨_,_,mts_get (by omega),vcs_get (by omega),?_⟩|refine⟨_,mts_get (by omega),?_⟩|refine⟨_,vcs_get (by omega),?_⟩|refine⟨_,_,rfl,vcs_get (by omega),?_⟩|refine⟨n+m+i,_,(by omega),mts_get (by omega),(by simp only [vcs_len];omega),?_⟩|fail);all_goals try (conv=>whnf)
 refine aM [0,16,2,3,4] cU4 rfl rfl ?_
 rintro _ _ ⟨⟨q9,Y⟩,⟨hu1,hu2⟩,rfl,rfl⟩
 dsimp only at hu1 hu2⊢
 (repeat' (conv=>whnf);first|refine aC ?_ ?_<;>intro _|refine z3_Qe ?_|fail);all_goals try (conv=>whnf)
 refine .mk [.wk [0,1,2,3,4,5,6] ⟨[(4, .ptr 6 0)],tabZ p.r.length bs4 tu sl q9++[.box [.any, .any], .box [i64 1,fsl X,i64 v.1,i64 v.2,fsl Y, .nil]]⟩] ⟨by(exact aL),?_⟩
 (conv=>whnf)
 refine⟨(q9,(1,X,v,Y,[]),bs4),⟨fun e=>⟨hq0,?_⟩,fun F e=>?_⟩,OI.refl _,Imp.agg ⟨Imp.refl _,Imp.refl _,Imp.refl _,Imp.refl _,Imp.refl _,Imp.nil _,trivial⟩⟩
 ·obtain⟨e0,e1,e2⟩:=hu1 e
  obtain⟨e7,e8,e9⟩:=z6.ex e0
  obtain⟨e6,ed⟩:=z5.ex e7
  obtain⟨_,k1,k2⟩:=hpt1 e6
  refine .opt (fun hd=>⟨(h.one hd).2.1,hpm hd⟩) hQ1 hQ2 (by omega) k1 k2 e8 ?_ e1 e2
  dsimp only
  rw [e9,ed,Rat.divInt_eq_div,Int.zero_sub,Rat.intCast_mul]
 ·obtain⟨k1,k2,k3,k4,k5,k6,k7,k8⟩:=hF4 F
  refine hov5 F (hpt2 (fun i hi _=>k4 i hi) (Classical.byContradiction fun n6=>?_))
  have n7:¬q7:=fun e=>n6 (z5.fit k6 e)
  have e7:=(z5.ex n7).2
  subst e7
  exact n7 (z6.fit k7 k8 (hu2 k2 e))
end Go.Proofs.YtbcjojomkibgeaaGreat
