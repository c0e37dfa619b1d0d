/- Lemmas of this seat. Conditions: as stated. -/
import Derived.Test.YtbcjojomkibgeaaGreatQ3a
set_option linter.unusedVariables false
set_option linter.unusedSimpArgs false
set_option maxHeartbeats 4000000
set_option maxRecDepth 4000
namespace Go.Proofs.YtbcjojomkibgeaaGreat
open Go.Sx Go.Fq Go.Dt
theorem aP_Q3 {A B K:Prop} (k:K) (a:A:=by(simp only [zA,zT,zD,zC,zN,ints_len,zR,fr_len,rw_len,mts_len,vcs_len];omega)) (b:B:=by(simp only [zA,zT,zD,zC,zN,ints_len,zR,fr_len,rw_len,mts_len,vcs_len];omega)):(A∧B)∧K:=⟨⟨a,b⟩,k⟩
theorem z4_Q3 {G H:Prop} (k:H) (h:H→G:=by first|exact fun r=>aS r|exact fun r=>aG r|exact fun r=>aP_Q3 r|exact fun r=>aI r|exact fun r=>aJ r|exact fun r=>aW (.qs [0,1,3,4,5,6] (.l 2 [5] (.l 7 [] (.qs [8] (.l 9 [] .nil .no)) .no) .no)) r|exact fun r=>aW (.qs [0,1,2,3,4,5,6,7,8,9,10,11,12] (.l 13 [] .nil .no)) r):G:=h k
theorem z3_Q3 {G H:Prop} (k:H) (h:H→G:=by first|exact fun r=>aS r|exact fun r=>aG r|exact fun r=>aH r|exact fun r=>aP_Q3 r|exact fun r=>aI r|exact fun r=>aJ r|exact fun r=>aW (.qs [0,1,3,4,5,6] (.l 2 [5] (.l 7 [] (.qs [8] (.l 9 [] .nil .no)) .no) .no)) r|exact fun r=>aW (.qs [0,1,2,3,4,5,6,7,8,9,10,11,12] (.l 13 [] .nil .no)) r):G:=h k
theorem z2_Q3 {G H:Prop} (k:H) (h:H→G:=by first|exact fun r=>aS r|exact fun r=>aG r|exact fun r=>aD r|exact fun r=>aH r|exact fun r=>aP_Q3 r|exact fun r=>aI r|exact fun r=>aJ r|exact fun r=>aW (.qs [0,1,3,4,5,6] (.l 2 [5] (.l 7 [] (.qs [8] (.l 9 [] .nil .no)) .no) .no)) r|exact fun r=>aW (.qs [0,1,2,3,4,5,6,7,8,9,10,11,12] (.l 13 [] .nil .no)) r):G:=h k
theorem z1_Q3 {G H:Prop} (k:H) (h:H→G:=by first|exact fun r=>aS r|exact fun r=>aG r|exact fun r=>aD r|exact fun r=>aP_Q3 r|exact fun r=>aI r|exact fun r=>aJ r|exact fun r=>aW (.qs [0,1,3,4,5,6] (.l 2 [5] (.l 7 [] (.qs [8] (.l 9 [] .nil .no)) .no) .no)) r|exact fun r=>aW (.qs [0,1,2,3,4,5,6,7,8,9,10,11,12] (.l 13 [] .nil .no)) r):G:=h k
theorem build_ok (p:Pr) (hv:VP p):
  Ctr Tryz.prog 71 [prv p] [] (fun r o=>∃x:Prop×(Nat→Nat→Int)×(Nat→Int)×(Nat→Int)×(Nat→Int)×Int,BuA p p.r.length x.1 x.2.1 x.2.2.1 x.2.2.2.1 x.2.2.2.2.1 x.2.2.2.2.2∧o=tab p.r.length p.r.length (nE p+1) p.c.length p.r.length x.2.1 x.2.2.1 x.2.2.2.1 x.2.2.2.2.1 1 x.2.2.2.2.2 x.1∧r= .ptr 0 0):=by
 refine Ctr.impO ?_
 refine fI 0 Tryz.func71 ?_
 obtain⟨hv1,hv2,hv3,hv4,hv5⟩:=id hv
 have hlc:=fr_len p.c
 have hlr:=rw_len p.r
 (repeat' (conv=>whnf);first|refine aC ?_ ?_<;>intro<;>try omega|refine z1_Q3 ?_|fail);all_goals try (conv=>whnf)
 refine .mk [.nm 1 0 1, .nb 1 2 1, .nb 1 3 1, .nb 1 4 1] ?_
 (repeat' (conv=>whnf);first|refine aC ?_ ?_<;>intro<;>try omega|refine z1_Q3 ?_|fail);all_goals try (conv=>whnf)
 simp only [hlc,hlr]
 refine aM [1,2,3,4,5] (Ctr.pre (whole_ok 0 0 (nE p+1) p.c.length p.r.length (fun _ _=>0) (fun _=>0) (fun _=>0) (fun _=>0) 1 0 False p.c (by omega) hv4) tab_of) rfl rfl ?_
 rintro _ _ ⟨⟨q0,co⟩,hco,rfl,rfl⟩
 dsimp only at hco⊢
 (repeat' (conv=>whnf);first|refine aC ?_ ?_<;>intro<;>try omega|refine z1_Q3 ?_|fail);all_goals try (conv=>whnf)
 refine .mk [] ?_
 refine LoopOb.mk (Y:=Nat×Prop×(Nat→Nat→Int)×(Nat→Int)×(Nat→Int)×(Nat→Int)) (st:=fun y=>⟨[(30,i64 y.1),(29,i64 p.r.length),(28, .psl 4 (rws p.r)),(3, .ptr 0 0)],tab y.1 y.1 (nE p+1) p.c.length p.r.length y.2.2.1 y.2.2.2.1 y.2.2.2.2.1 y.2.2.2.2.2 1 co y.2.1⟩)
  (inv:=fun y=>y.1≤p.r.length∧BuA p y.1 y.2.1 y.2.2.1 y.2.2.2.1 y.2.2.2.2.1 y.2.2.2.2.2 co) (fun y=>p.r.length-y.1) (0,q0,fun _ _=>0,fun _=>0,fun _=>0,fun _=>0) [1,2,3,4,5] ⟨by simp,buA_zero hco⟩ (by rw [hlr];(exact aL)) ?_
 rintro⟨i,q,f,bs,tu,sl⟩ ⟨hi,hB⟩
 dsimp only at hi hB⊢
 (repeat' (conv=>whnf);first|refine z2_Q3 ?_|fail);all_goals try (conv=>whnf)
 refine CondOb.mk (fun hlt=>?_) (fun hlt=>?_)
 ·have hil:i<p.r.length:=by omega
  have hg:=rw_get (l:=p.r) hil
  have hw:=hv5 (p.r.getD i rw0) (by rw [List.getD_eq_getElem?_getD,List.getElem?_eq_getElem hil];exact List.getElem_mem _)
  have hone:D1 p→(∀f∈(p.r.getD i rw0).1,f.2=1)∧(p.r.getD i rw0).2.2.2 =1:=fun h=>h.2 _ (by rw [List.getD_eq_getElem?_getD,List.getElem?_eq_getElem hil];exact List.getElem_mem _)
  have hnx:=fun q' k tn g h=>BuA.next (q':=q') (k:=k) (tn:=tn) (g:=g) hB h
  generalize p.r.getD i rw0=w at*
  obtain⟨wl,ws,wn,wd⟩:=w
  obtain⟨w1,w2,w3,w4,w5⟩:=hw
  dsimp only at w1 w2 w3 w4 w5 hg hone
  (repeat' (conv=>whnf);first|refine⟨i,_,rfl,hg,?_⟩|refine aC ?_ ?_<;>intro<;>try omega|refine z1_Q3 ?_|fail);all_goals try (conv=>whnf)
  have cW:=whole_ok i i (nE p+1) p.c.length p.r.length f bs tu sl 1 co q (wl++[(wn,wd)]) (by rw [List.length_append,List.length_singleton];omega) (fun x hx=>by
   rcases List.mem_append.1 hx with hx|hx
   ·exact w4 x hx
   ·rw [List.mem_singleton.1 hx];exact w5)
  refine DrawOb.cut [] (.qs [0,2,3,5,6] (.l 1 [6,3] (.l 4 [6] (.l 7 [] (.l 8 [] (.l 9 [] (.qs [10] .nil) .no) .no) .no) (.l 7 [3] (.l 4 [] (.l 8 [] (.l 9 [] (.qs [10] .nil) .no) .no) .no) .no)) (.l 7 [3] (.l 1 [3] (.l 4 [] (.l 8 [] (.l 9 [] (.qs [10] .nil) .no) .no) .no) .no) .no))) (Y:=Prop×Int) (st:=fun y=>⟨[(6,i64 y.2),(5, .ptr 5 0),(4,i64 i),(30,i64 i),(29,i64 p.r.length),(28, .psl 4 (rws p.r)),(3, .ptr 0 0)],tab i i (nE p+1) p.c.length p.r.length f bs tu sl 1 co y.1++[.box [fsl wl,i64 ws,i64 wn,i64 wd]]⟩) (inv:=fun y=>WhP (wl++[(wn,wd)]) q y.1 y.2) (by decide+kernel) ?_ ?_
  ·(repeat' (conv=>whnf);first|refine aC ?_ ?_<;>intro<;>try omega|refine z1_Q3 ?_|refine And.intro ?_ ?_|fail);all_goals try (conv=>whnf)
   all_goals
    refine .mk [.fz 9] ?_
    refine CallOb.mk [0,1,2,3,4] cW rfl ⟨Imp.refl _,Imp.psl (by rw [fr2_append];rfl),trivial⟩ rfl rfl ?_
    rintro _ _ ⟨⟨q1,k⟩,hk,rfl,rfl⟩
    dsimp only at hk⊢
    (repeat' (conv=>whnf);first|refine aC ?_ ?_<;>intro<;>try omega|refine z1_Q3 ?_|fail);all_goals try (conv=>whnf)
    exact .mk [] ⟨(q1,k),[0,1,2,3,4,5],hk,by(exact aL)⟩
  rintro⟨q1,k⟩ hk
  dsimp only at hk⊢
  have cWd:=width_ok i i (nE p+1) p.c.length p.r.length f bs tu sl 1 co q1 (by omega) (by omega)
  (repeat' (conv=>whnf);first|refine aC ?_ ?_<;>intro<;>try omega|refine aS ?_|refine aG ?_|refine aD ?_|refine aH ?_|refine aP_Q3 ?_|refine aI ?_|refine aJ ?_|refine⟨_,_,rfl,rfl,Nat.le_refl _,⟨by(simp only;omega),by omega⟩,?_⟩|refine aW (.qs [0,1,3,4,5,6] (.l 2 [5] (.l 7 [] (.qs [8] (.l 9 [] .nil .no)) .no) .no)) ?_|refine aW (.qs [0,1,2,3,4,5,6,7,8,9,10,11,12] (.l 13 [] .nil .no)) ?_|(refine aK [0,1,2,3,4] cWd ?_)|fail);all_goals try (conv=>whnf)
  refine⟨nE p+1,nE p+1,by unfold nE;push_cast;omega,by unfold nE;push_cast;omega,Nat.le_refl _,⟨by simp only;unfold nE;omega,by unfold nE;omega⟩,?_⟩
  have hwl:=fr_len wl
  have hE:nE p=p.c.length+2*p.r.length:=rfl
  (repeat' (conv=>whnf);first|refine aC ?_ ?_<;>intro<;>try omega|refine z2_Q3 ?_|fail);all_goals try (conv=>whnf)
  refine LoopOb.mk (Y:=Nat×Prop×(Nat→Int)) (st:=fun y=>⟨[(52,i64 y.1),(51,i64 wl.length),(50,fsl wl),(7, .vec 6),(6,i64 k),(5, .ptr 5 0),(4,i64 i),(30,i64 i),(29,i64 p.r.length),(28, .psl 4 (rws p.r)),(3, .ptr 0 0)],tab i i (nE p+1) p.c.length p.r.length f bs tu sl 1 co y.2.1++[.box [fsl wl,i64 ws,i64 wn,i64 wd], .vec 1 (vcs (nE p+1) y.2.2)]⟩)
   (inv:=fun y=>(y.1≤wl.length∧RwA (wl,ws,(wn,wd)) k y.2.1 y.1 y.2.2)∧(¬y.2.1→¬q1)∧(D1 p→y.2.1→q1)) (fun y=>wl.length-y.1) (0,q1,fun _=>0) [0,1,2,3,4,5,6] ⟨⟨by simp,⟨fun _=>b62_0,fun _ _=>rfl,fun _ a ha=>absurd ha (by omega)⟩⟩,id,fun _=>id⟩ (by rw [hwl,←vcs_repl];(exact aL)) ?_
  rintro⟨j,q2,g⟩ ⟨⟨hj,hR⟩,hq12,hq21⟩
  dsimp only at hj hR hq12 hq21⊢
  (repeat' (conv=>whnf);first|refine z2_Q3 ?_|fail);all_goals try (conv=>whnf)
  refine CondOb.mk (fun hlj=>?_) (fun hlj=>?_)
  ·have hjl:j<wl.length:=by omega
   have hgj:=fr_get (l:=wl) hjl
   have hmem:wl.getD j (0,1)∈wl:=by rw [List.getD_eq_getElem?_getD,List.getElem?_eq_getElem hjl];exact List.getElem_mem _
   have vj:=w4 _ hmem
   have oj:D1 p→(wl.getD j (0,1)).2 =1:=fun h=>(hone h).1 _ hmem
   have hR':=fun q' v=>RwA.step (q':=q') (v:=v) hR
   dsimp only at hR'
   generalize wl.getD j (0,1)=x at*
   obtain⟨x,y⟩:=x
   have cI:=integer_ok i i (nE p+1) p.c.length p.r.length f bs tu sl 1 co q2 x y k vj hk.k1 hk.bd
   have hvl:=vcs_len (nE p+1) g
   (repeat' (conv=>whnf);first|refine⟨j,_,rfl,hgj,?_⟩|refine aC ?_ ?_<;>intro<;>try omega|refine z2_Q3 ?_|fail);all_goals try (conv=>whnf)
   refine aM [0,1,2,3,4] cI rfl rfl ?_
   rintro _ _ ⟨⟨q3,v⟩,hz,rfl,rfl⟩
   dsimp only at hz⊢
   have hR2:=hR' q3 v hz
   (repeat' (conv=>whnf);first|refine⟨_,vcs_get (by omega),?_⟩|refine⟨j,rfl,by rw [hvl];omega,?_⟩|refine aC ?_ ?_<;>intro<;>try omega|refine z2_Q3 ?_|fail);all_goals try (conv=>whnf)
   refine⟨(j+1,q3,up g j v),[0,1,2,3,4,5,6],⟨⟨by dsimp only;omega,hR2⟩,fun h=>hq12 (hz.ex h).1,fun ho hq3=>Classical.byContradiction fun hq1=>?_⟩,by dsimp only;omega,by dsimp only;rw [←vcs_set];(exact aL)⟩
   have hk1:=(hk.one (fun f hf=>by
    rcases List.mem_append.1 hf with hf|hf
    ·exact(hone ho).1 f hf
    ·rw [List.mem_singleton.1 hf];exact(hone ho).2)).2 hq1
   have hy1:=oj ho
   dsimp only at hy1
   obtain⟨_,_,v3,v4,_⟩:=vj
   dsimp only at v3 v4
   exact hq1 (hq21 ho (hz.fit (by rw [hk1,hy1];show B62 (x*(1/1));rw [show(1:Int)/1=1 from rfl,Int.mul_one];omega) hq3))
  ·have e:j=wl.length:=by omega
   subst e
   rw [w1]at hR
   have hvl:=fun g=>vcs_len (nE p+1) g
   (repeat' (conv=>whnf);first|refine aC ?_ ?_<;>intro<;>try omega|refine z3_Q3 ?_|fail);all_goals try (conv=>whnf)
   refine CutOb.cut (Y:=Nat→Int) (st:=fun g'=>⟨[(7, .vec 6),(6,i64 k),(5, .ptr 5 0),(4,i64 i),(30,i64 i),(29,i64 p.r.length),(28, .psl 4 (rws p.r)),(3, .ptr 0 0)],tab i i (nE p+1) p.c.length p.r.length f bs tu sl 1 co q2++[.box [fsl wl,i64 ws,i64 wn,i64 wd], .vec 1 (vcs (nE p+1) g')]⟩) (inv:=fun g'=>g'=slk p.c.length i (wl,ws,(wn,wd)) g) ?_ ?_
   ·(repeat' (conv=>whnf);first|refine⟨_,vcs_get (by omega),?_⟩|refine⟨p.c.length+i,by push_cast;rfl,by rw [hvl];omega,?_⟩|refine aC ?_ ?_<;>intro<;>try omega|refine z2_Q3 ?_|fail);all_goals try (conv=>whnf)
    ·exact⟨up g (p.c.length+i) 1,[0,1,2,3,4,5,6],by unfold slk;rw [if_pos (by assumption)],by rw [←vcs_set];(exact aL)⟩
    ·exact⟨up g (p.c.length+i) (-1),[0,1,2,3,4,5,6],by unfold slk;rw [if_neg (by assumption),if_pos (by assumption)],by rw [←vcs_set];(exact aL)⟩
    ·exact⟨g,[0,1,2,3,4,5,6],by unfold slk;rw [if_neg (by assumption),if_neg (by assumption)],by(exact aL)⟩
   rintro g' hg'
   have hgB:∀a,B62 (g' a):=fun a=>by
    rw [hg'];unfold slk
    split
    ·unfold up;split
     ·decide
     ·exact hR.bd a
    ·split
     ·unfold up;split
      ·decide
      ·exact hR.bd a
     ·exact hR.bd a
   have cI:=integer_ok i i (nE p+1) p.c.length p.r.length f bs tu sl 1 co q2 wn wd k w5 hk.k1 hk.bd
   have cWd:=width_ok i i (nE p+1) p.c.length p.r.length f bs tu sl 1 co q2 (by omega) (by omega)
   (repeat' (conv=>whnf);first|refine aC ?_ ?_<;>intro<;>try omega|refine z2_Q3 ?_|(refine aK [0,1,2,3,4] cWd ?_)|fail);all_goals try (conv=>whnf)
   refine aM [0,1,2,3,4] cI rfl rfl ?_
   rintro _ _ ⟨⟨q3,v⟩,hz,rfl,rfl⟩
   dsimp only at hz⊢
   clear cWd
   have cWd:=width_ok i i (nE p+1) p.c.length p.r.length f bs tu sl 1 co q3 (by omega) (by omega)
   have hgE:((vcs (nE p+1) g').set (p.c.length+2*p.r.length) [i64 v])[p.c.length+2*p.r.length]? =some [i64 v]:=by
    rw [vcs_set,vcs_get (by omega)];simp [up]
   (repeat' (conv=>whnf);first|refine⟨_,hgE,?_⟩|refine⟨_,vcs_get (by omega),?_⟩|refine⟨p.c.length+2*p.r.length,rfl,by first|(rw [hvl];omega)|(rw [List.length_set,hvl];omega),?_⟩|refine aC ?_ ?_<;>intro<;>try omega|refine z3_Q3 ?_|(refine aK [0,1,2,3,4] cWd ?_)|fail);all_goals try (conv=>whnf)
   refine CutOb.cut (Y:=Unit) (st:=fun _=>⟨[(10,i64 (trn v)),(7, .vec 6),(6,i64 k),(5, .ptr 5 0),(4,i64 i),(30,i64 i),(29,i64 p.r.length),(28, .psl 4 (rws p.r)),(3, .ptr 0 0)],tab i i (nE p+1) p.c.length p.r.length f bs tu sl 1 co q3++[.box [fsl wl,i64 ws,i64 wn,i64 wd], .vec 1 (vcs (nE p+1) (ngv v (up g' (p.c.length+2*p.r.length) v)))]⟩) (inv:=fun _=>True) ?_ ?_
   ·have hGB:∀a,B62 (up g' (p.c.length+2*p.r.length) v a):=fun a=>by
     unfold up;split
     ·exact hz.bd
     ·exact hgB a
    have hGs:(vcs (nE p+1) g').set (p.c.length+2*p.r.length) [i64 v]=vcs (nE p+1) (up g' (p.c.length+2*p.r.length) v):=vcs_set
    generalize up g' (p.c.length+2*p.r.length) v=G at*
    (repeat' (conv=>whnf);first|refine⟨_,hgE,?_⟩|refine⟨p.c.length+2*p.r.length,rfl,by rw [List.length_set,hvl];omega,?_⟩|refine aC ?_ ?_<;>intro<;>try omega|refine z2_Q3 ?_|(refine aK [0,1,2,3,4] cWd ?_)|fail);all_goals try (conv=>whnf)
    ·refine LoopOb.mk (Y:=Nat) (st:=fun j=>⟨[(104,i64 j),(103,i64 (nE p+1:Nat)),(10,i64 (-1)),(7, .vec 6),(6,i64 k),(5, .ptr 5 0),(4,i64 i),(30,i64 i),(29,i64 p.r.length),(28, .psl 4 (rws p.r)),(3, .ptr 0 0)],tab i i (nE p+1) p.c.length p.r.length f bs tu sl 1 co q3++[.box [fsl wl,i64 ws,i64 wn,i64 wd], .vec 1 (vcs (nE p+1) (ngr G j))]⟩)
      (inv:=fun j=>j≤nE p+1) (fun j=>nE p+1-j) 0 [0,1,2,3,4,5,6] (by omega) (by
       have e0:ngr G 0=G:=by funext b;simp [ngr]
       rw [e0,←hGs,List.length_set,hvl];(exact aL)) ?_
     intro j hj
     (repeat' (conv=>whnf);first|refine z2_Q3 ?_|fail);all_goals try (conv=>whnf)
     refine CondOb.mk (fun hlj=>?_) (fun hlj=>?_)
     ·have hb:B62 (ngr G j j):=by
       have:=hGB j
       unfold ngr;rw [if_neg (by omega)];exact this
      have hgg:(vcs (nE p+1) (ngr G j))[j]? =some [i64 (ngr G j j)]:=vcs_get (by omega)
      have hst:=ngr_step (g:=G) (k:=j)
      (repeat' (conv=>whnf);first|refine⟨_,hgg,?_⟩|refine⟨j,rfl,by rw [hvl];omega,?_⟩|refine aC ?_ ?_<;>intro<;>try omega|refine z2_Q3 ?_|fail);all_goals try (conv=>whnf)
      exact⟨j+1,[0,1,2,3,4,5,6],by omega,by omega,by rw [←hst,←vcs_set];(exact aL)⟩
     ·have e:j=nE p+1:=by omega
      subst e
      have e1:vcs (nE p+1) (ngr G (nE p+1))=vcs (nE p+1) (ngv v G):=vcs_congr fun a ha=>by
       unfold ngr ngv;rw [if_pos ha,if_pos (by assumption)]
      (repeat' (conv=>whnf);first|refine aC ?_ ?_<;>intro<;>try omega|refine z2_Q3 ?_|fail);all_goals try (conv=>whnf)
      exact⟨(),[0,1,2,3,4,5,6],trivial,by rw [←e1,show trn v= -1 by unfold trn;rw [if_pos (by assumption)]];(exact aL)⟩
    ·have e1:ngv v G=G:=by funext a;unfold ngv;rw [if_neg (by assumption)]
     exact⟨(),[0,1,2,3,4,5,6],trivial,by rw [e1,←hGs,show trn v=1 by unfold trn;rw [if_neg (by assumption)]];(exact aL)⟩
   rintro _ _
   have hfin:=row_fin (n:=p.c.length) (m:=p.r.length) (i:=i) (w:=(wl,ws,(wn,wd))) (k:=k) (q:=q2) (q':=q3) (g:=g) (v:=v) hil w1 w4 w5 hk.k1 hR (fun h=>(hk.ex (hq12 h)).2) hz
   rw [←hg']at hfin
   have hnx:=hnx q3 k (trn v) _ ⟨hfin.1,by unfold trn;split<;>simp,⟨hk.k1,hk.bd⟩,fun hq=>⟨(hk.ex (hq12 (hz.ex hq).1)).1,hfin.2 hq⟩,fun ho hq=>?_⟩
   ·(repeat' (conv=>whnf);first|refine⟨_,vcs_get (by omega),?_⟩|refine⟨p.c.length+p.r.length+i,by push_cast;rfl,by rw [hvl];omega,?_⟩|refine aC ?_ ?_<;>intro<;>try omega|refine z4_Q3 ?_|fail);all_goals try (conv=>whnf)
    refine .mk [] ?_
    (repeat' (conv=>whnf);first|refine aC ?_ ?_<;>intro<;>try omega|refine z2_Q3 ?_|fail);all_goals try (conv=>whnf)
    have ea:vcs i bs++[[i64 (p.c.length+p.r.length+i)]]=vcs (i+1) (up bs i (p.c.length+p.r.length+i)):=vcs_app
    have eb:vcs i tu++[[i64 (trn v)]]=vcs (i+1) (up tu i (trn v)):=vcs_app
    have ec:vcs i sl++[[i64 k]]=vcs (i+1) (up sl i k):=vcs_app
    have ed:mts i (nE p+1) f++[(vcs (nE p+1) (ngv v (up g' (p.c.length+2*p.r.length) v))).set (p.c.length+p.r.length+i) [i64 1]]=mts (i+1) (nE p+1) (up2 f i (up (ngv v (up g' (p.c.length+2*p.r.length) v)) (p.c.length+p.r.length+i) 1)):=by rw [vcs_set,mts_app]
    refine DrawOb.cut [] (.qs [0,1,2,3,4,5,6,7,8,9,10,11,12,13,14,15,16,17,20,21,22,23,24,27,28,29,30,31] (.l 18 [30,23,6] (.l 19 [30,23] (.l 25 [30,23] (.l 26 [30] (.l 32 [30] (.l 33 [] (.qs [34,35] (.l 36 [] (.qs [37,38] (.l 39 [] (.qs [40,41] (.l 42 [] .nil .no)) .no)) .no)) .no) .no) (.l 32 [30,23] (.l 26 [30] (.l 33 [] (.qs [34,35] (.l 36 [] (.qs [37,38] (.l 39 [] (.qs [40,41] (.l 42 [] .nil .no)) .no)) .no)) .no) .no) .no)) (.l 32 [30,23] (.l 25 [30,23] (.l 26 [30] (.l 33 [] (.qs [34,35] (.l 36 [] (.qs [37,38] (.l 39 [] (.qs [40,41] (.l 42 [] .nil .no)) .no)) .no)) .no) .no) .no) .no)) (.l 25 [30,23,6] (.l 19 [30,23] (.l 26 [30] (.l 32 [30] (.l 33 [] (.qs [34,35] (.l 36 [] (.qs [37,38] (.l 39 [] (.qs [40,41] (.l 42 [] .nil .no)) .no)) .no)) .no) .no) (.l 32 [30,23] (.l 26 [30] (.l 33 [] (.qs [34,35] (.l 36 [] (.qs [37,38] (.l 39 [] (.qs [40,41] (.l 42 [] .nil .no)) .no)) .no)) .no) .no) .no)) (.l 32 [30,23,6] (.l 19 [30,23] (.l 26 [30] (.l 33 [] (.qs [34,35] (.l 36 [] (.qs [37,38] (.l 39 [] (.qs [40,41] (.l 42 [] .nil .no)) .no)) .no)) .no) .no) .no) .no)) (.l 32 [30,23,6] (.l 19 [30,23] (.l 25 [30,23] (.l 26 [30] (.l 33 [] (.qs [34,35] (.l 36 [] (.qs [37,38] (.l 39 [] (.qs [40,41] (.l 42 [] .nil .no)) .no)) .no)) .no) .no) .no) (.l 25 [30,23,6] (.l 19 [30,23] (.l 26 [30] (.l 33 [] (.qs [34,35] (.l 36 [] (.qs [37,38] (.l 39 [] (.qs [40,41] (.l 42 [] .nil .no)) .no)) .no)) .no) .no) .no) .no)) .no))) (.l 25 [30,23,14,10,6] (.l 18 [30,23,6] (.l 19 [30,23] (.l 26 [30] (.l 32 [30] (.l 33 [] (.qs [34,35] (.l 36 [] (.qs [37,38] (.l 39 [] (.qs [40,41] (.l 42 [] .nil .no)) .no)) .no)) .no) .no) (.l 32 [30,23] (.l 26 [30] (.l 33 [] (.qs [34,35] (.l 36 [] (.qs [37,38] (.l 39 [] (.qs [40,41] (.l 42 [] .nil .no)) .no)) .no)) .no) .no) .no)) (.l 32 [30,23,6] (.l 19 [30,23] (.l 26 [30] (.l 33 [] (.qs [34,35] (.l 36 [] (.qs [37,38] (.l 39 [] (.qs [40,41] (.l 42 [] .nil .no)) .no)) .no)) .no) .no) .no) .no)) (.l 32 [30,23,14,10,6] (.l 18 [30,23,6] (.l 19 [30,23] (.l 26 [30] (.l 33 [] (.qs [34,35] (.l 36 [] (.qs [37,38] (.l 39 [] (.qs [40,41] (.l 42 [] .nil .no)) .no)) .no)) .no) .no) .no) .no) .no)) (.l 32 [30,23,14,10,6] (.l 18 [30,23,6] (.l 19 [30,23] (.l 25 [30,23] (.l 26 [30] (.l 33 [] (.qs [34,35] (.l 36 [] (.qs [37,38] (.l 39 [] (.qs [40,41] (.l 42 [] .nil .no)) .no)) .no)) .no) .no) .no) (.l 25 [30,23,6] (.l 19 [30,23] (.l 26 [30] (.l 33 [] (.qs [34,35] (.l 36 [] (.qs [37,38] (.l 39 [] (.qs [40,41] (.l 42 [] .nil .no)) .no)) .no)) .no) .no) .no) .no)) (.l 25 [30,23,14,10,6] (.l 18 [30,23,6] (.l 19 [30,23] (.l 26 [30] (.l 33 [] (.qs [34,35] (.l 36 [] (.qs [37,38] (.l 39 [] (.qs [40,41] (.l 42 [] .nil .no)) .no)) .no)) .no) .no) .no) .no) .no)) .no)))) (Y:=Unit) (st:=fun _=>⟨[(30,i64 i),(29,i64 p.r.length),(28, .psl 4 (rws p.r)),(3, .ptr 0 0)],tab (i+1) (i+1) (nE p+1) p.c.length p.r.length (up2 f i (up (ngv v (up g' (p.c.length+2*p.r.length) v)) (p.c.length+p.r.length+i) 1)) (up bs i (p.c.length+p.r.length+i)) (up tu i (trn v)) (up sl i k) 1 co q3⟩) (inv:=fun _=>True) (by decide+kernel) ?_ ?_
    ·(repeat' (conv=>whnf);first|refine aC ?_ ?_<;>intro<;>try omega|refine z2_Q3 ?_|refine And.intro ?_ ?_|fail);all_goals try (conv=>whnf)
     all_goals first|(refine⟨(),[0,8,12,13,14],trivial,?_⟩;dsimp only [tab];rw [←ea,←eb,←ec,←ed];refine Le.mk (by kernel_rfl) ?_ ?_<;>(repeat' (first|exact True.intro|refine And.intro ?_ ?_|exact Imp.refl _|exact rfl));done)|(refine⟨(),[0,8,11,13,14],trivial,?_⟩;dsimp only [tab];rw [←ea,←eb,←ec,←ed];refine Le.mk (by kernel_rfl) ?_ ?_<;>(repeat' (first|exact True.intro|refine And.intro ?_ ?_|exact Imp.refl _|exact rfl));done)|(refine⟨(),[0,8,10,13,14],trivial,?_⟩;dsimp only [tab];rw [←ea,←eb,←ec,←ed];refine Le.mk (by kernel_rfl) ?_ ?_<;>(repeat' (first|exact True.intro|refine And.intro ?_ ?_|exact Imp.refl _|exact rfl));done)|(refine⟨(),[0,8,11,12,14],trivial,?_⟩;dsimp only [tab];rw [←ea,←eb,←ec,←ed];refine Le.mk (by kernel_rfl) ?_ ?_<;>(repeat' (first|exact True.intro|refine And.intro ?_ ?_|exact Imp.refl _|exact rfl));done)|(refine⟨(),[0,8,10,12,14],trivial,?_⟩;dsimp only [tab];rw [←ea,←eb,←ec,←ed];refine Le.mk (by kernel_rfl) ?_ ?_<;>(repeat' (first|exact True.intro|refine And.intro ?_ ?_|exact Imp.refl _|exact rfl));done)
    rintro _ _
    (repeat' (conv=>whnf);first|refine aC ?_ ?_<;>intro<;>try omega|refine z2_Q3 ?_|fail);all_goals try (conv=>whnf)
    exact⟨(i+1,q3,_,_,_,_),[0,1,2,3,4],⟨by dsimp only;omega,hnx⟩,by dsimp only;omega,by(exact aL)⟩
   ·have hall:∀f∈wl++[(wn,wd)],f.2=1:=fun f hf=>by
     rcases List.mem_append.1 hf with hf|hf
     ·exact(hone ho).1 f hf
     ·rw [List.mem_singleton.1 hf];exact(hone ho).2
    obtain⟨o1,o2⟩:=hk.one hall
    have hq1:¬q1:=fun h=>hq (o1 h)
    have hk1:=o2 hq1
    have hd1:wd=1:=(hone ho).2
    obtain⟨_,_,v3,v4,_⟩:=w5
    dsimp only at v3 v4
    exact⟨fun h3=>hq1 (hq21 ho (hz.fit (by rw [hk1,hd1];show B62 (wn*(1/1));rw [show(1:Int)/1=1 from rfl,Int.mul_one];omega) h3)),hk1⟩
 ·have e:i=p.r.length:=by omega
  subst e
  (repeat' (conv=>whnf);first|refine aC ?_ ?_<;>intro<;>try omega|refine z2_Q3 ?_|fail);all_goals try (conv=>whnf)
  exact⟨(q,f,bs,tu,sl,co),hB,OI.refl _,Imp.refl _⟩
end Go.Proofs.YtbcjojomkibgeaaGreat
