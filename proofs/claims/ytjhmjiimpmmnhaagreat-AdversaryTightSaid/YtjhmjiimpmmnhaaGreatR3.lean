/- Lemmas of this seat. Conditions: as stated. -/
import Derived.Test.YtjhmjiimpmmnhaaGreatJ8
import Derived.Test.YtjhmjiimpmmnhaaGreatR1
set_option linter.unusedVariables false
set_option linter.unusedSimpArgs false
set_option maxRecDepth 4000
namespace Go.Proofs.YtjhmjiimpmmnhaaGreat
section
open Go.Sx Go.Cv
theorem z4_R3 {G H:Prop} (k:H) (h:H→G:=by first|exact fun r=>aS r|exact fun r=>aG r|exact fun r=>aD r|exact fun r=>aP_R1 r|exact fun r=>aI r|exact fun r=>aJ r|exact fun r=>aW (.qs [0,1,2,3,4,5,6,7,9,10,11,13] (.l 8 [9] (.l 12 [] (.qs [14,15,16] .nil) .no) .no)) r|exact fun r=>aW (.qs [0,1,2,3] (.l 4 [1] (.l 5 [1] (.l 6 [] (.qs [7] (.l 8 [] .nil .no)) .no) .no) .no)) r):G:=h k
theorem z2_R3 {G H:Prop} (k:H) (h:H→G:=by first|exact fun r=>aS r|exact fun r=>aG r|exact fun r=>aD r|exact fun r=>aH r|exact fun r=>aP_R1 r|exact fun r=>aI r|exact fun r=>aJ r|exact fun r=>aW (.qs [0,1,2,3,4,5,6,7,9,10,11,13] (.l 8 [9] (.l 12 [] (.qs [14,15,16] .nil) .no) .no)) r|exact fun r=>aW (.qs [0,1,2,3] (.l 4 [1] (.l 5 [1] (.l 6 [] (.qs [7] (.l 8 [] .nil .no)) .no) .no) .no)) r):G:=h k
theorem Least_ok (vs:List Int) (P:Nat) (Q:Int) (hb:Bd vs P Q):
  Ctr Tryz.prog 213 [crv vs P Q] [] (fun r o=>∃x:List Int×Nat×Int,LeastP vs P Q x.1 x.2.1 x.2.2∧o=[]∧r=crv x.1 x.2.1 x.2.2):=by
 refine Ctr.impE ?_
 have p1:=hb.p1
 have pn:=hb.pn
 have hn:=hb.n
 have q0:=hb.q0
 have q1:=hb.q1
 refine fI 0 Tryz.func213 ?_
 (repeat' (conv=>whnf);first|refine aC ?_ ?_<;>intro _|refine z1_R1 ?_|fail);all_goals try (conv=>whnf)
 refine LoopOb.mk (Y:=Nat) (st:=fun j=>⟨[(1, .ptr 0 0),(2, .ptr 1 0),(3,i64 j)],[.box [.psl 1 (ints vs),i64 P,i64 Q], .box [.nil,i64 0,i64 0]]⟩)
  (inv:=fun j=>j≤vs.length∧∀k<j,vs.getD k 0≠4611686018427387904) (fun j=>vs.length-j) 0 [0,1] ⟨by omega,fun k h=>by omega⟩ (by(exact aL)) ?_
 rintro j ⟨h1,h2⟩
 (repeat' (conv=>whnf);first|refine aC ?_ ?_<;>intro _|refine z2_R3 ?_|fail);all_goals try (conv=>whnf)
 ·have hj:vs.getD j 0=INF:=by assumption
  refine⟨j+1,by push_cast;rfl,?_⟩
  refine⟨⟨by omega,by simp only [ints_len]at*;omega⟩,?_⟩
  (repeat' (conv=>whnf);first|refine aC ?_ ?_<;>intro _|refine z2_J3 ?_|fail);all_goals try (conv=>whnf)
  refine .mk [.fz 3] ?_
  refine⟨(vs.take (j+1),1,0), .inl ⟨j,by simp only [ints_len]at*;omega,hj,h2,rfl,rfl,rfl⟩,rfl,?_⟩
  exact Imp.agg ⟨Imp.psl (by simp [ints,List.map_take]),Imp.refl _,Imp.refl _,trivial⟩
 ·have hj:¬vs.getD j 0=INF:=by assumption
  refine⟨j+1,[0,1],⟨by simp only [ints_len]at*;omega,fun k hk=>?_⟩,by simp only [ints_len]at*;omega,by(exact aL)⟩
  by_cases hkj:k=j
  ·subst hkj;exact hj
  ·exact h2 k (by omega)
 have hjl:j=vs.length:=by simp only [ints_len]at*;omega
 subst hjl
 have hper:Per (val vs P Q) (vs.length-P) P Q:=val_per p1 pn (fun t _ ht=>h2 t ht)
 refine LoopOb.mk (Y:=Nat) (st:=fun p=>⟨[(1, .ptr 0 0),(2, .ptr 1 0),(4,i64 ((vs.length-P:Nat):Int)),(5,i64 p)],[.box [.psl 1 (ints vs),i64 P,i64 Q], .box [.nil,i64 0,i64 0]]⟩)
  (inv:=fun p=>1≤p∧p≤P∧∀p',1≤p'→p'<p→¬Fits (val vs P Q) (vs.length-P) P Q p') (fun p=>P-p) 1 [0,1] ⟨by omega,by omega,fun p' h1 h2=>by omega⟩
  (by refine Le.mk (by kernel_rfl) ?_ ?_<;>repeat' (first|exact True.intro|refine And.intro ?_ ?_|exact Imp.refl _|exact Imp.any _|exact Imp.num (by simp only [ints_len];omega)|exact rfl)) ?_
 rintro p ⟨h3,h4,h5⟩
 (repeat' (conv=>whnf);first|refine aC ?_ ?_<;>intro _|refine z2_R3 ?_|fail);all_goals try (conv=>whnf)
 refine aM [] (periodic_ok vs P Q _ _ hb h3 h4 (by omega)) rfl rfl ?_
 rintro _ _ ⟨rfl,rfl⟩
 (repeat' (conv=>whnf);first|refine aC ?_ ?_<;>intro _|refine z2_R3 ?_|fail);all_goals try (conv=>whnf)
 ·have hnf:¬Fits (val vs P Q) (vs.length-P) P Q p:=by assumption
  have hlt:p<P:=by
   rcases Nat.lt_or_ge p P with h|h
   ·exact h
   ·have:p=P:=by omega
    subst this;exact absurd (fits_self p1 hper) hnf
  refine⟨p+1,[0,1],⟨by omega,by omega,fun p' h6 h7=>?_⟩,by omega,by(exact aL)⟩
  by_cases hpp:p'=p
  ·subst hpp;exact hnf
  ·exact h5 p' h6 (by omega)
 have hfit:Fits (val vs P Q) (vs.length-P) P Q p:=Classical.not_not.1 (by assumption)
 have hQp:=mul_bd (a:=Q) (b:=(p:Int)) (A:=1099511627776) (B:=2000) (by omega) (by omega) (by omega) (by omega)
 have hd:=tdiv_bd (a:=Q*p) (b:=(P:Int)) (by omega) (by omega)
 have hmin:=Fits.min p1 hper h5
 have hpq:=Fits.per p1 hper hfit
 (repeat' (conv=>whnf);first|refine aC ?_ ?_<;>intro _|refine z1_R1 ?_|fail);all_goals try (conv=>whnf)
 refine⟨by omega,?_⟩
 rw [hd.1]
 (repeat' (conv=>whnf);first|refine aC ?_ ?_<;>intro _|refine z1_R1 ?_|fail);all_goals try (conv=>whnf)
 generalize hq:Q*(p:Int)/(P:Int)=q at*
 refine LoopOb.mk (Y:=Nat) (st:=fun s=>⟨[(1, .ptr 0 0),(2, .ptr 1 0),(4,i64 s),(5,i64 p),(6,i64 q)],[.box [.psl 1 (ints vs),i64 P,i64 Q], .box [.nil,i64 0,i64 0]]⟩)
  (inv:=fun s=>s≤vs.length-P∧Per (val vs P Q) s p q) (fun s=>s) (vs.length-P) [0,1] ⟨by omega,hpq⟩ (by(exact aL)) ?_
 rintro s ⟨h6,h7⟩
 (repeat' (conv=>whnf);first|refine aC ?_ ?_<;>intro _|refine z4_R3 ?_|fail);all_goals try (conv=>whnf)
 ·refine .mk [] ?_
  refine aM [] (At_ok _ _ _ _ hb (by omega) (by omega)) rfl rfl ?_
  rintro _ _ ⟨rfl,rfl⟩
  (repeat' (conv=>whnf);first|refine aC ?_ ?_<;>intro _|refine z1_R1 ?_|fail);all_goals try (conv=>whnf)
  refine aM [] (At_ok _ _ _ _ hb (by omega) (by omega)) rfl rfl ?_
  rintro _ _ ⟨rfl,rfl⟩
  have hs0:0<s:=by omega
  rw [show((s:Int)-1+p).toNat =s-1+p by omega,show((s:Int)-1).toNat =s-1 by omega]
  have b1:=val_bd hb (t:=s-1) (by omega)
  have b2:=val_bd hb (t:=s-1+p) (by omega)
  (repeat' (conv=>whnf);first|refine aC ?_ ?_<;>intro _|refine z4_R3 ?_|fail);all_goals try (conv=>whnf)
  ·refine .mk [] ?_
   refine⟨s-1,[0,1],⟨by omega,h7.pred (by assumption)⟩,by omega,?_⟩
   refine Le.mk (by kernel_rfl) ?_ ?_<;>repeat' (first|exact True.intro|refine And.intro ?_ ?_|exact Imp.refl _|exact Imp.any _|exact Imp.num (by omega)|exact rfl)
  have hms:MinS (val vs P Q) s p q:=minS_of (by right;assumption)
  refine .mk [.nb 2 0 1] ?_
  refine LoopOb.mk (Y:=Nat) (st:=fun t=>⟨[(1, .ptr 0 0),(2, .ptr 1 0),(4,i64 s),(5,i64 p),(7, .ptr 2 0),(8,i64 t)],[.box [.psl 1 (ints vs),i64 P,i64 Q], .box [.nil,i64 0,i64 0], .box [.vec 3,i64 p,i64 q], .vec 1 (ints (vals (val vs P Q) t))]⟩)
   (inv:=fun t=>t≤s+p) (fun t=>s+p-t) 0 [0,1,2,3] (by omega) (by(exact aL)) ?_
  intro t ht
  (repeat' (conv=>whnf);first|refine aC ?_ ?_<;>intro _|refine z4_R3 ?_|fail);all_goals try (conv=>whnf)
  ·refine .mk [] ?_
   refine aM [] (At_ok _ _ _ _ hb (by omega) (by omega)) rfl rfl ?_
   rintro _ _ ⟨rfl,rfl⟩
   simp only [Int.toNat_natCast]
   (repeat' (conv=>whnf);first|refine aC ?_ ?_<;>intro _|refine z4_R3 ?_|fail);all_goals try (conv=>whnf)
   refine .mk [] ?_
   refine⟨t+1,[0,1,2,5],by omega,by omega,?_⟩
   refine Le.mk (by kernel_rfl) ?_ ?_<;>repeat' (first|exact True.intro|refine And.intro ?_ ?_|exact Imp.refl _|exact Imp.any _|exact Imp.num (by omega)|exact rfl|simp [ints,vals_succ])
  ·refine .mk [.fz 3] ?_
   have htt:t=s+p:=by omega
   subst htt
   refine⟨(vals (val vs P Q) (s+p),p,q), .inr ⟨h2,s,h3,h7,hmin,hms,rfl⟩,rfl,?_⟩
   exact Imp.agg ⟨Imp.refl _,Imp.refl _,Imp.refl _,trivial⟩
 ·have hms:MinS (val vs P Q) s p q:=minS_of (by left;omega)
  refine .mk [.nb 2 0 1] ?_
  refine LoopOb.mk (Y:=Nat) (st:=fun t=>⟨[(1, .ptr 0 0),(2, .ptr 1 0),(4,i64 s),(5,i64 p),(7, .ptr 2 0),(8,i64 t)],[.box [.psl 1 (ints vs),i64 P,i64 Q], .box [.nil,i64 0,i64 0], .box [.vec 3,i64 p,i64 q], .vec 1 (ints (vals (val vs P Q) t))]⟩)
   (inv:=fun t=>t≤s+p) (fun t=>s+p-t) 0 [0,1,2,3] (by omega) (by(exact aL)) ?_
  intro t ht
  (repeat' (conv=>whnf);first|refine aC ?_ ?_<;>intro _|refine z4_R3 ?_|fail);all_goals try (conv=>whnf)
  ·refine .mk [] ?_
   refine aM [] (At_ok _ _ _ _ hb (by omega) (by omega)) rfl rfl ?_
   rintro _ _ ⟨rfl,rfl⟩
   simp only [Int.toNat_natCast]
   (repeat' (conv=>whnf);first|refine aC ?_ ?_<;>intro _|refine z4_R3 ?_|fail);all_goals try (conv=>whnf)
   refine .mk [] ?_
   refine⟨t+1,[0,1,2,5],by omega,by omega,?_⟩
   refine Le.mk (by kernel_rfl) ?_ ?_<;>repeat' (first|exact True.intro|refine And.intro ?_ ?_|exact Imp.refl _|exact Imp.any _|exact Imp.num (by omega)|exact rfl|simp [ints,vals_succ])
  ·refine .mk [.fz 3] ?_
   have htt:t=s+p:=by omega
   subst htt
   refine⟨(vals (val vs P Q) (s+p),p,q), .inr ⟨h2,s,h3,h7,hmin,hms,rfl⟩,rfl,?_⟩
   exact Imp.agg ⟨Imp.refl _,Imp.refl _,Imp.refl _,trivial⟩
end
section
open Go.Sx Go.Cv
theorem Valid_ok (vs:List Int) (p i:Int):
  Ctr Tryz.prog 41 [crv vs p i] [] (fun r o=>o=[]∧r= .bp (ValidP vs p i)):=by
 refine Ctr.imp ?_
 refine fI 0 Tryz.func41 ?_
 (repeat' (conv=>whnf);first|refine aC ?_ ?_<;>intro _|refine z1_Vc ?_|fail);all_goals try (conv=>whnf)
 all_goals try (refine And.intro rfl (Imp.bl ⟨fun h=>(by cases h),fun h=>?_⟩);simp only [ints_len]at*;simp only [ValidP]at h;omega)
 rename_i h1 h2 h3 h4 h5 h6 h7
 simp only [ints_len]at h1 h2 h3 h4 h5 h6 h7
 refine LoopOb.mk (Y:=Nat) (st:=fun j=>⟨[(1, .ptr 0 0),(3, .num .i64 vs.length),(4, .num .i64 j)],[.box [.psl 1 (ints vs), .num .i64 p, .num .i64 i]]⟩)
  (inv:=fun j=>j≤vs.length∧(∀k<j,vs.getD k 0=4611686018427387904∨0≤vs.getD k 0∧vs.getD k 0≤1073741824)∧(∀k,k+1<j→vs.getD k 0≤vs.getD (k+1) 0)) (fun j=>vs.length-j) 0 [0] ?_ ?_ ?_
 ·simp
 ·(exact aL)
 ·rintro j ⟨hj,hv,hm⟩
  (repeat' (conv=>whnf);first|refine aC ?_ ?_<;>intro _|refine z1_Vc ?_|fail);all_goals try (conv=>whnf)
  all_goals try rw [show(↑j-1:Int).toNat =j-1 by omega]at*
  all_goals try (
   refine And.intro rfl (Imp.bl ⟨fun h=>(by cases h),fun h=>?_⟩)
   obtain⟨_,_,_,_,_,_,_,q1,q2,q3,_⟩:=h
   have q1:=q1 j
   have q2:=q2 (j-1)
   try rw [show j-1+1=j by omega]at q2
   try rw [show(vs.length-1:Int).toNat =vs.length-1 by omega]at*
   omega)
  all_goals try (
   refine⟨j+1,[0],⟨by omega,fun k hk=>?_,fun k hk=>?_⟩,by omega,?_⟩
   ·by_cases hkj:k=j
    ·subst hkj;omega
    ·exact hv k (by omega)
   ·by_cases hkj:k+1=j
    ·subst hkj;first|omega|(simp only [Nat.add_sub_cancel]at*;omega)
    ·exact hm k (by omega)
   ·(exact aL))
  all_goals have hjl:j=vs.length:=by omega
  all_goals subst hjl
  all_goals rw [show(vs.length-1:Int).toNat =vs.length-1 by omega]at*
  ·have hx2:vs.getD (vs.length-1) 0=4611686018427387904:=by assumption
   have hp:p=1:=by assumption
   exact⟨rfl,Imp.bp ⟨fun h=>⟨by omega,by omega,by omega,by omega,by omega,by omega,by omega,hv,hm,fun _=>⟨hp,h⟩,fun h'=>absurd hx2 h'⟩,fun h=>by obtain⟨_,_,_,_,_,_,_,_,_,q3,_⟩:=h;exact(q3 hx2).2⟩⟩
  ·have hx2:¬vs.getD (vs.length-1) 0=4611686018427387904:=by assumption
   have hq:=hv (vs.length-p).toNat (by omega)
   refine ArOb.fits (by omega) ?_
   (repeat' (conv=>whnf);first|refine aC ?_ ?_<;>intro _|refine z1_Vc ?_|fail);all_goals try (conv=>whnf)
   rw [show(vs.length-1:Int).toNat =vs.length-1 by omega]at*
   rw [show(vs.length-p:Int).toNat =vs.length-p.toNat by omega]at*
   exact⟨rfl,Imp.bp ⟨fun h=>⟨by omega,by omega,by omega,by omega,by omega,by omega,by omega,hv,hm,fun h'=>absurd h' hx2,fun _=>h⟩,fun h=>by obtain⟨_,_,_,_,_,_,_,_,_,_,q4⟩:=h;exact q4 hx2⟩⟩
end
section
open Go.Sx Go.Cv
theorem imp_zero:Imp (.agg [.nil,i64 0,i64 0]) (crv [] 0 0):=Imp.agg ⟨Imp.nil 1,Imp.refl _,Imp.refl _,trivial⟩
abbrev crvE (x:List Int×Int×Int×Int):SV:= .tup [crv x.1 x.2.1 x.2.2.1,i64 x.2.2.2]
theorem bd_of {vs p q} (h:VF vs p q):Bd vs p q:=⟨h.p1,h.pn,by have:=h.n2;omega,h.q0,by have:=h.q1;omega,fun j=>by
 by_cases hj:j<vs.length
 ·have:=h.v j hj;simp only [INF]at this;omega
 ·rw [List.getD_eq_getElem?_getD,List.getElem?_eq_none (by omega)];simp⟩
theorem Made_ok (vs:List Int) (P:Nat) (Q:Int) (hb:Bd vs P Q):
  Ctr Tryz.prog 180 [crv vs P Q] [] (fun r o=>∃x:List Int×Int×Int×Int,MadeP vs P Q x.1 x.2.1 x.2.2.1 x.2.2.2∧o=[]∧r=crvE x):=by
 refine Ctr.impE ?_
 refine fI 0 Tryz.func180 ?_
 (repeat' (conv=>whnf);first|refine aC ?_ ?_<;>intro _|refine z1_R1 ?_|fail);all_goals try (conv=>whnf)
 refine aM [] (Least_ok vs P Q hb) rfl rfl ?_
 rintro _ _ ⟨⟨ws,p1,q1⟩,hL,rfl,rfl⟩
 simp only at hL
 (repeat' (conv=>whnf);first|refine aC ?_ ?_<;>intro _|refine z1_R1 ?_|fail);all_goals try (conv=>whnf)
 refine aK [] (Valid_ok ws p1 q1) ?_
 (repeat' (conv=>whnf);first|refine aC ?_ ?_<;>intro _|refine z1_R1 ?_|fail);all_goals try (conv=>whnf)
 ·have hv:¬ValidP ws p1 q1:=by assumption
  exact⟨([],0,0,3),⟨ws,p1,q1,hL, .inr ⟨hv,rfl,rfl,rfl,rfl⟩⟩,rfl,Imp.tup ⟨imp_zero,Imp.refl _,trivial⟩⟩
 ·have hv:ValidP ws p1 q1:=Classical.not_not.1 (by assumption)
  exact⟨(ws,p1,q1,0),⟨ws,p1,q1,hL, .inl ⟨hv,rfl,rfl,rfl,rfl⟩⟩,rfl,Imp.refl _⟩
theorem Normal_ok (vs:List Int) (p q:Int):
  Ctr Tryz.prog 195 [crv vs p q] [] (fun r o=>∃x:List Int×Int×Int×Int,NormP vs p q x.1 x.2.1 x.2.2.1 x.2.2.2∧o=[]∧r=crvE x):=by
 refine Ctr.impE ?_
 refine fI 0 Tryz.func195 ?_
 (repeat' (conv=>whnf);first|refine aC ?_ ?_<;>intro _|refine z1_R1 ?_|fail);all_goals try (conv=>whnf)
 refine aK [] (Valid_ok vs p q) ?_
 (repeat' (conv=>whnf);first|refine aC ?_ ?_<;>intro _|refine z1_R1 ?_|fail);all_goals try (conv=>whnf)
 ·have hv:¬ValidP vs p q:=by assumption
  exact⟨([],0,0,1), .inr ⟨hv,rfl,rfl,rfl,rfl⟩,rfl,Imp.tup ⟨imp_zero,Imp.refl _,trivial⟩⟩
 ·have hv:ValidP vs p q:=Classical.not_not.1 (by assumption)
  obtain⟨p0,rfl,hf⟩:=hv.vf
  refine aM [] (Least_ok vs p0 q (bd_of hf)) rfl rfl ?_
  rintro _ _ ⟨⟨ws,p1,q1⟩,hL,rfl,rfl⟩
  simp only at hL
  (repeat' (conv=>whnf);first|refine aC ?_ ?_<;>intro _|refine z1_R1 ?_|fail);all_goals try (conv=>whnf)
  exact⟨(ws,p1,q1,0), .inl ⟨rfl,p0,p1,rfl,rfl,hf,hL.nf hf⟩,rfl,Imp.refl _⟩
end
section
open Go.Sx Go.Cv
def FlatP (v:Int) (x:List Int×Int×Int×Int):Prop:=
 (v<0∧x=([],0,0,2))∨(0≤v∧MadeP [0,min v 1073741825] 1 0 x.1 x.2.1 x.2.2.1 x.2.2.2)
theorem Flat_ok (v:Int):
  Ctr Tryz.prog 181 [i64 v] [] (fun r o=>∃x:List Int×Int×Int×Int,FlatP v x∧o=[]∧r=crvE x):=by
 refine Ctr.impE ?_
 refine fI 0 Tryz.func181 ?_
 (repeat' (conv=>whnf);first|refine aC ?_ ?_<;>intro _|refine z2_J3 ?_|fail);all_goals try (conv=>whnf)
 ·refine .mk [] ?_
  exact⟨([],0,0,2), .inl ⟨by assumption,rfl⟩,rfl,Imp.tup ⟨imp_zero,Imp.refl _,trivial⟩⟩
 ·refine .mk [.fz 1] ?_
  have hv:¬v<0:=by assumption
  refine aM [] (Made_ok [0,min v 1073741825] 1 0 ⟨by omega,by simp,by simp,by omega,by omega,fun j=>by
   match j with
   |0=>simp
   |1=>simp;omega
   |j+2=>simp⟩) rfl rfl ?_
  rintro _ _ ⟨⟨ws,p1,q1,e⟩,hL,rfl,rfl⟩
  (repeat' (conv=>whnf);first|refine aC ?_ ?_<;>intro _|refine z1_R1 ?_|fail);all_goals try (conv=>whnf)
  exact⟨(ws,p1,q1,e), .inr ⟨by omega,hL⟩,rfl,Imp.refl _⟩
def FinP (vs:List Int):Prop:=vs.getD (vs.length-1) 0≠INF
theorem Finite_ok (vs:List Int) (p q:Int):Ctr Tryz.prog 101 [crv vs p q] [] (fun r o=>o=[]∧r= .bp (ValidP vs p q∧FinP vs)):=by
 refine Ctr.imp ?_
 refine fI 0 Tryz.func101 ?_
 (repeat' (conv=>whnf);first|refine aC ?_ ?_<;>intro _|refine z1_R1 ?_|fail);all_goals try (conv=>whnf)
 refine aK [] (Valid_ok vs p q) ?_
 (repeat' (conv=>whnf);first|refine aC ?_ ?_<;>intro _|refine z1_R1 ?_|fail);all_goals try (conv=>whnf)
 ·have hv:ValidP vs p q:=by assumption
  have h1:=hv.1
  have h2:=hv.2.1
  (repeat' (conv=>whnf);first|refine aC ?_ ?_<;>intro _|refine z1_R1 ?_|fail);all_goals try (conv=>whnf)
  simp only [ints_len]
  rw [show((vs.length:Int)-1).toNat =vs.length-1 by omega]
  exact⟨by trivial,Imp.bp ⟨fun h=>⟨hv,h⟩,fun h=>h.2⟩⟩
 ·have hv:¬ValidP vs p q:=by assumption
  exact⟨rfl,Imp.bl ⟨fun h=>(by cases h),fun h=>absurd h.1 hv⟩⟩
def plus (a b:Int):Int:=if a=INF∨b=INF then INF else a+b
theorem plus_ok (a b:Int) (ha:0≤a) (hb:0≤b) (ha2:a≤6000000000000000000) (hb2:b≤6000000000000000000) (hab:a≠INF→b≠INF→a+b≤9000000000000000000):Ctr Tryz.prog 179 [i64 a,i64 b] [] (fun r o=>o=[]∧r=i64 (plus a b)):=by
 refine fI 0 Tryz.func179 ?_
 (repeat' (conv=>whnf);first|refine aC ?_ ?_<;>intro _|refine z1_R1 ?_|fail);all_goals try (conv=>whnf)
 ·have h:a=INF:=by assumption
  exact⟨rfl,by simp only [oneS,plus];rw [if_pos (.inl h)]⟩
 ·have h:b=INF:=by assumption
  exact⟨rfl,by simp only [oneS,plus];rw [if_pos (.inr h)]⟩
 ·have h1:¬a=INF:=by assumption
  have h2:¬b=INF:=by assumption
  have:=hab h1 h2
  refine ArOb.fits (by omega) ?_
  (repeat' (conv=>whnf);first|refine aC ?_ ?_<;>intro _|refine z1_R1 ?_|fail);all_goals try (conv=>whnf)
  exact⟨rfl,by simp only [oneS,plus];rw [if_neg (by rintro(h|h);exact h1 h;exact h2 h)]⟩
theorem z3_R5 {G H:Prop} (k:H) (h:H→G:=by first|exact fun r=>aS r|exact fun r=>aG r|exact fun r=>aD r|exact fun r=>aH r|exact fun r=>aP_R1 r|exact fun r=>aI r|exact fun r=>aJ r|exact fun r=>aW (.qs [0,1,2,3,4,5,6,7,8,9,10,11,12,13,14,15] .nil) r):G:=h k
theorem Slopes_ok (vs ws:List Int) (p p' l:Nat) (q q':Int) (hp:1≤p) (hp':1≤p') (hl:l≤1000) (hq:0≤q) (hq':0≤q') (hq2:q≤1099511627776) (hq2':q'≤1099511627776):
  Ctr Tryz.prog 197 [crv vs p q,crv ws p' q',i64 l] [] (fun r o=>o=[]∧r=i64 (q*(l/p:Nat)-q'*(l/p':Nat))):=by
 have e1:(l:Int).tdiv p=((l/p:Nat):Int):=by rw [Int.tdiv_eq_ediv_of_nonneg (by omega)];rfl
 have e2:(l:Int).tdiv p'=((l/p':Nat):Int):=by rw [Int.tdiv_eq_ediv_of_nonneg (by omega)];rfl
 have d1:l/p≤l:=Nat.div_le_self _ _
 have d2:l/p'≤l:=Nat.div_le_self _ _
 generalize l/p=k1 at*
 generalize l/p'=k2 at*
 have b1:=mul_bd (a:=q) (b:=(k1:Int)) (A:=1099511627776) (B:=1000) (by omega) (by omega) (by omega) (by omega)
 have b2:=mul_bd (a:=q') (b:=(k2:Int)) (A:=1099511627776) (B:=1000) (by omega) (by omega) (by omega) (by omega)
 refine fI 0 Tryz.func197 ?_
 (repeat' (conv=>whnf);first|refine aC ?_ ?_<;>intro _|refine z3_R5 ?_|fail);all_goals try (conv=>whnf)
 refine⟨by omega,?_⟩
 rw [e1]
 (repeat' (conv=>whnf);first|refine aC ?_ ?_<;>intro _|refine z3_R5 ?_|fail);all_goals try (conv=>whnf)
 refine⟨by omega,?_⟩
 rw [e2]
 (repeat' (conv=>whnf);first|refine aC ?_ ?_<;>intro _|refine z3_R5 ?_|fail);all_goals try (conv=>whnf)
 exact⟨rfl,rfl⟩
end
end Go.Proofs.YtjhmjiimpmmnhaaGreat
