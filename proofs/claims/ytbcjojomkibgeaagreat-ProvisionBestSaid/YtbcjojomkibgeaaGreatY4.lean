/- Lemmas of this seat. Conditions: as stated. -/
import Derived.Test.YtbcjojomkibgeaaGreatY3
set_option linter.unusedVariables false
set_option linter.unusedSimpArgs false
set_option maxHeartbeats 2000000
set_option maxRecDepth 4000
namespace Go.Proofs.YtbcjojomkibgeaaGreat
section
open Go.Sx Go.Fq Go.Np Go.Pv Go.Dt
theorem PL_nil:PL ⟨[],[]⟩:=⟨by simp,by simp,by simp⟩
theorem prgE_pl {n:Nt} {l:List Dm}:PL (prgE n l):=by
 unfold prgE;split
 ·exact VP.pl (prg_vp (by assumption))
 ·exact PL_nil
structure ShP (n:Nt) (l:List Dm) (X:List F) (s:Slt) (e:Int):Prop where
 no:pchk n l≠0→e=pchk n l
 yes:pchk n l=0→Fits (prg n l)→SolV (prg n l) s∧((s.1=1∧X=s.2.1∧e=0)∨(s.1≠1∧X=[]∧e=5))
theorem aP_Y4 {A B K:Prop} (k:K) (a:A:=by(simp only [zA,zT,zD,zC,zN,ints_len,zR,fr_len];omega)) (b:B:=by(simp only [zA,zT,zD,zC,zN,ints_len,zR,fr_len];omega)):(A∧B)∧K:=⟨⟨a,b⟩,k⟩
theorem z2_Y4 {G H:Prop} (k:H) (h:H→G:=by first|exact fun r=>aS r|exact fun r=>aG r|exact fun r=>aD r|exact fun r=>aP_Y4 r|exact fun r=>aI r|exact fun r=>aJ r|exact fun r=>aW (.qs [0,1] (.l 2 [] (.qs [3] .nil) .no)) r|exact fun r=>aW (.qs [0,1,2,3] (.l 4 [] (.qs [5] .nil) .no)) r):G:=h k
theorem z1_Y4 {G H:Prop} (k:H) (h:H→G:=by first|exact fun r=>aS r|exact fun r=>aG r|exact fun r=>aD r|exact fun r=>aH r|exact fun r=>aP_Y4 r|exact fun r=>aI r|exact fun r=>aJ r|exact fun r=>aW (.qs [0,1] (.l 2 [] (.qs [3] .nil) .no)) r|exact fun r=>aW (.qs [0,1,2,3] (.l 4 [] (.qs [5] .nil) .no)) r):G:=h k
theorem pShare_ok (n:Nt) (hn:NL n) (l:List Dm) (hl:l.length≤9223372036854775807):Ctr Tryz.prog 15 [ntv n,dml l] [] (fun r o=>∃x:List F×Slt×Int,ShP n l x.1 x.2.1 x.2.2∧o=[]∧r= .tup [fsl x.1,solw x.2.1,i64 x.2.2]):=by
 refine Ctr.impO ?_
 refine fI 0 Tryz.func15 ?_
 have cP:=pProg_ok n hn l hl
 have cS:=Solve_ok' (prgE n l) prgE_pl
 (repeat' (conv=>whnf);first|refine AsgOb.nil ?_|refine aC ?_ ?_<;>intro<;>try omega|refine z1_Y4 ?_|(refine aK [] cP ?_)|fail);all_goals try (conv=>whnf)
 ·exact⟨([],(0,[],(0,0),[],[]),pchk n l),⟨fun _=>rfl,fun h=>absurd h (by assumption)⟩,OI.refl _,Imp.tup ⟨Imp.nil _,Imp.agg ⟨Imp.refl _,Imp.nil _,Imp.refl _,Imp.refl _,Imp.nil _,Imp.nil _,trivial⟩,Imp.refl _,trivial⟩⟩
 have he:pchk n l=0:=Classical.not_not.1 (by assumption)
 have hE:prgE n l=prg n l:=by unfold prgE;rw [if_pos he]
 have hv:=prg_vp he
 rw [hE]at cS
 rw [hE]
 refine aM [] cS rfl rfl ?_
 rintro _ _ ⟨⟨s,e⟩,hS,rfl,rfl⟩
 dsimp only at hS⊢
 have hy:=hS.yes hv
 (repeat' (conv=>whnf);first|refine AsgOb.nil ?_|refine aC ?_ ?_<;>intro<;>try omega|refine z2_Y4 ?_|fail);all_goals try (conv=>whnf)
 ·refine .mk [] ?_
  (repeat' (conv=>whnf);first|refine aC ?_ ?_<;>intro _|refine z1_Y4 ?_|fail);all_goals try (conv=>whnf)
  exact⟨([],(0,[],(0,0),[],[]),e),⟨fun h=>absurd he h,fun _ hF=>absurd hF (by rcases hy with h|h;exact absurd h.1 (by assumption);exact h.2)⟩,OI.refl _,Imp.tup ⟨Imp.nil _,Imp.agg ⟨Imp.refl _,Imp.nil _,Imp.refl _,Imp.refl _,Imp.nil _,Imp.nil _,trivial⟩,Imp.refl _,trivial⟩⟩
 ·refine .mk [.fz 4] ?_
  (repeat' (conv=>whnf);first|refine aC ?_ ?_<;>intro _|refine z1_Y4 ?_|fail);all_goals try (conv=>whnf)
  exact⟨([],s,5),⟨fun h=>absurd he h,fun _ hF=>⟨by rcases hy with h|h;exact h.2;exact absurd hF h.2, .inr ⟨by assumption,rfl,rfl⟩⟩⟩,OI.refl _,Imp.refl _⟩
 ·refine .mk [] ?_
  (repeat' (conv=>whnf);first|refine aC ?_ ?_<;>intro _|refine z1_Y4 ?_|fail);all_goals try (conv=>whnf)
  exact⟨(s.2.1,s,0),⟨fun h=>absurd he h,fun _ hF=>⟨by rcases hy with h|h;exact h.2;exact absurd hF h.2, .inl ⟨Classical.not_not.1 (by assumption),rfl,rfl⟩⟩⟩,OI.refl _,Imp.refl _⟩
theorem z3_Y4 {G H:Prop} (k:H) (h:H→G:=by first|exact fun r=>aS r|exact fun r=>aG r|exact fun r=>aD r|exact fun r=>aH r|exact fun r=>aP_Y4 r|exact fun r=>aI r|exact fun r=>aJ r):G:=h k
theorem pKeeps_ok (n:Nt) (hn:NL n) (l:List Dm) (hl:l.length≤9223372036854775807) (X:List F) (hX:X.length≤9223372036854775807):Ctr Tryz.prog 21 [ntv n,dml l,fsl X] [] (fun r o=>o=[]∧r= .bp (pchk n l=0∧Feas (prgE n l) X)):=by
 refine Ctr.imp ?_
 refine fI 0 Tryz.func21 ?_
 have cP:=pProg_ok n hn l hl
 have cF:=Feasible_ok (prgE n l) prgE_pl X hX
 generalize Feas (prgE n l) X=f at*
 (repeat' (conv=>whnf);first|refine aC ?_ ?_<;>intro<;>try omega|refine z3_Y4 ?_|(refine aK [] cP ?_)|(refine aK [] cF ?_)|fail);all_goals try (conv=>whnf)
 all_goals first
  |exact⟨rfl,Imp.bl ⟨fun h=>absurd h (by simp),fun h=>absurd h.1 (by assumption)⟩⟩
  |exact⟨rfl,Imp.bp ⟨fun h=>⟨by omega,h⟩,fun h=>h.2⟩⟩
  |skip
theorem z4_Y4 {G H:Prop} (k:H) (h:H→G:=by first|exact fun r=>aS r|exact fun r=>aG r|exact fun r=>aD r|exact fun r=>aP_Y4 r|exact fun r=>aI r|exact fun r=>aJ r):G:=h k
theorem pWorth_ok (l:List Dm) (hl:l.length≤1000) (X:List F):Ctr Tryz.prog 23 [dml l,fsl X] [] (fun r o=>o=[]∧r=res (prod (wts l) X)):=by
 refine Ctr.imp ?_
 refine fI 0 Tryz.func23 ?_
 have hll:=dml_len l
 (repeat' (conv=>whnf);first|refine aC ?_ ?_<;>intro<;>try omega|refine z4_Y4 ?_|fail);all_goals try (conv=>whnf)
 refine .mk [] ?_
 refine LoopOb.mk (Y:=Nat) (st:=fun i=>⟨[(11,i64 i),(10,i64 l.length),(9,dml l),(6, .vec 1),(5,i64 0),(4, .ptr 0 0),(1,fsl X)],[.box [i64 0,i64 0], .vec 2 (fr2 ((wts l).take i))]⟩)
  (inv:=fun i=>i≤l.length) (fun i=>l.length-i) 0 [0,1] (by omega) (by rw [hll];(exact aL)) ?_
 intro i hi
 have hwl:=wts_tl hi
 have hwf:=fr_len ((wts l).take i)
 (repeat' (conv=>whnf);first|refine z3_Y4 ?_|fail);all_goals try (conv=>whnf)
 refine CondOb.mk (fun hlt=>?_) (fun hlt=>?_)
 ·have hil:i<l.length:=by omega
  have hg:=dml_get hil
  have hs:=wts_take hil
  generalize l.getD i dm0=d at*
  (repeat' (conv=>whnf);first|refine⟨i,_,rfl,hg,?_⟩|refine aC ?_ ?_<;>intro<;>try omega|refine z3_Y4 ?_|fail);all_goals try (conv=>whnf)
  exact⟨i+1,[0,4],by omega,by omega,by rw [hs,fr2_append];(exact aL)⟩
 ·rw [List.take_of_length_le (by rw [wts_len];omega)]
  have cP:=Product_ok (wts l) X (by rw [wts_len];omega)
  (repeat' (conv=>whnf);first|refine aC ?_ ?_<;>intro _|refine z4_Y4 ?_|fail);all_goals try (conv=>whnf)
  refine .mk [.fz 1] ?_
  (repeat' (conv=>whnf);first|refine aC ?_ ?_<;>intro _|refine z3_Y4 ?_|(refine aK [] cP ?_)|fail);all_goals try (conv=>whnf)
  exact⟨rfl,Imp.refl _⟩
end
section
open Go.Sx Go.Fq Go.Np Go.Pv Go.Dt
structure PvS (n:Nt) (l:List Dm):Prop where
 chk:pchk n l=0
 k4:l.length≤4
 m4:n.ln.length≤4
 cap:∀x∈n.ln,x.c≤50
 dm:∀d∈l,d.hi≤50∧d.w≤10
theorem PvS.sml {n:Nt} {l:List Dm} (h:PvS n l):Sml (prg n l):=by
 obtain⟨h1,h2,h3,h4,h5⟩:=pchk_zero h.chk
 obtain⟨g1,g2,g3⟩:=chk_lines h1
 have k4:=h.k4
 have m4:=h.m4
 refine⟨by rw [prg_cl];exact h.k4,?_,fun f hf=>?_,fun w hw=>?_⟩
 ·unfold prg;simp only [List.length_append]
  have:=lrw_len (n:=n) (k:=l.length) (i:=n.ln.length)
  have:=drw_len (l:=l) (i:=l.length)
  omega
 ·obtain⟨d,hd,rfl⟩:=List.mem_map.1 hf
  have h6:=h5 d hd;unfold DmOK at h6
  have h7:=(h.dm d hd).2
  exact⟨rfl,by dsimp only;omega⟩
 ·rcases mem_prg.1 hw with⟨j,hj,_,rfl⟩|⟨j,hj,rfl|rfl⟩
  ·have a1:=g3 j hj
   have a2:=h.cap _ (Go.Np.getD_in (d:=ln0) hj)
   exact⟨crow_one,rfl,by dsimp only;omega⟩
  ·have a1:=dm_in h5 hj;unfold DmOK at a1
   have a2:=(h.dm _ (Go.Np.getD_in (d:=dm0) hj)).1
   exact⟨crow_one,rfl,by dsimp only;omega⟩
  ·have a1:=dm_in h5 hj;unfold DmOK at a1
   have a2:=(h.dm _ (Go.Np.getD_in (d:=dm0) hj)).1
   exact⟨crow_one,rfl,by dsimp only;omega⟩
theorem PvS.vp {n:Nt} {l:List Dm} (h:PvS n l):VP (prg n l):=prg_vp h.chk
theorem PvS.fits {n:Nt} {l:List Dm} (h:PvS n l):Fits (prg n l):=fits_of h.vp h.sml
theorem rk_alon {n:Nt} {l:List Dm} {x:Nat→Rat} {i:Nat} {s:Int} {b:F} (hi:i<l.length):rk (prg n l).c.length x (crow (alon i) l.length,s,b)↔(s=1→x i≤val b)∧(s=2→val b≤x i)∧(s=3→x i=val b):=by
 unfold rk
 rw [prg_cl,sm_alon hi]
theorem no_ray {n:Nt} {l:List Dm} {v:Rat}:¬RSol (prg n l) 2 v:=by
 intro h
 cases h with
 |@unb x r hx hr hn=>
  have z:∀i<l.length,r i=0:=fun i hi=>by
   have hm:(crow (alon i) l.length,(1:Int),((l.getD i dm0).hi,(1:Int)))∈(prg n l).r :=mem_prg.2 (.inr ⟨i,hi, .inr rfl⟩)
   obtain⟨a,ha,e⟩:=List.getElem_of_mem hm
   have eg:=gd_rw ha
   have h1:=hr.r1 a ha (by rw [eg,e])
   have h2:=hr.nn i (by rw [prg_cl];exact hi)
   rw [sm_congr (g:=fun j=>at' (crow (alon i) l.length) j*r j) (fun j _=>by rw [at_row ha,e]),prg_cl,sm_alon hi]at h1
   grind
  rw [sm_congr (g:=fun _=>0) (fun j hj=>by rw [z j (by rw [prg_cl]at hj;exact hj)];grind),sm_zero]at hn
  exact absurd hn (by decide)
inductive ShS (p:Pr):List F→Slt→Int→Prop
 |opt {X Y:List F} {v:F} (h:Opt p X Y) (hc:(prod p.c X).2.2 =0) (hv:((prod p.c X).1,(prod p.c X).2.1)=v) (hs:RSol p 1 (val v)):ShS p X (1,X,v,Y,[]) 0
 |inf {Y:List F} (h:Inf p Y) (hs:RSol p 3 0):ShS p [] (3,[],(0,1),Y,[]) 5
theorem ShP.small {n:Nt} {l:List Dm} {X:List F} {s:Slt} {e:Int} (h:ShP n l X s e) (S:PvS n l):ShS (prg n l) X s e:=by
 obtain⟨h1,h2⟩:=h.yes S.chk S.fits
 have hr:=h1.sol
 obtain⟨t,X',v,Y,Z⟩:=s
 dsimp only at h2 hr
 rcases solv_chk S.vp S.sml h1 with e|⟨a,b,c,d,f⟩|⟨a,b,c,d,f⟩
 ·dsimp only at e;rw [e]at hr;exact absurd hr.2 no_ray
 ·dsimp only at a b c d f
  rcases h2 with⟨_,e2,e3⟩|⟨k,_⟩
  ·subst a e2 e3 f;rw [←d]at hr⊢;exact .opt b c rfl hr.2
  ·exact absurd a k
 ·dsimp only at a b c d f
  rcases h2 with⟨k,_⟩|⟨_,e2,e3⟩
  ·omega
  ·subst a b c d e2 e3;rw [val_01]at hr;exact .inf f hr.2
def ngF (f:F):F:=(-f.1,f.2)
def ngR (r:R):R:=(-r.1,r.2.1,r.2.2)
theorem ng_vf {f:F}:VF (ngF f)↔VF f:=by
 unfold VF ngF;rw [Int.natAbs_neg]
 constructor<;>rintro⟨a,b,c,d,e⟩<;>exact⟨a,b,by omega,by omega,e⟩
theorem ng_val {f:F}:val (ngF f)= -val f:=by
 unfold val ngF;rw [Rat.neg_divInt]
theorem ng_enc {r:Rat}:fenc (-r)=ngR (fenc r):=by
 unfold fenc
 have:Sm (-r)↔Sm r:=by show(-r.num).natAbs ≤MT∧r.den≤MT↔Sm r;unfold Sm;rw [Int.natAbs_neg]
 by_cases h:Sm r
 ·rw [if_pos (this.2 h),if_pos h];rfl
 ·rw [if_neg (fun k=>h (this.1 k)),if_neg h];rfl
theorem ng_mul {a b:F}:fmul (ngF a) b=ngR (fmul a b):=by
 unfold fmul
 by_cases h:VF a∧VF b
 ·rw [if_pos ⟨ng_vf.2 h.1,h.2⟩,if_pos h,ng_val,Rat.neg_mul,ng_enc]
 ·rw [if_neg (fun k=>h ⟨ng_vf.1 k.1,k.2⟩),if_neg h];rfl
theorem ng_add {a b:F}:fadd (ngF a) (ngF b)=ngR (fadd a b):=by
 unfold fadd
 by_cases h:VF a∧VF b
 ·rw [if_pos ⟨ng_vf.2 h.1,ng_vf.2 h.2⟩,if_pos h,ng_val,ng_val,←Rat.neg_add,ng_enc]
 ·rw [if_neg (fun k=>h ⟨ng_vf.1 k.1,ng_vf.1 k.2⟩),if_neg h];rfl
theorem ng_pgo:∀{a b:List F} {s:F},pgo (a.map ngF) b (ngF s)=ngR (pgo a b s)
 |[],[],s=>rfl
 |[],_::_,s=>rfl
 |_::_,[],s=>rfl
 |x::xs,y::ys,s=>by
  simp only [List.map_cons,pgo]
  rw [ng_mul]
  show(if(ngR (fmul x y)).2.2 =0 then if(fadd (ngF s) (ngF ((fmul x y).1,(fmul x y).2.1))).2.2 =0 then pgo (xs.map ngF) ys ((fadd (ngF s) (ngF ((fmul x y).1,(fmul x y).2.1))).1,(fadd (ngF s) (ngF ((fmul x y).1,(fmul x y).2.1))).2.1)else _ else _)=_
  rw [ng_add]
  by_cases h1:(fmul x y).2.2 =0
  ·rw [if_pos (show(ngR (fmul x y)).2.2 =0 from h1),if_pos h1]
   generalize fadd s ((fmul x y).1,(fmul x y).2.1)=z
   by_cases h2:z.2.2=0
   ·rw [if_pos (show(ngR z).2.2 =0 from h2),if_pos h2]
    exact ng_pgo (s:=(z.1,z.2.1))
   ·rw [if_neg (show¬(ngR z).2.2 =0 from h2),if_neg h2];rfl
  ·rw [if_neg (show¬(ngR (fmul x y)).2.2 =0 from h1),if_neg h1];rfl
theorem ng_prod {a b:List F}:prod (a.map ngF) b=ngR (prod a b):=by
 unfold prod
 rw [List.length_map]
 split
 ·exact ng_pgo (s:=(0,1))
 ·rfl
theorem dcs_ng {l:List Dm}:dcs l=(wts l).map ngF:=by
 unfold dcs wts;rw [List.map_map];rfl
theorem worth_c {n:Nt} {l:List Dm} {X:List F}:prod (prg n l).c X=ngR (prod (wts l) X):=by
 show prod (dcs l) X=_
 rw [dcs_ng,ng_prod]
end
end Go.Proofs.YtbcjojomkibgeaaGreat
