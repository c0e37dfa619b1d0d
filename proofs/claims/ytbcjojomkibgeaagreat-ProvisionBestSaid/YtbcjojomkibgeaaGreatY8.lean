/- Lemmas of this seat. Conditions: as stated. -/
import Derived.Test.YtbcjojomkibgeaaGreatKn2
import Derived.Test.YtbcjojomkibgeaaGreatSxC
set_option linter.unusedVariables false
set_option linter.unusedSimpArgs false
set_option maxHeartbeats 2000000
set_option maxRecDepth 4000
namespace Go.Proofs.YtbcjojomkibgeaaGreat
section
open Go.Sx Go.Fq Go.Np Go.Pv
theorem shared_ok:Ctr Tryz.prog 27 [] [] (fun r o=>o=[]∧r=ntv shN):=by
 refine Ctr.imp ?_
 refine fI 0 Tryz.func27 ?_
 have cS:=Stair_ok 4 1 0 (by decide)
 rw [show stv 4 1=[0,4]from rfl]at cS
 (repeat' (conv=>whnf);first|refine LitOb.ful ?_|refine aC ?_ ?_<;>intro _|refine z1_F1 ?_|(refine aK [] cS ?_)|fail);all_goals try (conv=>whnf)
 have h0:ImpL [i64 1,i64 10,i64 1, .nil, .nil] (lnv ⟨1,10,1,[],[]⟩):=⟨Imp.refl _,Imp.refl _,Imp.refl _,Imp.nil _,Imp.nil _,trivial⟩
 have h1:∀i,ImpL [.str (fname i), .ful 1 [[i64 0]],i64 0,i64 1,i64 1, .psl 1 (ints [0,4]),i64 1,i64 0] (flv (shF i)):=fun i=>⟨Imp.refl _,Imp.fulp rfl,Imp.refl _,Imp.refl _,Imp.refl _,Imp.refl _,Imp.refl _,Imp.refl _,trivial⟩
 exact⟨rfl,Imp.agg ⟨Imp.fulp rfl,Imp.fulr ⟨h0,trivial⟩,Imp.fulr ⟨h1 0,h1 1,trivial⟩,trivial⟩⟩
theorem sh_nl:NL shN:=by
 refine⟨by decide,by decide,by decide,fun s hs=>?_,fun l hl=>?_,fun f hf=>?_⟩
 ·rw [List.mem_singleton.1 hs];decide
 ·rw [List.mem_singleton.1 hl];decide
 ·have:f=shF 0∨f=shF 1:=by simpa [shN]using hf
  rcases this with e|e<;>subst e<;>decide
theorem ShS.lens {p:Pr} {X:List F} {s:Slt} {e:Int} (h:ShS p X s e):X.length≤24∧s.2.1.length≤24∧s.2.2.2.1.length≤24∧s.2.2.2.2.length≤24:=by
 cases h with
 |opt h hc hv hs=>
  have a1:=h.1.2.1
  have a2:=h.1.1.2.1
  have a3:=(bound_ok h.2.1).2.1.2.1
  have a4:=h.1.1.2.2.1
  exact⟨by omega,by dsimp only;omega,by dsimp only;omega,by simp⟩
 |inf h hs=>
  have a3:=h.1.2.1
  have a4:=h.1.1.2.2.1
  exact⟨by simp,by simp,by dsimp only;omega,by simp⟩
theorem sane34_ok:Ctr Tryz.prog 6 [] [] (fun r o=>o=[]∧r= .bl true):=by
 refine Ctr.imp ?_
 refine fI 0 Tryz.func6 ?_
 have hl:shL.length≤9223372036854775807:=by decide
 have cN:=shared_ok
 have cS:=pShare_ok shN sh_nl shL hl
 have cP:=pProg_ok shN sh_nl shL hl
 have cC:=pCheck_ok shN sh_nl shL hl
 have hE:prgE shN shL=prg shN shL:=by unfold prgE;rw [if_pos sh_s.chk]
 rw [hE,sh_s.chk]at cP
 rw [sh_s.chk]at cC
 (repeat' (conv=>whnf);first|refine LitOb.ful ?_|refine aC ?_ ?_<;>intro<;>try omega|refine z1_F1 ?_|fail);all_goals try (conv=>whnf)
 refine aK [] cN ?_
 (repeat' (conv=>whnf);first|refine aC ?_ ?_<;>intro<;>try omega|refine z1_F1 ?_|fail);all_goals try (conv=>whnf)
 refine CallOb.mk [] cS rfl ⟨Imp.refl _,Imp.fulp rfl,trivial⟩ rfl rfl ?_
 rintro _ _ ⟨⟨X,s,e⟩,hS,rfl,rfl⟩
 have hS:=ShP.small hS sh_s
 dsimp only at hS⊢
 have hln:=hS.lens
 have hchk:=hS.chk
 have cK:=pKeeps_ok shN sh_nl shL hl X (by omega)
 rw [hE,sh_s.chk]at cK
 cases hS with
 |inf h hs=>exact absurd hs sh_no
 |@opt X Y v h hc hv hs=>
  have hf:=h.1
  have hp:=VP.pl sh_s.vp
  have k4:=(prod_ok' hc).2.2.2.1
  rw [hv]at k4
  have hw:=(ShS.opt h hc hv hs).worth
  have e2:=sh_v k4 hs
  subst e2
  have cW:=pWorth_ok shL (by decide) X
  rw [hw.1]at cW
  have cD:=Check_ok (prg shN shL) hp 1 X (-18) 1 Y [] (by have:=hln.1;omega) (by have:=hln.2.2.1;dsimp only at this;omega) (by simp)
  have hr:=sh_len
  have hrw:=rw_len (prg shN shL).r
  generalize prg shN shL=p at*
  generalize Chk p (1,X,(-18,1),Y,[])=c at*
  generalize Feas p X=f at*
  clear hs hw hc hv h hln cS
  (repeat' (conv=>whnf);first|refine aC ?_ ?_<;>intro<;>try omega|refine z1_F1 ?_|(refine CallOb.mk [] cW rfl ⟨Imp.fulp rfl,Imp.refl _,trivial⟩ rfl rfl ?_;rintro _ _ ⟨rfl,rfl⟩)|(refine aK [] cN ?_)|(refine CallOb.mk [] cP rfl ⟨Imp.refl _,Imp.fulp rfl,trivial⟩ rfl rfl ?_;rintro _ _ ⟨rfl,rfl⟩)|(refine aK [] cD ?_)|(refine CallOb.mk [] cK rfl ⟨Imp.refl _,Imp.fulp rfl,Imp.refl _,trivial⟩ rfl rfl ?_;rintro _ _ ⟨rfl,rfl⟩)|(refine CallOb.mk [] cC rfl ⟨Imp.refl _,Imp.fulp rfl,trivial⟩ rfl rfl ?_;rintro _ _ ⟨rfl,rfl⟩)|fail);all_goals try (conv=>whnf)
  all_goals first
   |exact⟨rfl,Imp.bpl ⟨fun _=>rfl,fun _=>rfl⟩⟩
   |exact absurd hchk (by assumption)
   |exact absurd (And.intro (rfl:(0:Int)=0) hf) (by assumption)
   |exact absurd rfl (by assumption)
   |exact absurd (by rw [hrw,hr];rfl) (by assumption)
   |(exfalso;refine absurd (?_:conj _) (by assumption);simp [conj];done)
end
section
open Go.Sx Go.Fq Go.Np Go.Pv
theorem pchk_nil {n:Nt} {l:List Dm} (h1:chkN n=0) (h2:n.fl.length≤6) (h3:l.length=0):pchk n l=2:=by
 unfold pchk;rw [if_neg (by omega),if_neg (by omega),if_pos (by omega)]
theorem aP_Y10 {A B K:Prop} (k:K) (a:A:=by(simp only [zA,zT,zD,zC,zN,ints_len,zR,dml_len,lnl];omega)) (b:B:=by(simp only [zA,zT,zD,zC,zN,ints_len,zR,dml_len,lnl];omega)):(A∧B)∧K:=⟨⟨a,b⟩,k⟩
theorem z2_Y10 {G H:Prop} (k:H) (h:H→G:=by first|exact fun r=>aS r|exact fun r=>aG r|exact fun r=>aD r|exact fun r=>aP_Y10 r|exact fun r=>aI r|exact fun r=>aJ r):G:=h k
theorem z1_Y10 {G H:Prop} (k:H) (h:H→G:=by first|exact fun r=>aS r|exact fun r=>aG r|exact fun r=>aD r|exact fun r=>aH r|exact fun r=>aP_Y10 r|exact fun r=>aI r|exact fun r=>aJ r):G:=h k
theorem Best_ok (t:List Int) (ht:t.length≤9223372036854775807):Ctr Tryz.prog 4 [.psl 1 (ints t)] [] (fun r o=>r= .bl true):=by
 refine fI 0 Tryz.func4 ?_
 have hL:(t.take 2000).length ≤2000:=by rw [List.length_take];omega
 (repeat' (conv=>whnf);first|refine aC ?_ ?_<;>intro<;>try omega|refine z1_Y10 ?_|(refine aK [] (sane34_ok) ?_)|(refine aK [] (New_ok t ht) ?_)|fail);all_goals try (conv=>whnf)
 ·rfl
 refine aM [0] (Net_ok _ 0 hL (by omega) 3 4 (by omega) (by omega)) rfl rfl ?_
 rintro _ _ ⟨⟨n,q,k1⟩,⟨hG,hk1⟩,rfl,rfl⟩
 dsimp only at hG hk1⊢
 have hn:=hG.nl
 have hmf:=hG.mf
 have hml:=hG.ml
 have hfl:=fll n.fl
 (repeat' (conv=>whnf);first|refine aC ?_ ?_<;>intro<;>try omega|refine z1_Y10 ?_|fail);all_goals try (conv=>whnf)
 refine aM [0] (Demands_ok _ k1 hL hk1 n (by omega)) rfl rfl ?_
 rintro _ _ ⟨⟨l,k2⟩,⟨hll,hd,hk2⟩,rfl,rfl⟩
 dsimp only at hll hd hk2⊢
 have hdl:=dml_len l
 (repeat' (conv=>whnf);first|refine aC ?_ ?_<;>intro _|refine z2_Y10 ?_|fail);all_goals try (conv=>whnf)
 refine .mk [.fz 2] ?_
 have c1:=pShare_ok n hn l (by omega)
 (repeat' (conv=>whnf);first|refine aC ?_ ?_<;>intro<;>try omega|refine z1_Y10 ?_|fail);all_goals try (conv=>whnf)
 refine aM [] c1 rfl rfl ?_
 rintro _ _ ⟨⟨X,s,e⟩,hP,rfl,rfl⟩
 dsimp only at hP⊢
 have h0:n.fl.length=0→e=2:=fun h=>by
  have:=pchk_nil (l:=l) hG.g.chk (by omega) (by omega)
  rw [hP.no (by omega),this]
 (repeat' (conv=>whnf);first|refine aC ?_ ?_<;>intro<;>try omega|refine z1_Y10 ?_|(refine aK [] (sane34_ok) ?_)|fail);all_goals try (conv=>whnf)
 ·rfl
 have hdo:∀d∈l,DmOK d:=fun d h=>by have:=hd d h;unfold DmG at this;unfold DmOK;omega
 have hds:∀d∈l,d.hi≤50∧d.w≤10:=fun d h=>by have:=hd d h;unfold DmG at this;omega
 have hc24:∀x∈n.ln,x.c≤24:=fun x hx=>(hG.lg x hx).p.c4
 have SN:PvS n l:=⟨pchk_of hG.g.chk (by omega) (by omega) (by omega) hdo,by omega,by omega,fun x hx=>by have:=hc24 x hx;omega,hds⟩
 have hS:=hP.small SN
 have hE:prgE n l=prg n l:=by unfold prgE;rw [if_pos SN.chk]
 have cP:=pProg_ok n hn l (by omega)
 have hln:=hS.lens
 have hchk:=hS.chk
 have hp:=VP.pl SN.vp
 have cK:=fun y hy=>pKeeps_ok n hn l (by omega) y hy
 have cW:=fun y=>pWorth_ok l (by omega) y
 rw [hE,SN.chk]at cP
 rw [hE,SN.chk]at cK
 clear c1 hP h0 hdo hds hc24
 cases hS with
 |@opt X Y v h hc hv hs=>
  have cD:=rCheck_ok (prg n l) hp 1 X v.1 v.2 Y [] (by omega) (by have:=hln.2.2.1;dsimp only at this;omega) (by simp)
  have hw:=(ShS.opt h hc hv hs).worth
  have hf:=h.1
  have cX:=cK X (by omega)
  have cWX:=cW X
  rw [hw.1]at cWX
  have hbest:∀y,Feas (prg n l) y→(prod (wts l) y).2.2 =0→fcmp ((prod (wts l) y).1,(prod (wts l) y).2.1) (-v.1,v.2)≤0:=fun y=>best_pt hw.2.2.2.1 hs
  have hvb:=hw.2.2.2.1
  clear h hc hv hs hw hln
  obtain⟨v1,v2⟩:=v
  generalize prg n l=p at*
  generalize Chk p (1,X,(v1,v2),Y,[])=ch at*
  dsimp only at cD cWX hbest hvb⊢
  obtain⟨_,_,vb1,vb2,_⟩:=hvb
  dsimp only at vb1 vb2
  (repeat' (conv=>whnf);first|refine aC ?_ ?_<;>intro<;>try omega|refine z1_Y10 ?_|fail);all_goals try (conv=>whnf)
  refine aK [] cP ?_
  (repeat' (conv=>whnf);first|refine aC ?_ ?_<;>intro<;>try omega|refine z1_Y10 ?_|(refine aK [] cD ?_)|(refine aK [] cWX ?_)|(refine aK [] cX ?_)|fail);all_goals try (conv=>whnf)
  ·exact absurd hchk (by assumption)
  ·exact absurd rfl (by assumption)
  ·exact absurd (And.intro rfl hf) (by assumption)
  ·exfalso;refine absurd (?_:conj _) (by assumption);simp [conj]
  refine LoopOb.mk (Y:=Nat×Nat) (st:=fun y=>⟨[(13,i64 y.1),(11, .ptr 2 0),(8,i64 0),(5,dml l),(4, .ptr 1 0),(3, .ptr 0 0)],[src (t.take 2000) y.2, .box [.psl 1 (strs n.nm), .psl 5 (lns n.ln), .psl 8 (fls n.fl)], .box [i64 (-v1),i64 v2]]⟩)
   (inv:=fun y=>y.1≤12∧y.2≤2000) (fun y=>12-y.1) (0,k2) [0,1,5] ⟨by simp,hk2⟩ (by(exact aL)) ?_
  rintro⟨k,k3⟩ ⟨hk,hk3⟩
  dsimp only at hk hk3⊢
  clear hf cWX cX cD cP
  (repeat' (conv=>whnf);first|refine z1_Y10 ?_|fail);all_goals try (conv=>whnf)
  refine CondOb.mk (fun hlt=>?_) (fun hlt=>?_)
  ·(repeat' (conv=>whnf);first|refine aC ?_ ?_<;>intro<;>try omega|refine z1_Y10 ?_|fail);all_goals try (conv=>whnf)
   refine CallOb.mk [0] (Point_ok _ k3 hL hk3 l.length (by omega)) rfl ⟨Imp.refl _,Imp.num (by rw [hdl]),trivial⟩ rfl rfl ?_
   rintro _ _ ⟨⟨y,k4⟩,⟨hyl,hyv,hk4⟩,rfl,rfl⟩
   dsimp only at hyl hyv hk4⊢
   have cY:=cK y (by omega)
   have cV:=cW y
   have hby:=hbest y
   have cC:=rCompare_ok (prod (wts l) y).1 (prod (wts l) y).2.1 (-v1) v2
   generalize prod (wts l) y=w at*
   generalize fcmp (w.1,w.2.1) (-v1,v2)=z at*
   generalize Feas p y=f at*
   (repeat' (conv=>whnf);first|refine aC ?_ ?_<;>intro<;>try omega|refine z1_Y10 ?_|(refine aK [] cY ?_)|(refine aK [] cV ?_)|(refine aK [] cC ?_)|fail);all_goals try (conv=>whnf)
   all_goals first
    |exact⟨(k+1,k4),[0,1,2],⟨by dsimp only;omega,hk4⟩,by dsimp only;omega,by(exact aL)⟩
    |(exfalso;have:=hby (Classical.not_not.1 ‹¬¬((0:Int)=0∧f)›).2 (by assumption);omega)
  ·(repeat' (conv=>whnf);first|refine aC ?_ ?_<;>intro _|refine z1_Y10 ?_|(refine aK [] (sane34_ok) ?_)|fail);all_goals try (conv=>whnf)
   rfl
 |@inf Y h hs=>
  have cD:=rCheck_ok (prg n l) hp 3 [] 0 1 Y [] (by simp) (by have:=hln.2.2.1;dsimp only at this;omega) (by simp)
  have cX:=cK [] (by simp)
  have hw:prod (wts l) []=(0,0,2):=by unfold prod;rw [if_neg];rw [wts_len,List.length_nil];omega
  have cWX:=cW []
  rw [hw]at cWX
  have hbest:∀y,¬Feas (prg n l) y:=fun y=>inf_pt hs
  clear h hs hw hln
  generalize prg n l=p at*
  generalize Chk p (3,[],(0,1),Y,[])=ch at*
  dsimp only at cD cWX hbest⊢
  (repeat' (conv=>whnf);first|refine aC ?_ ?_<;>intro<;>try omega|refine z1_Y10 ?_|fail);all_goals try (conv=>whnf)
  refine aK [] cP ?_
  (repeat' (conv=>whnf);first|refine aC ?_ ?_<;>intro<;>try omega|refine z1_Y10 ?_|(refine aK [] cD ?_)|(refine aK [] cWX ?_)|(refine aK [] cX ?_)|fail);all_goals try (conv=>whnf)
  ·exact absurd hchk (by assumption)
  refine LoopOb.mk (Y:=Nat×Nat) (st:=fun y=>⟨[(13,i64 y.1),(11, .ptr 2 0),(8,i64 5),(5,dml l),(4, .ptr 1 0),(3, .ptr 0 0)],[src (t.take 2000) y.2, .box [.psl 1 (strs n.nm), .psl 5 (lns n.ln), .psl 8 (fls n.fl)], .box [i64 0,i64 0]]⟩)
   (inv:=fun y=>y.1≤12∧y.2≤2000) (fun y=>12-y.1) (0,k2) [0,1,5] ⟨by simp,hk2⟩ (by(exact aL)) ?_
  rintro⟨k,k3⟩ ⟨hk,hk3⟩
  dsimp only at hk hk3⊢
  clear cWX cX cD cP
  (repeat' (conv=>whnf);first|refine z1_Y10 ?_|fail);all_goals try (conv=>whnf)
  refine CondOb.mk (fun hlt=>?_) (fun hlt=>?_)
  ·(repeat' (conv=>whnf);first|refine aC ?_ ?_<;>intro<;>try omega|refine z1_Y10 ?_|fail);all_goals try (conv=>whnf)
   refine CallOb.mk [0] (Point_ok _ k3 hL hk3 l.length (by omega)) rfl ⟨Imp.refl _,Imp.num (by rw [hdl]),trivial⟩ rfl rfl ?_
   rintro _ _ ⟨⟨y,k4⟩,⟨hyl,hyv,hk4⟩,rfl,rfl⟩
   dsimp only at hyl hyv hk4⊢
   have cY:=cK y (by omega)
   have hby:=hbest y
   generalize Feas p y=f at*
   (repeat' (conv=>whnf);first|refine aC ?_ ?_<;>intro<;>try omega|refine z1_Y10 ?_|fail);all_goals try (conv=>whnf)
   refine aK [] cY ?_
   (repeat' (conv=>whnf);first|refine z1_Y10 ?_|fail);all_goals try (conv=>whnf)
   refine CondOb.mk (fun hf=>?_) (fun hf=>absurd (Classical.not_not.1 hf).2 hby)
   (repeat' (conv=>whnf);first|refine aC ?_ ?_<;>intro<;>try omega|refine z1_Y10 ?_|fail);all_goals try (conv=>whnf)
   exact⟨(k+1,k4),[0,1,2],⟨by dsimp only;omega,hk4⟩,by dsimp only;omega,by(exact aL)⟩
  ·(repeat' (conv=>whnf);first|refine aC ?_ ?_<;>intro _|refine z1_Y10 ?_|(refine aK [] (sane34_ok) ?_)|fail);all_goals try (conv=>whnf)
   rfl
end
end Go.Proofs.YtbcjojomkibgeaaGreat
