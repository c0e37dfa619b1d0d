/- Lemmas of this seat. Conditions: as stated. -/
import Derived.Test.YtaomhdljcdadaaaGreatB13
import Derived.Test.YtaomhdljcdadaaaGreatX1
import Derived.Test.YtaomhdljcdadaaaGreatO5
import Derived.Test.YtaomhdljcdadaaaGreatCn5
import Derived.Test.YtaomhdljcdadaaaGreatNd
import Derived.Test.YtaomhdljcdadaaaGreatMn
set_option linter.unusedVariables false
set_option linter.unusedSimpArgs false
set_option maxHeartbeats 2000000
set_option maxRecDepth 4000
namespace Go.Proofs.YtaomhdljcdadaaaGreat
section
open Go.Sx Go.Np Go.Cv Go.Tp
theorem lAt_ok (n:Nt) (hn:NL n) (d:List (List Int)) (hd:DL d) (f h:Int):Ctr Tryz.prog 75 [ntv n, .psl 1 (dls d),i64 f,i64 h] [] (fun r o=>∃x,AtP n d f h x∧o=[]∧r=crvE x):=by
 refine Ctr.impE ?_
 refine fI 0 Tryz.func75 ?_
 have hz:∀e:Int,crvE ([],0,0,e)= .tup [crv [] 0 0,i64 e]:=fun _=>rfl
 by_cases hA:ShapeP n d∧HopP n f h
 ·obtain⟨hs,hP⟩:=hA
  have hP':=hP
  obtain⟨h1,h2,h3,h4⟩:=hP'
  obtain⟨i,rfl⟩:=Int.eq_ofNat_of_zero_le h1
  obtain⟨k,rfl⟩:=Int.eq_ofNat_of_zero_le h3
  have hx:∀x,AtP n d i k x↔((bef d (n.fl.getD i fl0) k=none∧x=([],0,0,5))∨∃s,bef d (n.fl.getD i fl0) k=some s∧MkP (ahd (ctc (n.fl.getD i fl0)) s) x):=fun x=>by
   unfold AtP;rw [Int.toNat_natCast,Int.toNat_natCast]
   constructor
   ·rintro(⟨a,_⟩|⟨_,a,_⟩|⟨_,_,a⟩)
    ·exact absurd hs a
    ·exact absurd hP a
    ·exact a
   ·exact fun a=> .inr (.inr ⟨hs,hP,a⟩)
  rw [Int.toNat_natCast]at h4
  have hil:i<n.fl.length:=by omega
  have cB:=bf_ok n hn d hd hs i k (by omega) (by omega)
  have hg:=flg hil
  obtain⟨hv,hfi,hp,_⟩:=chk_ct hs.c i hil
  have hle:=fun s=>bef_le hs (chk_fl hs.c i hil) (i:=k) (s:=s) (by omega)
  have hr4:=(chk_fl hs.c i hil).l2
  generalize n.fl.getD i fl0=g at*
  obtain⟨p,hpe⟩:=Int.eq_ofNat_of_zero_le (show 0≤g.p by omega)
  cases hbe:bef d g k with
  |none=>
   rw [hbe]at cB
   dsimp only [befR]at cB
   (repeat' (conv=>whnf);first|refine aC ?_ ?_<;>intro<;>try omega|refine z2_T1 ?_|(refine aK [] (Shape_ok n hn d hd) ?_)|(refine aK [] (hopOf_ok n hn i k) ?_)|(refine aK [] (cB) ?_)|fail);all_goals try (conv=>whnf)
   all_goals first
    |exact⟨([],0,0,5),(hx _).2 (.inl ⟨hbe,rfl⟩),rfl,Imp.tup ⟨imp_zero,Imp.refl _,trivial⟩⟩
    |(exfalso;first|contradiction|exact absurd hs (by assumption)|exact absurd hP (by assumption))
    |trace_state
  |some s=>
   rw [hbe]at cB
   dsimp only [befR]at cB
   have hs2:=hle s hbe
   have cA:Ctr Tryz.prog 106 [crv g.v g.p g.q,i64 s] [] (fun r o=>∃x1 x2 x3 x4,MkP (ahd (ctc g) s) (x1,x2,x3,x4)∧o=[]∧r= .tup [crv x1 x2 x3,i64 x4]):=by
    have:=Ahead_ok (ctc g) hv hfi s (by omega)
    rw [show(((ctc g).2.1 :Nat):Int)=g.p by show((g.p.toNat:Nat):Int)=g.p;omega]at this
    exact this.mono (fun r o ⟨⟨x1,x2,x3,x4⟩,a,b,c⟩=>⟨x1,x2,x3,x4,a,b,c⟩)
   (repeat' (conv=>whnf);first|refine⟨i,_,rfl,hg,?_⟩|refine aC ?_ ?_<;>intro<;>try omega|refine z2_T1 ?_|(refine aM [] cA rfl rfl ?_;rintro _ _ ⟨x1,x2,x3,x4,hmk,rfl,rfl⟩)|(refine aK [] (Shape_ok n hn d hd) ?_)|(refine aK [] (hopOf_ok n hn i k) ?_)|(refine aK [] (cB) ?_)|fail);all_goals try (conv=>whnf)
   all_goals first
    |exact⟨(x1,x2,x3,x4),(hx _).2 (.inr ⟨s,hbe,hmk⟩),rfl,Imp.refl _⟩
    |(exfalso;first|contradiction|exact absurd hs (by assumption)|exact absurd hP (by assumption))
    |trace_state
 ·(repeat' (conv=>whnf);first|refine aC ?_ ?_<;>intro<;>try omega|refine z2_T1 ?_|(refine aK [] (Shape_ok n hn d hd) ?_)|(refine aK [] (hopOf_ok n hn f h) ?_)|(exfalso;exact hA ⟨Classical.not_not.1 (by assumption),Classical.not_not.1 (by assumption)⟩)|fail);all_goals try (conv=>whnf)
  all_goals first
   |exact⟨([],0,0,6), .inl ⟨by assumption,rfl⟩,rfl,Imp.tup ⟨imp_zero,Imp.refl _,trivial⟩⟩
   |exact⟨([],0,0,2), .inr (.inl ⟨Classical.not_not.1 (by assumption),by assumption,rfl⟩),rfl,Imp.tup ⟨imp_zero,Imp.refl _,trivial⟩⟩
   |(exfalso;simp_all;done)
   |trace_state
end
section
open Go.Sx Go.Cv
abbrev NmC (f a:C3):Prop:=VC a∧(∀t,cv a t=cv f t)∧(FinC f→FinC a)∧NF (cv f) a.1 a.2.1 a.2.2
end
section
open Go.Sx Go.Cv
abbrev E4:=List Int×Int×Int×Int
end
section
open Go.Sx Go.Cv
theorem nmC_of {f a:C3} (hf:VC f) (h5:NF (cv f) a.1 a.2.1 a.2.2):NmC f a:=by
 obtain⟨g1,g2⟩:=h5.vf hf
 refine⟨g1,g2,fun ff=>?_,h5⟩
 intro hi
 have h6:=VF.val_inf g1 hi hi (t:=a.1.length-1) (Nat.le_refl _)
 have h7:=cv_small hf (t:=a.1.length-1) (by have:=g1.n2;omega) (ff.not hf _)
 have h8:=g2 (a.1.length-1)
 unfold cv at h7
 rw [h6]at h8
 simp only [INF]at h8
 omega
theorem rNormN (f:C3) (hf:VC f):Ctr Tryz.prog 142 [crv f.1 f.2.1 f.2.2] [] (fun r o=>∃a:C3,NmC f a∧o=[]∧r= .tup [crv a.1 a.2.1 a.2.2,i64 0]):=
 (Normal_ok f.1 f.2.1 f.2.2).mono (fun r o ⟨x,h1,h2,h3⟩=>by
  obtain⟨x1,x2,x3,x4⟩:=x
  rcases h1 with⟨he,p0,p1,e0,e1,h4,h5⟩|⟨h,_⟩
  ·dsimp only at he e1 h5 h3
   subst he e1
   have e2:p0=f.2.1:=by omega
   subst e2
   exact⟨(x1,p1,x3),nmC_of hf h5,h2,h3⟩
  ·exact absurd hf.valid h)
theorem z2_Y2 {G H:Prop} (k:H) (h:H→G:=by first|exact fun r=>aS r|exact fun r=>aG r|exact fun r=>aD r|exact fun r=>aP_T1 r|exact fun r=>aI r|exact fun r=>aJ r|exact fun r=>aW (.qs [0,1,2,3,4,5] (.l 6 [1] (.l 7 [1] (.l 8 [] (.qs [9] (.l 10 [] .nil .no)) .no) .no) .no)) r):G:=h k
theorem z1_Y2 {G H:Prop} (k:H) (h:H→G:=by first|exact fun r=>aS r|exact fun r=>aG r|exact fun r=>aD r|exact fun r=>aH r|exact fun r=>aP_T1 r|exact fun r=>aI r|exact fun r=>aJ r|exact fun r=>aW (.qs [0,1,2,3,4,5] (.l 6 [1] (.l 7 [1] (.l 8 [] (.qs [9] (.l 10 [] .nil .no)) .no) .no) .no)) r):G:=h k
theorem rAhead_ok (f:C3) (hf:VC f) (ff:FinC f) (d:Nat) (hd:d≤100000):Ctr Tryz.prog 109 [crv f.1 f.2.1 f.2.2,i64 d] [] (fun r o=>∃x,MkP (ahd f d) x∧o=[]∧r=crvE x):=by
 refine Ctr.impE ?_
 refine fI 0 Tryz.func109 ?_
 (repeat' (conv=>whnf);first|refine aC ?_ ?_<;>intro<;>try omega|refine z1_Y2 ?_|fail);all_goals try (conv=>whnf)
 refine aM [] (rNormN f hf) rfl rfl ?_
 rintro _ _ ⟨a,hn,rfl,rfl⟩
 have ha:=hn.1
 have fa:=hn.2.2.1 ff
 have n1:=ha.n1
 have n2:=ha.n2
 have p1:=ha.p1
 have p2:=ha.p2
 have pn:=ha.pn
 have q0:=ha.q0
 have q1:=ha.q1
 have hil:=ints_len a.1
 have hmk:∀x,MkP (ahd a d) x→MkP (ahd f d) x:=fun x h=>by rw [ahd_congr hn.2.1]at h;exact h
 have hbd:∀t,t≤1000→0≤ahd a d t∧ahd a d t≤INF:=fun t ht=>by
  have:=ahd_bd ha fa (d:=d) (t:=t) (by omega)
  simp only [INF];omega
 have hni:∀t,t≤1000→ahd a d t≠INF:=fun t ht=>by
  have:=ahd_bd ha fa (d:=d) (t:=t) (by omega)
  simp only [INF];omega
 (repeat' (conv=>whnf);first|refine aC ?_ ?_<;>intro<;>try omega|refine z2_Y2 ?_|fail);all_goals try (conv=>whnf)
 refine .mk [] ?_
 have hv1:([[i64 0]]:List (List SV))=ints (vals (ahd a d) 1):=by simp [vals,ahd,ints]
 rw [hv1]
 refine LoopOb.mk (Y:=Nat) (st:=fun t=>⟨[(9,i64 t),(8, .ptr 4 0),(6, .ptr 2 0),(1,i64 d),(4, .ptr 1 0)],[.box [.psl 1 (ints f.1),i64 f.2.1,i64 f.2.2], .box [.nil,i64 0,i64 0], .box [.psl 1 (ints a.1),i64 a.2.1,i64 a.2.2], .vec 1 (ints (vals (ahd a d) t)), .box [.vec 3,i64 a.2.1,i64 a.2.2]]⟩)
  (inv:=fun t=>1≤t∧t≤a.1.length+a.2.1+1) (fun t=>a.1.length+a.2.1+1-t) 1 [0,1,2,3,4] ⟨by omega,by omega⟩ (by(exact aL)) ?_
 rintro t ⟨ht1,ht⟩
 (repeat' (conv=>whnf);first|refine aC ?_ ?_<;>intro<;>try omega|refine z2_Y2 ?_|fail);all_goals try (conv=>whnf)
 ·refine .mk [] ?_
  refine aK [] (show Ctr Tryz.prog 143 [crv a.1 a.2.1 a.2.2,i64 ((t:Int)+d)] [] (fun r o=>o=[]∧r=i64 (ahd a d t))from by
   have:=rAt_ok a (t+d) ha (by omega)
   rw [Int.natCast_add]at this
   unfold ahd;rw [if_neg (by omega)];exact this) ?_
  (repeat' (conv=>whnf);first|refine aC ?_ ?_<;>intro<;>try omega|refine z1_Y2 ?_|fail);all_goals try (conv=>whnf)
  refine⟨t+1,[0,1,2,6,4],⟨by omega,by omega⟩,by omega,?_⟩
  refine Le.mk (by kernel_rfl) ?_ ?_<;>repeat' (first|exact True.intro|refine And.intro ?_ ?_|exact Imp.refl _|exact Imp.any _|exact Imp.num (by omega)|exact rfl|simp [ints,vals_succ])
 ·have htN:t=a.1.length+a.2.1+1:=by omega
  subst htN
  refine .mk [.fz 3] ?_
  refine aM [] (Made_ok (vals (ahd a d) (a.1.length+a.2.1+1)) a.2.1 a.2.2 (bd_vals (fun t ht=>hbd t (by omega)) p1 (by omega) (by omega) q0 (by omega))) rfl rfl ?_
  rintro _ _ ⟨⟨x1,x2,x3,x4⟩,hx,rfl,rfl⟩
  (repeat' (conv=>whnf);first|refine aC ?_ ?_<;>intro<;>try omega|refine z1_Y2 ?_|fail);all_goals try (conv=>whnf)
  refine⟨(x1,x2,x3,x4),hmk _ (madeP_mk p1 (by rw [vals_len];omega) (fun t ht=>?_) (fun m hm h=>?_) (fun h=>?_) hx),rfl,Imp.refl _⟩
  ·rw [vals_len]at ht;rw [vals_get ht]
  ·rw [vals_len]at hm;exact absurd h (hni m (by omega))
  ·rw [vals_len,show a.1.length+a.2.1+1-a.2.1=a.1.length+1 by omega]
   exact ahd_per ha d (a.1.length+1) (by omega) (by omega)
end
section
open Go.Sx Go.Np Go.Cv Go.Tp
theorem rBefore_ok (n:Nt) (hn:NL n) (d:List (List Int)) (hd:DL d) (f h:Int):Ctr Tryz.prog 108 [ntv n, .psl 1 (dls d),i64 f,i64 h] [] (fun r o=>o=[]∧r=befR (befP n d f h)):=by
 refine fI 0 Tryz.func108 ?_
 have cS:=rShape_ok n hn d hd
 have hfl:=fll n.fl
 have hdl:=dls_len d
 have hd1:=hd.l
 by_cases hA:ShapeP n d∧HopP n f h
 ·have hB:=befP_t hA
  generalize befP n d f h=R at*
  obtain⟨hs,h1,h2,h3,h4⟩:=hA
  obtain⟨i,rfl⟩:=Int.eq_ofNat_of_zero_le h1
  obtain⟨k,rfl⟩:=Int.eq_ofNat_of_zero_le h3
  rw [Int.toNat_natCast]at h4 hB
  rw [Int.toNat_natCast]at hB
  have hg:=flg (l:=n.fl) (i:=i) (by omega)
  have hf:=chk_fl hs.c i (by omega)
  generalize n.fl.getD i fl0=g at*
  have hil:=ints_len g.rt
  have r4:=hf.l2
  (repeat' (conv=>whnf);first|refine⟨i,_,rfl,hg,?_⟩|refine aC ?_ ?_<;>intro<;>try omega|refine z2_O10 ?_|(refine aK [] cS ?_)|fail);all_goals try (conv=>whnf)
  all_goals try (exfalso;first|exact absurd hs (by assumption)|omega)
  refine LoopOb.mk (Y:=Nat×Nat) (st:=fun y=>⟨[(12,i64 y.1),(11,i64 y.2),(10, .ptr 1 0),(3,i64 k),(1, .psl 1 (dls d))],[.box [.psl 1 (strs n.nm), .psl 5 (lns n.ln), .psl 8 (fls n.fl)], .box (flv g)]⟩)
   (inv:=fun y=>y.1≤k∧bef d g y.1=some y.2) (fun y=>k-y.1) (0,0) [0,1] ⟨by simp,rfl⟩ (by(exact aL)) ?_
  rintro⟨j,s⟩ ⟨hj,hb⟩
  dsimp only at hj hb⊢
  have hsl:=bef_le hs hf (by omega) hb
  (repeat' (conv=>whnf);first|refine z2_O10 ?_|fail);all_goals try (conv=>whnf)
  refine CondOb.mk (fun hlt=>?_) (fun hlt=>?_)
  ·have hjk:j<k:=by omega
   obtain⟨w1,w2,w3,w4⟩:=hs.dly hf (i:=j) (by omega)
   have hxx:=(hf.b j (by omega)).1
   have hcc:=(hf.c j (by omega)).1
   have hgr:=ints_get (l:=g.rt) (j:=j) (by omega)
   have hst:bef d g (j+1)=if dly d g j<0 then none else some (s+(dly d g j).toNat):=by simp only [bef,hb]
   have hne:bef d g (j+1)=none→bef d g k=none:=fun h=>bef_none h (by omega)
   have hg1:=dls_get w1
   have hg2:=ints_get w2
   rw [show(d.getD (g.rt.getD j 0).toNat []).getD g.cl.toNat 0=dly d g j from rfl]at hg2
   generalize dly d g j=x at*
   generalize d.getD (g.rt.getD j 0).toNat []=row at*
   generalize g.rt.getD j 0=a at*
   (repeat' (conv=>whnf);first|refine⟨g.cl.toNat,_,by omega,hg2,?_⟩|refine⟨a.toNat,_,by omega,hg1,?_⟩|refine⟨j,_,rfl,hgr,?_⟩|refine aC ?_ ?_<;>intro<;>try omega|refine z2_O10 ?_|fail);all_goals try (conv=>whnf)
   ·rw [if_pos (by assumption)]at hst
    rw [hB,hne hst]
    exact⟨rfl,rfl⟩
   ·rw [if_neg (by assumption)]at hst
    exact⟨(j+1,s+x.toNat),[0,1],⟨by dsimp only;omega,hst⟩,by dsimp only;omega,by rw [show((s+x.toNat:Nat):Int)=s+x by omega];(exact aL)⟩
  ·have e:j=k:=by omega
   subst e
   (repeat' (conv=>whnf);first|refine aC ?_ ?_<;>intro<;>try omega|refine z2_O10 ?_|fail);all_goals try (conv=>whnf)
   exact⟨rfl,by rw [hB,hb];rfl⟩
 ·rw [befP_f hA]
  (repeat' (conv=>whnf);first|refine⟨f.toNat,_,by omega,flg (show f.toNat<n.fl.length by omega),?_⟩|refine aC ?_ ?_<;>intro<;>try omega|refine z2_O10 ?_|(refine aK [] cS ?_)|fail);all_goals try (conv=>whnf)
  all_goals try exact⟨rfl,rfl⟩
  all_goals
   have hSp:ShapeP n d:=Classical.not_not.1 (by assumption)
   exact absurd ⟨hSp,by omega,by omega,by omega,by rw [ints_len]at*;omega⟩ hA
end
section
open Go.Sx Go.Np Go.Cv Go.Tp
theorem rAtL_ok (n:Nt) (hn:NL n) (d:List (List Int)) (hd:DL d) (f h:Int):Ctr Tryz.prog 78 [ntv n, .psl 1 (dls d),i64 f,i64 h] [] (fun r o=>∃x,AtP n d f h x∧o=[]∧r=crvE x):=by
 refine Ctr.impE ?_
 refine fI 0 Tryz.func78 ?_
 have cS:=rShape_ok n hn d hd
 have cB:=rBefore_ok n hn d hd f h
 have hfl:=fll n.fl
 by_cases hA:ShapeP n d∧HopP n f h
 ·rw [befP_t hA]at cB
  obtain⟨hs,hP⟩:=hA
  have hP':=hP
  obtain⟨h1,h2,h3,h4⟩:=hP'
  obtain⟨i,rfl⟩:=Int.eq_ofNat_of_zero_le h1
  obtain⟨k,rfl⟩:=Int.eq_ofNat_of_zero_le h3
  have hx:∀x,AtP n d i k x↔((bef d (n.fl.getD i fl0) k=none∧x=([],0,0,5))∨∃s,bef d (n.fl.getD i fl0) k=some s∧MkP (ahd (ctc (n.fl.getD i fl0)) s) x):=fun x=>by
   unfold AtP;rw [Int.toNat_natCast,Int.toNat_natCast]
   constructor
   ·rintro(⟨a,_⟩|⟨_,a,_⟩|⟨_,_,a⟩)
    ·exact absurd hs a
    ·exact absurd hP a
    ·exact a
   ·exact fun a=> .inr (.inr ⟨hs,hP,a⟩)
  rw [Int.toNat_natCast]at h4 cB
  rw [Int.toNat_natCast]at cB
  have hil:i<n.fl.length:=by omega
  have hg:=flg hil
  obtain⟨hv,hfi,hp,_⟩:=chk_ct hs.c i hil
  have hle:=fun s=>bef_le hs (chk_fl hs.c i hil) (i:=k) (s:=s) (by omega)
  have hr4:=(chk_fl hs.c i hil).l2
  generalize n.fl.getD i fl0=g at*
  have hil2:=ints_len g.rt
  obtain⟨p,hpe⟩:=Int.eq_ofNat_of_zero_le (show 0≤g.p by omega)
  cases hbe:bef d g k with
  |none=>
   rw [hbe]at cB
   dsimp only [befR]at cB
   (repeat' (conv=>whnf);first|refine⟨i,_,rfl,hg,?_⟩|refine aC ?_ ?_<;>intro<;>try omega|refine z2_T1 ?_|(refine aK [] cS ?_)|(refine aK [] cB ?_)|fail);all_goals try (conv=>whnf)
   all_goals first
    |exact⟨([],0,0,5),(hx _).2 (.inl ⟨hbe,rfl⟩),rfl,Imp.tup ⟨imp_zero,Imp.refl _,trivial⟩⟩
    |(exfalso;first|contradiction|exact absurd hs (by assumption)|exact absurd hP (by assumption)|omega)
    |trace_state
  |some s=>
   rw [hbe]at cB
   dsimp only [befR]at cB
   have hs2:=hle s hbe
   have cA:Ctr Tryz.prog 109 [crv g.v g.p g.q,i64 s] [] (fun r o=>∃x1 x2 x3 x4,MkP (ahd (ctc g) s) (x1,x2,x3,x4)∧o=[]∧r= .tup [crv x1 x2 x3,i64 x4]):=by
    have:=rAhead_ok (ctc g) hv hfi s (by omega)
    rw [show(((ctc g).2.1 :Nat):Int)=g.p by show((g.p.toNat:Nat):Int)=g.p;omega]at this
    exact this.mono (fun r o ⟨⟨x1,x2,x3,x4⟩,a,b,c⟩=>⟨x1,x2,x3,x4,a,b,c⟩)
   (repeat' (conv=>whnf);first|refine⟨i,_,rfl,hg,?_⟩|refine aC ?_ ?_<;>intro<;>try omega|refine z2_T1 ?_|(refine aK [] cS ?_)|(refine aK [] cB ?_)|(refine aM [] cA rfl rfl ?_;rintro _ _ ⟨x1,x2,x3,x4,hmk,rfl,rfl⟩)|fail);all_goals try (conv=>whnf)
   all_goals first
    |exact⟨(x1,x2,x3,x4),(hx _).2 (.inr ⟨s,hbe,hmk⟩),rfl,Imp.refl _⟩
    |(exfalso;first|contradiction|exact absurd hs (by assumption)|exact absurd hP (by assumption)|omega)
    |trace_state
 ·(repeat' (conv=>whnf);first|refine⟨f.toNat,_,by omega,flg (show f.toNat<n.fl.length by omega),?_⟩|refine aC ?_ ?_<;>intro<;>try omega|refine z2_T1 ?_|(refine aK [] cS ?_)|fail);all_goals try (conv=>whnf)
  all_goals try exact⟨([],0,0,6), .inl ⟨by assumption,rfl⟩,rfl,Imp.tup ⟨imp_zero,Imp.refl _,trivial⟩⟩
  all_goals
   have hSp:ShapeP n d:=Classical.not_not.1 (by assumption)
   have hil:=ints_len (n.fl.getD f.toNat fl0).rt
   have hno:¬HopP n f h:=fun k=>hA ⟨hSp,k⟩
  all_goals first
   |(refine⟨([],0,0,2), .inr (.inl ⟨hSp,hno,rfl⟩),rfl,Imp.tup ⟨imp_zero,Imp.refl _,trivial⟩⟩;done)
   |exact absurd (show HopP n f h from⟨by omega,by omega,by omega,by omega⟩) hno
end
section
open Go.Sx Go.Np Go.Cv Go.Tp
theorem atP_uniq {n:Nt} {d:List (List Int)} {f h:Int} {x y:E4} (hx:AtP n d f h x) (hy:AtP n d f h y):x=y:=by
 rcases hx with⟨a,rfl⟩|⟨a,b,rfl⟩|⟨a,b,h⟩<;>rcases hy with⟨a',rfl⟩|⟨a',b',rfl⟩|⟨a',b',h'⟩
 ·rfl
 ·exact absurd a' a
 ·exact absurd a' a
 ·exact absurd a a'
 ·rfl
 ·exact absurd b' b
 ·exact absurd a a'
 ·exact absurd b b'
 ·rcases h with⟨h1,rfl⟩|⟨s,h1,h2⟩<;>rcases h' with⟨k1,rfl⟩|⟨s',k1,k2⟩
  ·rfl
  ·rw [h1]at k1;cases k1
  ·rw [h1]at k1;cases k1
  ·rw [h1]at k1;cases k1;exact h2.uniq k2
end
end Go.Proofs.YtaomhdljcdadaaaGreat
