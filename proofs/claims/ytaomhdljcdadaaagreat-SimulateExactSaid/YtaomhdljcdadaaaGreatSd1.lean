/- Lemmas that the proofs of this seat use (Sd1 So10). Conditions: those that stand in each theorem. -/
import Derived.Test.YtaomhdljcdadaaaGreatPl
import Derived.Test.YtaomhdljcdadaaaGreatN9
import Derived.Test.YtaomhdljcdadaaaGreatMw
import Derived.Test.YtaomhdljcdadaaaGreatS2
import Derived.Test.YtaomhdljcdadaaaGreatSo9
import Derived.Test.YtaomhdljcdadaaaGreatCn2
set_option linter.unusedVariables false
set_option linter.unusedSimpArgs false
section
namespace Go.Proofs.YtaomhdljcdadaaaGreat
open Go.Sx Go.Pk Go.Mc Go.Np
set_option maxRecDepth 4000
set_option maxHeartbeats 2000000
theorem aP_Sd1 {A B K:Prop} (k:K) (a:A:=by(simp only [zA,zT,zD,zC,zN,ints_len,zR,Go.Cv.vals_len];omega)) (b:B:=by(simp only [zA,zT,zD,zC,zN,ints_len,zR,Go.Cv.vals_len];omega)):(A∧B)∧K:=⟨⟨a,b⟩,k⟩
theorem z2_Sd1 {G H:Prop} (k:H) (h:H→G:=by first|exact fun r=>aS r|exact fun r=>aG r|exact fun r=>aD r|exact fun r=>aP_Sd1 r|exact fun r=>aI r|exact fun r=>aJ r):G:=h k
theorem z1_Sd1 {G H:Prop} (k:H) (h:H→G:=by first|exact fun r=>aS r|exact fun r=>aG r|exact fun r=>aD r|exact fun r=>aH r|exact fun r=>aP_Sd1 r|exact fun r=>aI r|exact fun r=>aJ r):G:=h k
theorem Sends_ok (L:List Int) (k:Nat) (hL:L.length≤2000) (hk:k≤2000) (n:Nt) (hn:NL n) (h10:n.fl.length≤10) (hz:∀f∈n.fl,1≤f.lo∧f.lo≤f.hi∧f.hi≤1500) (m:Nat) (hm:m≤60):
  Ctr Tryz.prog 15 [.ptr 0 0,ntv n,i64 m] [src L k] (fun r o=>∃x:List Pk×Nat,(SndP n x.1∧x.1.length≤m∧x.2≤2000)∧o=[src L x.2, .vec 3 (pks x.1)]∧r= .vec 1):=by
 refine fn_intro (E:=env 1) tys_ok rfl rfl rfl Tryz.func15 (by kernel_rfl) rfl (by kernel_rfl) ?_
 have hfl:=fll n.fl
 (repeat' (conv=>whnf);first|(refine aC (fun _=>?_) (fun _=>?_)<;>try (exfalso;omega))|refine z1_Sd1 ?_|fail);all_goals try (conv=>whnf)
 refine aM [0] (N_ok L k hL hk (m+1) (by omega) (by omega)) rfl rfl ?_
 rintro _ _ ⟨⟨v,k1⟩,⟨v1,v2,hk1⟩,rfl,rfl⟩
 dsimp only at v1 v2 hk1⊢
 obtain⟨v,rfl⟩:∃a:Nat,v=a:=⟨v.toNat,by omega⟩
 (repeat' (conv=>whnf);first|(refine aC (fun _=>?_) (fun _=>?_)<;>try (exfalso;omega))|refine z1_Sd1 ?_|fail);all_goals try (conv=>whnf)
 refine LoopOb.mk (Y:=List Pk×Nat) (st:=fun y=>⟨[(9,i64 ((v:Int)-y.1.length)),(8,i64 (lst y.1 y.1.length)),(7, .vec 2),(4, .ptr 1 0),(0, .ptr 0 0)],[src L y.2,nbx n, .vec 3 (pks y.1)]⟩)
  (inv:=fun y=>SndP n y.1∧y.1.length≤v∧y.2≤2000) (fun y=>v-y.1.length) ([],k1) [0,1,3] ⟨SndP.nil n,by simp,hk1⟩ (by simp only [lst,List.length_nil];(exact aL)) ?_
 rintro⟨p,k2⟩ ⟨hp,hpv,hk2⟩
 dsimp only at hp hpv hk2⊢
 have hpl:=pks_len p
 have ht:=hp.t p.length (Nat.le_refl _)
 by_cases hlt:p.length<v∧0<n.fl.length
 ·generalize hla:lst p p.length=la at*
  (repeat' (conv=>whnf);first|refine LitOb.ful ?_|(refine aC (fun _=>?_) (fun _=>?_)<;>try (exfalso;omega))|refine z1_Sd1 ?_|fail);all_goals try (conv=>whnf)
  refine CallOb.mk [0] (Pick_ok L k2 hL hk2 [0,0,0,1,2,5] (by decide) (by decide)) rfl ⟨Imp.refl _,Imp.fulp rfl,trivial⟩ rfl rfl ?_
  rintro _ _ ⟨⟨d,k3⟩,⟨d1,hk3⟩,rfl,rfl⟩
  dsimp only at d1 hk3⊢
  have hd:0≤d∧d≤5:=by
   simp only [List.mem_cons,List.not_mem_nil,or_false]at d1
   omega
  clear d1
  (repeat' (conv=>whnf);first|(refine aC (fun _=>?_) (fun _=>?_)<;>try (exfalso;omega))|refine z1_Sd1 ?_|fail);all_goals try (conv=>whnf)
  refine CallOb.mk [0] (N_ok L k3 hL hk3 n.fl.length (by omega) (by omega)) rfl ⟨Imp.refl _,Imp.num (by omega),trivial⟩ rfl rfl ?_
  rintro _ _ ⟨⟨f,k4⟩,⟨g1,g2,hk4⟩,rfl,rfl⟩
  dsimp only at g1 g2 hk4⊢
  obtain⟨f,rfl⟩:∃a:Nat,f=a:=⟨f.toNat,by omega⟩
  have hfg:=flg (l:=n.fl) (i:=f) (by omega)
  have hzf:=hz (n.fl.getD f fl0) (Go.Np.getD_in (by omega))
  have hpf:∀t s:Int,pfl n ⟨f,t,s⟩=n.fl.getD f fl0:=fun t s=>by unfold pfl;rw [Int.toNat_natCast]
  generalize n.fl.getD f fl0=w at*
  (repeat' (conv=>whnf);first|refine⟨f,_,rfl,hfg,?_⟩|(refine aC (fun _=>?_) (fun _=>?_)<;>try (exfalso;omega))|refine z1_Sd1 ?_|fail);all_goals try (conv=>whnf)
  refine aM [0] (Range_ok L k4 hL hk4 w.lo w.hi (by omega) (by omega) (by omega)) rfl rfl ?_
  rintro _ _ ⟨⟨s,k5⟩,⟨s1,s2,hk5⟩,rfl,rfl⟩
  dsimp only at s1 s2 hk5⊢
  obtain⟨hap,hal⟩:=hp.app (x:=⟨f,la+d,s⟩) ⟨by dsimp only;omega,by dsimp only;omega⟩ (by rw [hpf];exact⟨s1,s2⟩) (by rw [hla];dsimp only;omega)
  have hpe:pks p++[[i64 f,i64 (la+d),i64 s]]=pks (p++[⟨f,la+d,s⟩]):=by simp [pks,pkw]
  have hl2:(p++[(⟨f,la+d,s⟩:Pk)]).length =p.length+1:=by simp
  (repeat' (conv=>whnf);first|(refine aC (fun _=>?_) (fun _=>?_)<;>try (exfalso;omega))|refine z1_Sd1 ?_|fail);all_goals try (conv=>whnf)
  exact⟨(p++[⟨f,la+d,s⟩],k5),[0,1,5],⟨hap,by dsimp only;omega,hk5⟩,by dsimp only;omega,by dsimp only;rw [hal,←hpe,hl2];(exact aL)⟩
 ·(repeat' (conv=>whnf);first|(refine aC (fun _=>?_) (fun _=>?_)<;>try (exfalso;omega))|refine z2_Sd1 ?_|fail);all_goals try (conv=>whnf)
  all_goals first
   |(refine .mk [.wk [0,2] ⟨[(6, .vec 1)],[src L k2, .vec 3 (pks p)]⟩] ⟨by(exact aL),?_⟩;exact⟨(p,k2),⟨hp,by dsimp only;omega,hk2⟩,rfl,rfl⟩)
   |trace_state
end Go.Proofs.YtaomhdljcdadaaaGreat
end
section
namespace Go.Proofs.YtaomhdljcdadaaaGreat
open Go.Sx Go.Pk Go.Mc Go.Np
set_option maxRecDepth 4000
set_option maxHeartbeats 2000000
theorem aP_So10 {A B K:Prop} (k:K) (a:A:=by(simp only [zA,zT,zD,zC,zN,ints_len,zR,Go.Cv.vals_len];omega)) (b:B:=by(simp only [zA,zT,zD,zC,zN,ints_len,zR,Go.Cv.vals_len];omega)):(A∧B)∧K:=⟨⟨a,b⟩,k⟩
theorem z2_So10 {G H:Prop} (k:H) (h:H→G:=by first|exact fun r=>aS r|exact fun r=>aG r|exact fun r=>aD r|exact fun r=>aH r|exact fun r=>aP_So10 r|exact fun r=>aI r|exact fun r=>aJ r|exact fun r=>aW (.qs [1,2] (.l 0 [2] (.l 3 [] (.qs [4,5,6,7,8] .nil) .no) .no)) r|exact fun r=>aW (.qs [1,2] (.l 0 [2] (.l 3 [] (.qs [4,5,6,7,8] .nil) .no) .no)) r|exact fun r=>aW (.qs [0,1,2,3] (.l 4 [3] (.l 5 [3] (.qs [6] (.l 7 [] (.qs [8,9,10,11,12,13,14,15,16,17,18,19,20,21,22,23,24,25,26,27,28,29,30,31,32,33,35,36] (.l 34 [36] (.l 37 [] (.qs [38,39,41] (.l 40 [] (.l 42 [] (.qs [43,44,45] .nil) .no) .no)) .no) .no)) .no)) .no) .no)) r):G:=h k
theorem z1_So10 {G H:Prop} (k:H) (h:H→G:=by first|exact fun r=>aS r|exact fun r=>aG r|exact fun r=>aD r|exact fun r=>aP_So10 r|exact fun r=>aI r|exact fun r=>aJ r|exact fun r=>aW (.qs [1,2] (.l 0 [2] (.l 3 [] (.qs [4,5,6,7,8] .nil) .no) .no)) r|exact fun r=>aW (.qs [1,2] (.l 0 [2] (.l 3 [] (.qs [4,5,6,7,8] .nil) .no) .no)) r|exact fun r=>aW (.qs [0,1,2,3] (.l 4 [3] (.l 5 [3] (.qs [6] (.l 7 [] (.qs [8,9,10,11,12,13,14,15,16,17,18,19,20,21,22,23,24,25,26,27,28,29,30,31,32,33,35,36] (.l 34 [36] (.l 37 [] (.qs [38,39,41] (.l 40 [] (.l 42 [] (.qs [43,44,45] .nil) .no) .no)) .no) .no)) .no)) .no) .no)) r):G:=h k
theorem sane_ok:Ctr Tryz.prog 41 [] [] (fun r o=>o=[]∧r= .bl true):=by
 refine Ctr.imp ?_
 refine fn_intro (E:=env 0) tys_ok rfl rfl rfl Tryz.func41 (by kernel_rfl) rfl (by kernel_rfl) ?_
 have htr:trR (toF twN twP) (liN twN) 100=[[2,5]]:=tw_tr ⟨show chL twL=fifoC from if_pos rfl,rfl⟩ ⟨show chL twL=fifoC from if_pos rfl,rfl⟩
 have hML:MsL [[2,5]]:=by
  have hS:=trR_sh (F:=toF twN twP) (Z:=liN twN) (N:=100) tw_sk.rts
  rw [htr]at hS
  exact MsL.of tw_sk (by omega) hS
 have hrun:=Run_ok twN tw_nl twP tw_sk 100 (by omega)
 rw [htr]at hrun
 have harr:=Arr_ok twN tw_nl twP (by decide) [[2,5]] hML 0 1
 rw [tw_arr]at harr
 have hqu:=PQu_ok twN tw_nl twP (by decide) tw_sk.rt [[2,5]] hML 1
 rw [tw_qu]at hqu
 have hS:=trR_sh (F:=toF twN twP) (Z:=liN twN) (N:=100) tw_sk.rts
 rw [htr]at hS
 have hcon:=ConsG_ok twN tw_nl twP (by decide) 100 [[2,5]] hML fun i j=>by
  have h1:=hML.v i j
  unfold dR
  rcases(show i=0∧j=0∨i=0∧j=1∨(1≤i∨2≤j)by omega)with⟨rfl,rfl⟩|⟨rfl,rfl⟩|h
  ·decide
  ·decide
  ·have:dR [[2,5]] i j= -1:=by
    unfold dR
    rcases h with h|h
    ·rw [List.getD_eq_getElem?_getD (l:=[[2,5]]),List.getElem?_eq_none (show([[2,5]]:List (List Int)).length ≤i from h)];rfl
    ·rw [List.getD_eq_getElem?_getD,List.getElem?_eq_none (by
      cases i with
      |zero=>exact h
      |succ i=>simp)];rfl
   unfold dR at this
   omega
 have hchk:=SChk_ok twN tw_nl twP (by decide)
 rw [sck_zero.2 tw_sk]at hchk
 have hsame:=rSame_ok [[2,5]] [[2,5]] hML hML
 clear hS
 replace hqu:=hqu.mono fun r o (h:QuR _ _ r o)=>(⟨h.2,h.1⟩:o=[.vec 3 (pks (pkq (toF twN twP) [⟨3,0,0⟩])), .vec 1 (ints (ixs [⟨3,0,0⟩]))]∧r= .tup [.vec 0, .vec 1])
 obtain⟨A,hA⟩:∃A,A=pks (pkq (toF twN twP) [⟨3,0,0⟩]):=⟨_,rfl⟩
 obtain⟨B,hB⟩:∃B,B=ints (ixs [⟨3,0,0⟩]):=⟨_,rfl⟩
 rw [←hA,←hB]at hqu
 have hA1:A.length=1:=by rw [hA];rfl
 have hB1:B.length=1:=by rw [hB];rfl
 have hA0:A[0]? =some [i64 0,i64 3,i64 25]:=by rw [hA];rfl
 clear hA hB
 replace hsame:=hsame.mono fun r o (h:o=[]∧∃b:Bool,(b=true↔[[2,5]]=[[2,5]])∧r= .bl b)=>(by obtain⟨h1,b,h2,h3⟩:=h;exact⟨h1,by rw [h3,h2.2 rfl]⟩:o=[]∧r= .bl true)
 replace hcon:=hcon.mono fun r o h=>(by obtain⟨h1,b,h2,h3⟩:=h;exact⟨h1,by rw [h3,h2.2 ⟨tw_sk,by omega,by omega,htr.symm⟩]⟩:o=[]∧r= .bl true)
 clear htr
 (repeat' (conv=>whnf);first|(refine aC (fun _=>?_) (fun _=>?_)<;>try (exfalso;omega))|refine z1_So10 ?_|fail);all_goals try (conv=>whnf)
 refine .mk [.fz 0] ?_
 (repeat' (conv=>whnf);first|(refine aC (fun _=>?_) (fun _=>?_)<;>try (exfalso;omega))|refine z2_So10 ?_|(refine aK [] (two_ok) ?_)|fail);all_goals try (conv=>whnf)
 refine aK [] hrun ?_
 (repeat' (conv=>whnf);first|refine LitOb.ful ?_|(refine aC (fun _=>?_) (fun _=>?_)<;>try (exfalso;omega))|refine z2_So10 ?_|(refine aK [] (two_ok) ?_)|(refine aK [] harr ?_;simp only [arrT])|(refine aK [] hqu ?_)|(refine CallOb.mk [] hsame rfl ⟨Imp.refl _,Imp.agg ⟨Imp.fulr ⟨⟨Imp.fulp rfl,trivial⟩,trivial⟩,trivial⟩,trivial⟩ rfl rfl ?_;rintro _ _ ⟨rfl,rfl⟩)|(refine aK [] hcon ?_)|(refine aK [] hchk ?_)|refine⟨0,rfl,by omega,?_⟩|refine⟨_,hA0,?_⟩|refine And.intro ?_ ?_|fail);all_goals try (conv=>whnf)
 all_goals first
  |exact fun σ β v h=>by
    obtain⟨b,rfl,hb⟩:=h
    have:=hb.2 rfl
    subst this;rfl
  |rfl
end Go.Proofs.YtaomhdljcdadaaaGreat
end
