/- Lemmas that the proofs of this seat use (Cn5 So8 Erp Cn1). Conditions: those that stand in each theorem. -/
import Derived.Test.YtaomhdljcdadaaaGreatSo7
import Derived.Test.YtaomhdljcdadaaaGreatQ2
import Derived.Test.YtaomhdljcdadaaaGreatS4
set_option linter.unusedVariables false
set_option linter.unusedSimpArgs false
section
namespace Go.Proofs.YtaomhdljcdadaaaGreat
open Go.Sx Go.Pk Go.Mc Go.Np
set_option maxRecDepth 4000
set_option maxHeartbeats 2000000
open Classical in
noncomputable def rnG (n:Nt) (p:List Pk) (k:Int):List (List Int)×Int:=if sck n p≠0 then([],sck n p)else if k<0∨2000<k then([],3)else(trR (toF n p) (liN n) k.toNat,0)
abbrev rnV (x:List (List Int)×Int):SV:= .tup [.agg [.psl 1 (trs x.1)],i64 x.2]
theorem rnG_in {n:Nt} {p:List Pk} {k:Int} (h:SkP n p) (h0:0≤k) (h1:k≤2000):rnG n p k=(trR (toF n p) (liN n) k.toNat,0):=by
 unfold rnG
 rw [if_neg (by rw [sck_zero.2 h];simp),if_neg (by omega)]
theorem aP_Cn5 {A B K:Prop} (k:K) (a:A:=by(simp only [zA,zT,zD,zC,zN,ints_len,zR,Go.Cv.vals_len];omega)) (b:B:=by(simp only [zA,zT,zD,zC,zN,ints_len,zR,Go.Cv.vals_len];omega)):(A∧B)∧K:=⟨⟨a,b⟩,k⟩
theorem z1_Cn5 {G H:Prop} (k:H) (h:H→G:=by first|exact fun r=>aS r|exact fun r=>aG r|exact fun r=>aD r|exact fun r=>aH r|exact fun r=>aP_Cn5 r|exact fun r=>aI r|exact fun r=>aJ r|exact fun r=>aW (.qs [0,1,3,4,5,6,7,8,9,10] (.l 2 [9,6,4,1] (.l 11 [1] (.l 12 [1] (.l 13 [] (.qs [14] (.l 15 [] .nil .no)) .no) .no) .no) .no)) r):G:=h k
theorem RunG_ok (n:Nt) (hn:NL n) (p:List Pk) (hp:p.length≤1000) (k:Int):Ctr Tryz.prog 43 [ntv n, .psl 3 (pks p),i64 k] [] (fun r o=>o=[]∧r=rnV (rnG n p k)):=by
 by_cases hg:SkP n p∧0≤k∧k≤2000
 ·obtain⟨h,k0,k1⟩:=hg
  rw [rnG_in h k0 k1]
  obtain⟨N,rfl⟩:∃N:Nat,k=N:=⟨k.toNat,by omega⟩
  exact Run_ok n hn p h N (by omega)
 ·have cS:=SChk_ok n hn p (by omega)
  have hs0:=sck_zero (n:=n) (p:=p)
  unfold rnG
  refine Ctr.imp ?_
  refine fn_intro (E:=env 0) tys_ok rfl rfl rfl Tryz.func43 (by kernel_rfl) rfl (by kernel_rfl) ?_
  generalize sck n p=e at*
  have hg2:¬(e=0∧0≤k∧k≤2000):=fun c=>hg ⟨hs0.1 c.1,c.2⟩
  clear hs0
  (repeat' (conv=>whnf);first|(refine aC (fun _=>?_) (fun _=>?_)<;>try (exfalso;omega))|refine z1_Cn5 ?_|(refine aK [] (cS) ?_)|fail);all_goals try (conv=>whnf)
  all_goals refine⟨rfl,?_⟩
  ·rw [if_pos (by assumption)]
   exact Imp.tup ⟨Imp.agg ⟨Imp.nil _,trivial⟩,Imp.refl _,trivial⟩
  all_goals
   rw [if_neg (by assumption),if_pos (by omega)]
   exact Imp.tup ⟨Imp.agg ⟨Imp.nil _,trivial⟩,Imp.refl _,trivial⟩
theorem z2_Cn5 {G H:Prop} (k:H) (h:H→G:=by first|exact fun r=>aS r|exact fun r=>aG r|exact fun r=>aD r|exact fun r=>aH r|exact fun r=>aP_Cn5 r|exact fun r=>aI r|exact fun r=>aJ r|exact fun r=>aW (.qs [0,1,2,3,4,5,6,7,8,9,10,11,12] (.l 13 [] (.qs [14] .nil) .no)) r|exact fun r=>aW (.qs [0,1,2,3,4,5,6,7,8,9,10,11,12,13,14,15,16,17,18,19,20,21,22,23,24,25,26,27] .nil) r|exact fun r=>aW (.qs [0,1,2,3,4,5,6,7,8,9,10] .nil) r|exact fun r=>aW (.qs [0,1,2,3,4,5,6] (.l 7 [] (.qs [8] .nil) .no)) r):G:=h k
theorem RRunG_ok (n:Nt) (hn:NL n) (p:List Pk) (hp:p.length≤1000) (k:Int):Ctr Tryz.prog 16 [ntv n, .psl 3 (pks p),i64 k] [] (fun r o=>o=[]∧r=rnV (rnG n p k)):=by
 by_cases hg:SkP n p∧0≤k∧k≤2000
 ·obtain⟨h,k0,k1⟩:=hg
  rw [rnG_in h k0 k1]
  obtain⟨N,rfl⟩:∃N:Nat,k=N:=⟨k.toNat,by omega⟩
  exact RRun_ok n hn p h N (by omega)
 ·have cS:=RChk_ok n hn p (by omega)
  have hs0:=sck_zero (n:=n) (p:=p)
  unfold rnG
  refine Ctr.imp ?_
  refine fn_intro (E:=env 0) tys_ok rfl rfl rfl Tryz.func16 (by kernel_rfl) rfl (by kernel_rfl) ?_
  generalize sck n p=e at*
  have hg2:¬(e=0∧0≤k∧k≤2000):=fun c=>hg ⟨hs0.1 c.1,c.2⟩
  clear hs0
  (repeat' (conv=>whnf);first|(refine aC (fun _=>?_) (fun _=>?_)<;>try (exfalso;omega))|refine z2_Cn5 ?_|(refine aK [] (cS) ?_)|fail);all_goals try (conv=>whnf)
  all_goals refine⟨rfl,?_⟩
  ·rw [if_pos (by assumption)]
   exact Imp.tup ⟨Imp.agg ⟨Imp.nil _,trivial⟩,Imp.refl _,trivial⟩
  all_goals
   rw [if_neg (by assumption),if_pos (by omega)]
   exact Imp.tup ⟨Imp.agg ⟨Imp.nil _,trivial⟩,Imp.refl _,trivial⟩
end Go.Proofs.YtaomhdljcdadaaaGreat
end
section
namespace Go.Proofs.YtaomhdljcdadaaaGreat
open Go.Sx Go.Pk Go.Mc Go.Np
set_option maxRecDepth 4000
set_option maxHeartbeats 2000000
theorem aP_So8 {A B K:Prop} (k:K) (a:A:=by(simp only [zA,zT,zD,zC,zN,ints_len,zR,Go.Cv.vals_len];omega)) (b:B:=by(simp only [zA,zT,zD,zC,zN,ints_len,zR,Go.Cv.vals_len];omega)):(A∧B)∧K:=⟨⟨a,b⟩,k⟩
theorem z2_So8 {G H:Prop} (k:H) (h:H→G:=by first|exact fun r=>aS r|exact fun r=>aG r|exact fun r=>aD r|exact fun r=>aP_So8 r|exact fun r=>aI r|exact fun r=>aJ r):G:=h k
theorem z1_So8 {G H:Prop} (k:H) (h:H→G:=by first|exact fun r=>aS r|exact fun r=>aG r|exact fun r=>aD r|exact fun r=>aH r|exact fun r=>aP_So8 r|exact fun r=>aI r|exact fun r=>aJ r):G:=h k
theorem CloneI_ok (l:List Int) (h0:l≠[]) (hl:l.length≤1000000):Ctr Tryz.prog 90 [.psl 1 (ints l)] [] (fun r o=>o=[.vec 1 (ints l)]∧r= .vec 0):=by
 refine fn_intro (E:=env 0) tys_ok rfl rfl rfl Tryz.func90 (by kernel_rfl) rfl (by kernel_rfl) ?_
 have hn:=ints_len l
 (repeat' (conv=>whnf);first|refine AsgOb.nil ?_|refine aC (fun _=>?_) (fun _=>?_)|refine z1_So8 ?_|fail);all_goals try (conv=>whnf)
 refine .ne (by simpa [ints]using h0) ?_
 (repeat' (conv=>whnf);first|refine aC (fun _=>?_) (fun _=>?_)|refine z2_So8 ?_|fail);all_goals try (conv=>whnf)
 refine .mk [.wk [1] ⟨[(2, .vec 0)],[.vec 1 (ints l)]⟩] ⟨by(exact aL),?_⟩
 exact⟨rfl,rfl⟩
end Go.Proofs.YtaomhdljcdadaaaGreat
end
section
namespace Go.Proofs.YtaomhdljcdadaaaGreat
open Go.Sx Go.Pk Go.Mc Go.Np
set_option maxRecDepth 4000
set_option maxHeartbeats 2000000
abbrev rE (e:Int):SV:= .tup [.agg [.nil, .nil],i64 e]
theorem aP_Erp {A B K:Prop} (k:K) (a:A:=by(simp only [zA,zT,zD,zC,zN,ints_len,zR,Go.Cv.vals_len];omega)) (b:B:=by(simp only [zA,zT,zD,zC,zN,ints_len,zR,Go.Cv.vals_len];omega)):(A∧B)∧K:=⟨⟨a,b⟩,k⟩
theorem z1_Erp {G H:Prop} (k:H) (h:H→G:=by first|exact fun r=>aS r|exact fun r=>aG r|exact fun r=>aD r|exact fun r=>aH r|exact fun r=>aP_Erp r|exact fun r=>aI r|exact fun r=>aJ r):G:=h k
theorem fRunE (p:List Pk) (h60:p.length≤60) (hv:vld p≠0) (c N T:Int):Ctr Tryz.prog 223 [i64 c,i64 N, .psl 3 (pks p),i64 T] [] (fun r o=>o=[]∧r=rE (vld p)):=by
 refine fn_intro (E:=env 0) tys_ok rfl rfl rfl Tryz.func223 (by kernel_rfl) rfl (by kernel_rfl) ?_
 have cV:=Validate_ok p (by omega)
 generalize vld p=e at*
 (repeat' (conv=>whnf);first|(refine aC (fun _=>?_) (fun _=>?_)<;>try (exfalso;omega))|refine z1_Erp ?_|(refine aK [] (cV) ?_)|fail);all_goals try (conv=>whnf)
 all_goals exact⟨rfl,rfl⟩
theorem pRunE (p:List Pk) (h60:p.length≤60) (hv:vld p≠0) (c N T:Int):Ctr Tryz.prog 230 [i64 c,i64 N, .psl 3 (pks p),i64 T] [] (fun r o=>o=[]∧r=rE (vld p)):=by
 refine fn_intro (E:=env 0) tys_ok rfl rfl rfl Tryz.func230 (by kernel_rfl) rfl (by kernel_rfl) ?_
 have cV:=Validate_ok p (by omega)
 generalize vld p=e at*
 (repeat' (conv=>whnf);first|(refine aC (fun _=>?_) (fun _=>?_)<;>try (exfalso;omega))|refine z1_Erp ?_|(refine aK [] (cV) ?_)|fail);all_goals try (conv=>whnf)
 all_goals exact⟨rfl,rfl⟩
theorem rRunE (p:List Pk) (h60:p.length≤60) (hv:vld p≠0) (c:Int) (wl:List Int) (T:Int):Ctr Tryz.prog 237 [i64 c, .psl 1 (ints wl), .psl 3 (pks p),i64 T] [] (fun r o=>o=[]∧r=rE (vld p)):=by
 refine fn_intro (E:=env 0) tys_ok rfl rfl rfl Tryz.func237 (by kernel_rfl) rfl (by kernel_rfl) ?_
 have cV:=Validate_ok p (by omega)
 generalize vld p=e at*
 (repeat' (conv=>whnf);first|(refine aC (fun _=>?_) (fun _=>?_)<;>try (exfalso;omega))|refine z1_Erp ?_|(refine aK [] (cV) ?_)|fail);all_goals try (conv=>whnf)
 all_goals exact⟨rfl,rfl⟩
theorem dRunE (p:List Pk) (h60:p.length≤60) (hv:vld p≠0) (c:Int) (wl:List Int) (T:Int):Ctr Tryz.prog 246 [i64 c, .psl 1 (ints wl), .psl 3 (pks p),i64 T] [] (fun r o=>o=[]∧r=rE (vld p)):=by
 refine fn_intro (E:=env 0) tys_ok rfl rfl rfl Tryz.func246 (by kernel_rfl) rfl (by kernel_rfl) ?_
 have cV:=Validate_ok p (by omega)
 generalize vld p=e at*
 (repeat' (conv=>whnf);first|(refine aC (fun _=>?_) (fun _=>?_)<;>try (exfalso;omega))|refine z1_Erp ?_|(refine aK [] (cV) ?_)|fail);all_goals try (conv=>whnf)
 all_goals exact⟨rfl,rfl⟩
theorem runFE (l:Ln) (p:List Pk) (h60:p.length≤60) (hv:vld p≠0) (T:Int):Ctr Tryz.prog 221 [.agg [],lv l, .psl 3 (pks p),i64 T] [] (fun r o=>o=[]∧r=rE (vld p)):=by
 refine fn_intro (E:=env 0) tys_ok rfl rfl rfl Tryz.func221 (by kernel_rfl) rfl (by kernel_rfl) ?_
 have cV:=fRunE p h60 hv l.c l.n T
 generalize vld p=e at*
 (repeat' (conv=>whnf);first|(refine aC (fun _=>?_) (fun _=>?_)<;>try (exfalso;omega))|refine z1_Erp ?_|(refine aK [] (cV) ?_)|fail);all_goals try (conv=>whnf)
 all_goals exact⟨rfl,rfl⟩
theorem runPE (l:Ln) (p:List Pk) (h60:p.length≤60) (hv:vld p≠0) (T:Int):Ctr Tryz.prog 229 [.agg [],lv l, .psl 3 (pks p),i64 T] [] (fun r o=>o=[]∧r=rE (vld p)):=by
 refine fn_intro (E:=env 0) tys_ok rfl rfl rfl Tryz.func229 (by kernel_rfl) rfl (by kernel_rfl) ?_
 have cV:=pRunE p h60 hv l.c l.n T
 generalize vld p=e at*
 (repeat' (conv=>whnf);first|(refine aC (fun _=>?_) (fun _=>?_)<;>try (exfalso;omega))|refine z1_Erp ?_|(refine aK [] (cV) ?_)|fail);all_goals try (conv=>whnf)
 all_goals exact⟨rfl,rfl⟩
theorem runRE (l:Ln) (p:List Pk) (h60:p.length≤60) (hv:vld p≠0) (T:Int):Ctr Tryz.prog 235 [.agg [],lv l, .psl 3 (pks p),i64 T] [] (fun r o=>o=[]∧r=rE (vld p)):=by
 refine fn_intro (E:=env 0) tys_ok rfl rfl rfl Tryz.func235 (by kernel_rfl) rfl (by kernel_rfl) ?_
 have cV:=rRunE p h60 hv l.c l.w T
 generalize vld p=e at*
 (repeat' (conv=>whnf);first|(refine aC (fun _=>?_) (fun _=>?_)<;>try (exfalso;omega))|refine z1_Erp ?_|(refine aK [] (cV) ?_)|fail);all_goals try (conv=>whnf)
 all_goals exact⟨rfl,rfl⟩
theorem runDE (l:Ln) (p:List Pk) (h60:p.length≤60) (hv:vld p≠0) (T:Int):Ctr Tryz.prog 245 [.agg [],lv l, .psl 3 (pks p),i64 T] [] (fun r o=>o=[]∧r=rE (vld p)):=by
 refine fn_intro (E:=env 0) tys_ok rfl rfl rfl Tryz.func245 (by kernel_rfl) rfl (by kernel_rfl) ?_
 have cV:=dRunE p h60 hv l.c l.w T
 generalize vld p=e at*
 (repeat' (conv=>whnf);first|(refine aC (fun _=>?_) (fun _=>?_)<;>try (exfalso;omega))|refine z1_Erp ?_|(refine aK [] (cV) ?_)|fail);all_goals try (conv=>whnf)
 all_goals exact⟨rfl,rfl⟩
theorem z2_Erp {G H:Prop} (k:H) (h:H→G:=by first|exact fun r=>aS r|exact fun r=>aG r|exact fun r=>aD r|exact fun r=>aH r|exact fun r=>aP_Erp r|exact fun r=>aI r|exact fun r=>aJ r|exact fun r=>aW (.qs [0,1,2,3,4,5,6,7,8,9] (.l 10 [3,1] (.l 11 [] (.l 12 [] (.qs [13] .nil) .no) .no) .no)) r):G:=h k
theorem runSE (l:Ln) (p:List Pk) (h60:p.length≤60) (hv:vld p≠0) (T:Int):Ctr Tryz.prog 252 [.agg [],lv l, .psl 3 (pks p),i64 T] [] (fun r o=>o=[]∧r=rE (vld p)):=by
 refine fn_intro (E:=env 0) tys_ok rfl rfl rfl Tryz.func252 (by kernel_rfl) rfl (by kernel_rfl) ?_
 have cV:=Validate_ok p (by omega)
 generalize vld p=e at*
 (repeat' (conv=>whnf);first|(refine aC (fun _=>?_) (fun _=>?_)<;>try (exfalso;omega))|refine z2_Erp ?_|(refine aK [] (cV) ?_)|fail);all_goals try (conv=>whnf)
 all_goals exact⟨rfl,rfl⟩
theorem lRunE (l:Ln) (hl:LL l) (he:lnErr l=0) (p:List Pk) (h60:p.length≤60) (hv:vld p≠0) (T:Int):Ctr Tryz.prog 116 [lv l, .psl 3 (pks p),i64 T] [] (fun r o=>o=[]∧r=rE (vld p)):=by
 refine fn_intro (E:=env 0) tys_ok rfl rfl rfl Tryz.func116 (by kernel_rfl) rfl (by kernel_rfl) ?_
 have c1:=runFE l p h60 hv T
 have c2:=runPE l p h60 hv T
 have c3:=runRE l p h60 hv T
 have c4:=runDE l p h60 hv T
 have c5:=runSE l p h60 hv T
 have hk5:1≤l.k∧l.k≤5:=by
  unfold lnErr at he
  split at he
  ·cases he
  omega
 generalize vld p=e at*
 (repeat' (conv=>whnf);first|(refine aC (fun _=>?_) (fun _=>?_)<;>try (exfalso;omega))|refine z1_Erp ?_|fail);all_goals try (conv=>whnf)
 refine aK [] (lCheck_ok l hl) ?_
 rw [he]
 (repeat' (conv=>whnf);first|(refine aC (fun _=>?_) (fun _=>?_)<;>try (exfalso;omega))|refine z1_Erp ?_|fail);all_goals try (conv=>whnf)
 refine aM [] (kind_ok l.k) rfl rfl ?_
 rintro _ _ ⟨⟨s,b⟩,hk,rfl,rfl⟩
 dsimp only at hk⊢
 rcases hk with⟨hk,hs2⟩|⟨hk,hs2⟩|⟨hk,hs2⟩|⟨hk,hs2⟩|⟨hk,hs2⟩|⟨hk,hs2⟩
 ·omega
 ·cases hs2
  (repeat' (conv=>whnf);first|(refine aC (fun _=>?_) (fun _=>?_)<;>try (exfalso;omega))|refine z1_Erp ?_|refine InvOb.mk 221 (by decide+kernel) ?_|(refine aK [] (c1) ?_)|fail);all_goals try (conv=>whnf)
  all_goals exact⟨rfl,rfl⟩
 ·cases hs2
  (repeat' (conv=>whnf);first|(refine aC (fun _=>?_) (fun _=>?_)<;>try (exfalso;omega))|refine z1_Erp ?_|refine InvOb.mk 229 (by decide+kernel) ?_|(refine aK [] (c2) ?_)|fail);all_goals try (conv=>whnf)
  all_goals exact⟨rfl,rfl⟩
 ·cases hs2
  (repeat' (conv=>whnf);first|(refine aC (fun _=>?_) (fun _=>?_)<;>try (exfalso;omega))|refine z1_Erp ?_|refine InvOb.mk 235 (by decide+kernel) ?_|(refine aK [] (c3) ?_)|fail);all_goals try (conv=>whnf)
  all_goals exact⟨rfl,rfl⟩
 ·cases hs2
  (repeat' (conv=>whnf);first|(refine aC (fun _=>?_) (fun _=>?_)<;>try (exfalso;omega))|refine z1_Erp ?_|refine InvOb.mk 245 (by decide+kernel) ?_|(refine aK [] (c4) ?_)|fail);all_goals try (conv=>whnf)
  all_goals exact⟨rfl,rfl⟩
 ·cases hs2
  (repeat' (conv=>whnf);first|(refine aC (fun _=>?_) (fun _=>?_)<;>try (exfalso;omega))|refine z1_Erp ?_|refine InvOb.mk 252 (by decide+kernel) ?_|(refine aK [] (c5) ?_)|fail);all_goals try (conv=>whnf)
  all_goals exact⟨rfl,rfl⟩
end Go.Proofs.YtaomhdljcdadaaaGreat
end
section
namespace Go.Proofs.YtaomhdljcdadaaaGreat
open Go.Sx Go.Pk Go.Mc Go.Np
set_option maxRecDepth 4000
set_option maxHeartbeats 2000000
theorem qu_tW {n:Nt} {p:List Pk} (h:SkP n p) {ms:List (List Int)} (hm:ShW (toF n p) ms) {l:Nat} {x:Wt} (hx:x∈qu (toF n p) (dR ms) l):x.a≤2147483649:=by
 obtain⟨h1,⟨k,h2,h3⟩,h4⟩:=((qu_ok (toF n p) (dR ms) l).m x).1 hx
 have h1:x.i<p.length:=h1
 obtain⟨_,_,t1,t2,hG,s1,s2⟩:=h.fl h1
 obtain⟨k1,k2⟩:=hp_some h2
 unfold arr at h3
 split at h3
 ·have e:(p.getD x.i pk0).t =x.a:=Option.some.inj h3
  omega
 ·split at h3
  ·have e:dR ms x.i (k-1)+1=x.a:=Option.some.inj h3
   have:=hm.b x.i (k-1) h1 (by omega)
   omega
  ·cases h3
theorem vld_late {n:Nt} {p:List Pk} {D:Tp} {l:Nat} (hv:¬∀x∈qu (toF n p) D l,x.a≤2000):vld (pkq (toF n p) (qu (toF n p) D l))≠0:=fun e=>hv fun x hx=>by
 obtain⟨k,hk,rfl⟩:=List.mem_iff_getElem.1 hx
 have h2:=(vld_zero.1 e).g k (by rw [pkq_len];exact hk)
 rw [pkq_at hk]at h2
 unfold bad at h2
 dsimp only at h2
 omega
theorem aP_Cn1 {A B K:Prop} (k:K) (a:A:=by(simp only [zA,zT,zD,zC,zN,ints_len,zR,Go.Cv.vals_len];omega)) (b:B:=by(simp only [zA,zT,zD,zC,zN,ints_len,zR,Go.Cv.vals_len];omega)):(A∧B)∧K:=⟨⟨a,b⟩,k⟩
theorem z2_Cn1 {G H:Prop} (k:H) (h:H→G:=by first|exact fun r=>aS r|exact fun r=>aG r|exact fun r=>aD r|exact fun r=>aH r|exact fun r=>aP_Cn1 r|exact fun r=>aI r|exact fun r=>aJ r|exact fun r=>aW (.qs [0,1,2,3,4,5,6,7] (.l 8 [4,2,1] (.qs [9] (.l 10 [] (.qs [11,12,13] (.l 14 [] (.l 15 [] (.qs [16] .nil) .no) .no)) (.l 14 [4,2,1] (.l 10 [] (.qs [11,12,13] (.l 15 [] (.qs [16] .nil) .no)) .no) .no))) (.l 14 [4,2,1] (.l 8 [4,2,1] (.qs [9] (.l 10 [] (.qs [11,12,13] (.l 15 [] (.qs [16] .nil) .no)) .no)) .no) .no))) r):G:=h k
theorem z1_Cn1 {G H:Prop} (k:H) (h:H→G:=by first|exact fun r=>aS r|exact fun r=>aG r|exact fun r=>aD r|exact fun r=>aH r|exact fun r=>aP_Cn1 r|exact fun r=>aI r|exact fun r=>aJ r):G:=h k
theorem passE_ok (n:Nt) (hn:NL n) (p:List Pk) (h:SkP n p) (N:Nat) (hN:N≤2000) (ms:List (List Int)) (hm:ShW (toF n p) ms) (l:Nat) (hl:l<n.ln.length) (hv:¬∀x∈qu (toF n p) (dR ms) l,x.a≤2000):
  Ctr Tryz.prog 87 [ntv n, .psl 3 (pks p), .agg [.vec 0],i64 l,i64 N] [.mat 1 (ms.map ints)] (fun r o=>∃e:Int,e≠0∧r= .tup [.bl false,i64 e]∧o=[.mat 1 (ms.map ints)]):=by
 refine fn_intro (E:=env 1) tys_ok rfl rfl rfl Tryz.func87 (by kernel_rfl) rfl (by kernel_rfl) ?_
 have h60:=h.l
 have hpl:=pks_len p
 have hms:ms.length=p.length:=hm.l
 have hML:=MsL.ofW h hm
 have hln:=lnl n.ln
 have hlg:=lng (l:=n.ln) (i:=l) hl
 have hqe:quL n p (dR ms) l p.length=qu (toF n p) (dR ms) l:=quL_nat p.length
 (repeat' (conv=>whnf);first|(refine aC (fun _=>?_) (fun _=>?_)<;>try (exfalso;omega))|refine z1_Cn1 ?_|fail);all_goals try (conv=>whnf)
 refine aK [0] (PQuM_ok n hn p h60 h.rt ms hML l) ?_
 rw [hqe]
 have hvl:=vld_late hv
 have hql:=qu_len n p (dR ms) l
 have hLL:LL (n.ln.getD l ln0):=by
  obtain⟨a,b⟩:=hn.lw _ (getD_in hl)
  exact⟨a,b⟩
 have hle:=chk_ln h.h hl
 have hpkl:=pkq_len (toF n p) (qu (toF n p) (dR ms) l)
 have hqs:∀i,i<(pkq (toF n p) (qu (toF n p) (dR ms) l)).length →1≤((pkq (toF n p) (qu (toF n p) (dR ms) l)).getD i pk0).s ∧((pkq (toF n p) (qu (toF n p) (dR ms) l)).getD i pk0).s ≤1500:=fun i hi=>by
  rw [pkq_len]at hi
  have:=h.quW (List.getElem_mem hi)
  rw [pkq_at hi];exact⟨this.2.1,this.2.2.1⟩
 have hqt:∀i,i<(pkq (toF n p) (qu (toF n p) (dR ms) l)).length →0≤((pkq (toF n p) (qu (toF n p) (dR ms) l)).getD i pk0).t ∧((pkq (toF n p) (qu (toF n p) (dR ms) l)).getD i pk0).t ≤4294967296:=fun i hi=>by
  rw [pkq_len]at hi
  have h1:=h.quW (List.getElem_mem hi)
  have h2:=qu_tW h hm (List.getElem_mem hi)
  rw [pkq_at hi];exact⟨h1.2.2.2.1,by dsimp only;omega⟩
 have cE:=enough_ok (pkq (toF n p) (qu (toF n p) (dR ms) l)) (by omega) hqs hqt
 have cR:=fun T=>lRunE _ hLL hle (pkq (toF n p) (qu (toF n p) (dR ms) l)) (by omega) hvl T
 generalize enN (pkq (toF n p) (qu (toF n p) (dR ms) l))=en at*
 generalize hqq:qu (toF n p) (dR ms) l=q at*
 generalize vld (pkq (toF n p) q)=ve at*
 generalize hpp:pkq (toF n p) q=P at*
 have hpl2:=pks_len P
 (repeat' (conv=>whnf);first|(refine aC (fun _=>?_) (fun _=>?_)<;>try (exfalso;omega))|refine z1_Cn1 ?_|fail);all_goals try (conv=>whnf)
 refine DrawOb.cut [.fz 5, .fz 6] (.qs [0,1,2,3,4,5,6,7] (.l 8 [4,2,1] (.qs [9] (.l 10 [] (.qs [11,12,13] (.l 14 [] (.l 15 [] (.qs [16] .nil) .no) .no)) (.l 14 [4,2,1] (.l 10 [] (.qs [11,12,13] (.l 15 [] (.qs [16] .nil) .no)) .no) .no))) (.l 14 [4,2,1] (.l 8 [4,2,1] (.qs [9] (.l 10 [] (.qs [11,12,13] (.l 15 [] (.qs [16] .nil) .no)) .no)) .no) .no))) (Y:=Unit) (st:=fun y=>⟨[(15,i64 ve),(13, .psl 1 (ints (ixs q))),(8, .ptr 4 0),(7, .ptr 3 0),(6, .ptr 2 0),(5, .ptr 1 0)],[.mat 1 (ms.map ints),nbx n, .box [.psl 3 (pks p)], .box [.vec 0], .box [i64 l]]⟩) (inv:=fun _=>True) (by decide+kernel) ?_ ?_
 ·(repeat' (conv=>whnf);first|refine⟨l,_,rfl,hlg,?_⟩|(refine aC (fun _=>?_) (fun _=>?_)<;>try (exfalso;omega))|refine z2_Cn1 ?_|(refine aK [] cE ?_)|(refine aK [] (cR (min (N:Int) en)) ?_)|refine And.intro ?_ ?_|refine And.intro ?_ ?_|fail);all_goals try (conv=>whnf)
  all_goals exact⟨(),[0,1,2,3,4],trivial,by(exact aL)⟩
 ·rintro y0 _
  (repeat' (conv=>whnf);first|(refine aC (fun _=>?_) (fun _=>?_)<;>try (exfalso;omega))|refine z1_Cn1 ?_|fail);all_goals try (conv=>whnf)
  exact⟨ve,hvl,rfl,rfl⟩
end Go.Proofs.YtaomhdljcdadaaaGreat
end
