/- Lemmas that the proofs of this seat use (Cn4 Bpk). Conditions: those that stand in each theorem. -/
import Derived.Test.YtaomhdljcdadaaaGreatErd
import Derived.Test.YtaomhdljcdadaaaGreatKw
import Derived.Test.YtaomhdljcdadaaaGreatPl
set_option linter.unusedVariables false
set_option linter.unusedSimpArgs false
section
namespace Go.Proofs.YtaomhdljcdadaaaGreat
open Go.Sx Go.Pk Go.Mc Go.Np
set_option maxRecDepth 4000
set_option maxHeartbeats 2000000
def NoA (n:Nt) (p:List Pk) (D:Tp) (i k:Nat):Prop:=arr (toF n p) D i k=none→D i k= -1
theorem noA_tr {n:Nt} {p:List Pk} (h:SkP n p) {N:Nat} {ms:List (List Int)} (e:ms=trR (toF n p) (liN n) N) {i k:Nat} (hi:i<p.length) (hk:k<((toF n p).rt i).length):NoA n p (dR ms) i k:=fun ha=>by
 refine Classical.byContradiction fun hne=>?_
 have hh:=hp_lin h.rts (i:=i) (h:=k) hi hk
 refine tr_fix (F:=toF n p) (Z:=liN n) (N:=N) (l:=lin (toF n p) i k) h.rts ⟨i,k,hi,rfl,hh,fun e2=>hne ?_⟩
 rw [←e]at e2
 rw [←e2]
 refine pas_out (qu_ok _ _ _) ?_
 cases hb:inQ (qu (toF n p) (dR ms) (lin (toF n p) i k)) i with
 |false=>rfl
 |true=>
  obtain⟨x,hx,ex⟩:=inQ_iff.1 hb
  obtain⟨_,⟨k',h1,h2⟩,_⟩:=((qu_ok _ _ _).m x).1 hx
  rw [ex]at h1 h2
  rw [hh]at h1;cases h1
  rw [ha]at h2;cases h2
theorem con_doc {n:Nt} {p:List Pk} (h:SkP n p) {N:Nat} {ms:List (List Int)} (hS:ShW (toF n p) ms) (h1:∀i k,i<p.length→k<((toF n p).rt i).length →NoA n p (dR ms) i k)
  (h2:∀l,l<n.ln.length→∀x∈qu (toF n p) (dR ms) l,dR ms x.i ((hop n (p.getD x.i pk0).f l).toNat)=pas (toF n p) (liN n) N (dR ms) l x.i):ms=trR (toF n p) (liN n) N:=by
 refine con_end h.rts (LnP.of h) hS.l hS.r fun l hl hc=>?_
 obtain⟨i,k,hi,_,hh,hne⟩:=hc
 have hi:i<p.length:=hi
 have hk:=(hp_some hh).1
 have hop':=hop_hp h.rt (l:=l) hi
 rw [hh]at hop'
 dsimp only at hop'
 cases hb:inQ (qu (toF n p) (dR ms) l) i with
 |true=>
  obtain⟨x,hx,ex⟩:=inQ_iff.1 hb
  have:=h2 l hl x hx
  rw [ex,hop',Int.toNat_natCast]at this
  exact hne this.symm
 |false=>
  refine hne ?_
  rw [pas_out (qu_ok _ _ _) hb]
  refine(h1 i k hi hk ?_).symm
  cases ha:arr (toF n p) (dR ms) i k with
  |none=>rfl
  |some a=>
   have hm:=((qu_ok (toF n p) (dR ms) l).m ⟨a,(toF n p).fl i,i⟩).2 ⟨hi,⟨k,hh,ha⟩,rfl⟩
   have:inQ (qu (toF n p) (dR ms) l) i=true:=inQ_iff.2 ⟨_,hm,rfl⟩
   rw [hb]at this;cases this
theorem aP_Cn4 {A B K:Prop} (k:K) (a:A:=by(simp only [zA,zT,zD,zC,zN,ints_len,zR,Go.Cv.vals_len];omega)) (b:B:=by(simp only [zA,zT,zD,zC,zN,ints_len,zR,Go.Cv.vals_len];omega)):(A∧B)∧K:=⟨⟨a,b⟩,k⟩
theorem z2_Cn4 {G H:Prop} (k:H) (h:H→G:=by first|exact fun r=>aS r|exact fun r=>aG r|exact fun r=>aD r|exact fun r=>aP_Cn4 r|exact fun r=>aI r|exact fun r=>aJ r|exact fun r=>aW (.qs [0,1,2,3,4,5,6,7,8,9,10,11,12,13,14,15,16,17] .nil) r|exact fun r=>aW (.qs [0,1,2,3,4,5,6,7,8,9,10,11,12,13,14,15,16,17,21,22,23,24,25] (.l 18 [25,22,7,5,1] (.qs [19,20,26] .nil) .no)) r):G:=h k
theorem z1_Cn4 {G H:Prop} (k:H) (h:H→G:=by first|exact fun r=>aS r|exact fun r=>aG r|exact fun r=>aD r|exact fun r=>aH r|exact fun r=>aP_Cn4 r|exact fun r=>aI r|exact fun r=>aJ r|exact fun r=>aW (.qs [0,1,2,3,4,5,6,7,8,9,10,11,12,13,14,15,16,17] .nil) r|exact fun r=>aW (.qs [0,1,2,3,4,5,6,7,8,9,10,11,12,13,14,15,16,17,21,22,23,24,25] (.l 18 [25,22,7,5,1] (.qs [19,20,26] .nil) .no)) r):G:=h k
theorem RConsG_ok (n:Nt) (hn:NL n) (p:List Pk) (hp:p.length≤1000) (k:Int) (ms:List (List Int)) (hm:MsL ms) (hb:VB ms):
  Ctr Tryz.prog 47 [ntv n, .psl 3 (pks p), .agg [.psl 1 (trs ms)],i64 k] [] (fun r o=>o=[]∧∃b:Bool,(b=true↔CnP n p ms k)∧r= .bl b):=by
 by_cases hg:¬(SkP n p∧0≤k∧k≤2000∧ms.length=p.length)
 ·have hno:¬CnP n p ms k:=fun⟨a,b,c,d⟩=>hg ⟨a,b,c,by rw [d];exact trR_len⟩
  refine fn_intro (E:=env 0) tys_ok rfl rfl rfl Tryz.func47 (by kernel_rfl) rfl (by kernel_rfl) ?_
  have hpl:=pks_len p
  have htl:=trs_len ms
  have hml:=hm.l
  have hs0:=sck_zero (n:=n) (p:=p)
  have cS:=RChk_ok n hn p (by omega)
  generalize sck n p=e at*
  have hg2:¬(e=0∧0≤k∧k≤2000∧ms.length=p.length):=fun c=>hg ⟨hs0.1 c.1,c.2⟩
  clear hg hs0
  (repeat' (conv=>whnf);first|(refine aC (fun _=>?_) (fun _=>?_)<;>try (exfalso;omega))|refine z1_Cn4 ?_|(refine aK [] (cS) ?_)|fail);all_goals try (conv=>whnf)
  all_goals exact⟨rfl,false,⟨fun e=>(by cases e),fun e=>absurd e hno⟩,rfl⟩
 obtain⟨h,k0,k1,hml⟩:=Classical.not_not.1 hg
 obtain⟨N,rfl⟩:∃N:Nat,k=N:=⟨k.toNat,by omega⟩
 have hN:N≤2000:=by omega
 have hcn:CnP n p ms N↔ms=trR (toF n p) (liN n) N:=⟨fun c=>by have:=c.2.2.2;rwa [Int.toNat_natCast]at this,fun c=>⟨h,by omega,by omega,by rwa [Int.toNat_natCast]⟩⟩
 clear hg
 refine fn_intro (E:=env 0) tys_ok rfl rfl rfl Tryz.func47 (by kernel_rfl) rfl (by kernel_rfl) ?_
 have h60:=h.l
 have hpl:=pks_len p
 have hfl:=fll n.fl
 have hlnl:=lnl n.ln
 have hc8:=chk_n h.h
 have htl:=trs_len ms
 (repeat' (conv=>whnf);first|(refine aC (fun _=>?_) (fun _=>?_)<;>try (exfalso;omega))|refine z1_Cn4 ?_|fail);all_goals try (conv=>whnf)
 refine aK [] (RChk_ok n hn p (by omega)) ?_
 rw [sck_zero.2 h]
 (repeat' (conv=>whnf);first|(refine aC (fun _=>?_) (fun _=>?_)<;>try (exfalso;omega))|refine z1_Cn4 ?_|fail);all_goals try (conv=>whnf)
 refine LoopOb.mk (Y:=Nat) (st:=fun i=>⟨[(9,i64 i),(6, .ptr 1 0),(4, .ptr 0 0),(1, .psl 3 (pks p)),(3,i64 N)],[nbx n, .box [.psl 1 (trs ms)]]⟩)
  (inv:=fun i=>i≤p.length∧(∀j,j<i→(ms.getD j []).length =((toF n p).rt j).length)∧∀j k,j<i→k<((toF n p).rt j).length →NoA n p (dR ms) j k) (fun i=>p.length-i) 0 [0,1] ⟨by omega,fun j hj=>by omega,fun j k hj=>by omega⟩ (by(exact aL)) ?_
 rintro i ⟨hi,hsh,hna⟩
 by_cases hip:i<p.length
 ·have hgt:=trs_get (ms:=ms) (i:=i) (by omega)
  have hg:=pks_get hip
  obtain⟨f1,f2,_,_,hG,_⟩:=h.fl hip
  have hfg:=flg (l:=n.fl) (i:=(p.getD i pk0).f.toNat) (by omega)
  have hG1:=hG.l1
  have hG4:=hG.l2
  have hrtl:((toF n p).rt i).length =(pfl n (p.getD i pk0)).rt.length :=by
   show((pfl n (p.getD i pk0)).rt.map Int.toNat).length =_
   rw [List.length_map]
  have hrl0:=ints_len (pfl n (p.getD i pk0)).rt
  have hri:=hm.r i
  have hno1:(ms.getD i []).length ≠((toF n p).rt i).length →¬ms=trR (toF n p) (liN n) N:=fun hrl e=>hrl (by rw [e];exact trR_rlen hip)
  have hno2:∀k,k<((toF n p).rt i).length →¬NoA n p (dR ms) i k→¬ms=trR (toF n p) (liN n) N:=fun k hk hn' e=>hn' (noA_tr h e hip hk)
  have hsh':(ms.getD i []).length =((toF n p).rt i).length →∀j,j<i+1→(ms.getD j []).length =((toF n p).rt j).length :=fun hrl j hj=>by
   rcases Nat.lt_succ_iff_lt_or_eq.1 hj with h|h
   ·exact hsh j h
   ·subst h;exact hrl
  have hna':(∀k,k<((toF n p).rt i).length →NoA n p (dR ms) i k)→∀j k,j<i+1→k<((toF n p).rt j).length →NoA n p (dR ms) j k:=fun hq j k hj hk=>by
   rcases Nat.lt_succ_iff_lt_or_eq.1 hj with h|h
   ·exact hna j k h hk
   ·subst h;exact hq k hk
  have cA:=fun k:Nat=>RArr_ok n hn p (by omega) ms hm i k
  have haO:∀k,k<((toF n p).rt i).length →arO n p (dR ms) i k=arr (toF n p) (dR ms) i k:=fun k hk=>by
   unfold arO hps
   rw [Int.toNat_natCast,if_neg (by rw [if_neg (by omega)];omega),Int.toNat_natCast]
  have hrd:∀k,k<(ms.getD i []).length →(ints (ms.getD i []))[k]? =some [i64 (dR ms i k)]:=fun k hk=>by
   have:=ints_get hk
   rw [show(ms.getD i []).getD k 0=dR ms i k from getD_dflt hk]at this;exact this
  clear hsh hna
  unfold pfl at hrtl hrl0
  generalize n.fl.getD (p.getD i pk0).f.toNat fl0=fw at*
  generalize ms.getD i []=row at*
  have hrowl:=ints_len row
  generalize p.getD i pk0=x at*
  by_cases hrl:row.length=((toF n p).rt i).length
  ·(repeat' (conv=>whnf);first|refine⟨x.f.toNat,_,by omega,hfg,?_⟩|refine⟨i,_,rfl,hg,?_⟩|refine⟨i,_,rfl,hgt,?_⟩|(refine aC (fun _=>?_) (fun _=>?_)<;>try (exfalso;omega))|refine z1_Cn4 ?_|fail);all_goals try (conv=>whnf)
   refine LoopOb.mk (Y:=Nat) (st:=fun k=>⟨[(10,i64 k),(9,i64 i),(6, .ptr 1 0),(4, .ptr 0 0),(1, .psl 3 (pks p)),(3,i64 N)],[nbx n, .box [.psl 1 (trs ms)]]⟩)
    (inv:=fun k=>k≤row.length∧∀j,j<k→NoA n p (dR ms) i j) (fun k=>row.length-k) 0 [0,1] ⟨by omega,fun j hj=>by omega⟩ (by(exact aL)) ?_
   rintro k ⟨hk,hq⟩
   by_cases hkl:k<row.length
   ·have cAk:=cA k
    rw [haO k (by omega)]at cAk
    have hgk:=hrd k hkl
    have hnk:=hno2 k (by omega)
    have hst:NoA n p (dR ms) i k→∀j,j<k+1→NoA n p (dR ms) i j:=fun hq' j hj=>by
     rcases Nat.lt_succ_iff_lt_or_eq.1 hj with h|h
     ·exact hq j h
     ·subst h;exact hq'
    unfold NoA at hnk hst
    clear cA haO hrd hno1 hno2 hsh' hna'
    cases ha:arr (toF n p) (dR ms) i k with
    |none=>
     rw [ha]at cAk hnk hst
     simp only [arrT]at cAk
     generalize dR ms i k=v at*
     (repeat' (conv=>whnf);first|refine⟨k,_,rfl,hgk,?_⟩|refine⟨i,_,rfl,hgt,?_⟩|(refine aC (fun _=>?_) (fun _=>?_)<;>try (exfalso;omega))|refine z1_Cn4 ?_|(refine aK [] (cAk) ?_)|fail);all_goals try (conv=>whnf)
     all_goals first
      |exact⟨k+1,[0,1],⟨by omega,hst fun _=>by omega⟩,by omega,by(exact aL)⟩
      |exact⟨rfl,false,⟨fun e=>(by cases e),fun e=>absurd (hcn.1 e) (hnk fun c=>by have:=c rfl;omega)⟩,rfl⟩
      |trace_state
    |some a=>
     rw [ha]at cAk hst
     simp only [arrT]at cAk
     (repeat' (conv=>whnf);first|refine⟨i,_,rfl,hgt,?_⟩|(refine aC (fun _=>?_) (fun _=>?_)<;>try (exfalso;omega))|refine z1_Cn4 ?_|(refine aK [] (cAk) ?_)|fail);all_goals try (conv=>whnf)
     exact⟨k+1,[0,1],⟨by omega,hst fun c=>by cases c⟩,by omega,by(exact aL)⟩
   ·obtain rfl:k=row.length:=by omega
    have:=hna' fun k hk=>hq k (by omega)
    have:=hsh' hrl
    (repeat' (conv=>whnf);first|refine⟨i,_,rfl,hgt,?_⟩|(refine aC (fun _=>?_) (fun _=>?_)<;>try (exfalso;omega))|refine z1_Cn4 ?_|fail);all_goals try (conv=>whnf)
    exact⟨i+1,[0,1],⟨by omega,by assumption,by assumption⟩,by omega,by(exact aL)⟩
  ·have:=hno1 hrl
   (repeat' (conv=>whnf);first|refine⟨x.f.toNat,_,by omega,hfg,?_⟩|refine⟨i,_,rfl,hg,?_⟩|refine⟨i,_,rfl,hgt,?_⟩|(refine aC (fun _=>?_) (fun _=>?_)<;>try (exfalso;omega))|refine z1_Cn4 ?_|fail);all_goals try (conv=>whnf)
   exact⟨rfl,false,⟨fun e=>(by cases e),fun e=>absurd (hcn.1 e) this⟩,rfl⟩
 ·obtain rfl:i=p.length:=by omega
  have hS:ShW (toF n p) ms:=⟨hml,fun i hi=>hsh i hi,fun i j _ _=>hb i j⟩
  have hrt:=h.rts
  have hna':∀i k,i<p.length→k<((toF n p).rt i).length →NoA n p (dR ms) i k:=hna
  clear hna hsh
  (repeat' (conv=>whnf);first|(refine aC (fun _=>?_) (fun _=>?_)<;>try (exfalso;omega))|refine z1_Cn4 ?_|fail);all_goals try (conv=>whnf)
  refine LoopOb.mk (Y:=Nat) (st:=fun l=>⟨[(13,i64 l),(6, .ptr 1 0),(4, .ptr 0 0),(1, .psl 3 (pks p)),(3,i64 N)],[nbx n, .box [.psl 1 (trs ms)]]⟩)
   (inv:=fun l=>l≤n.ln.length∧∀j,j<l→∀x∈qu (toF n p) (dR ms) j,dR ms x.i ((hop n (p.getD x.i pk0).f j).toNat)=pas (toF n p) (liN n) N (dR ms) j x.i) (fun l=>n.ln.length-l) 0 [0,1] ⟨by omega,fun j hj=>by omega⟩ (by(exact aL)) ?_
  rintro l ⟨hl,hc⟩
  by_cases hll:l<n.ln.length
  ·have hlg:=lng (l:=n.ln) (i:=l) hll
   have cQ:=RQu_ok n hn p h60 h.rt ms hm l
   have hqe:quL n p (dR ms) l p.length=qu (toF n p) (dR ms) l:=quL_nat p.length
   rw [hqe]at cQ
   replace cQ:=cQ.mono fun r o (h:QuR _ _ r o)=>(⟨h.2,h.1⟩:o=[.vec 3 (pks (pkq (toF n p) (qu (toF n p) (dR ms) l))), .vec 1 (ints (ixs (qu (toF n p) (dR ms) l)))]∧r= .tup [.vec 0, .vec 1])
   have hql:=qu_len n p (dR ms) l
   have hLL:LL (n.ln.getD l ln0):=by
    obtain⟨a,b⟩:=hn.lw _ (getD_in hll)
    exact⟨a,b⟩
   have hle:=chk_ln h.h hll
   have hpkl:=pkq_len (toF n p) (qu (toF n p) (dR ms) l)
   by_cases hv:∀x∈qu (toF n p) (dR ms) l,x.a≤2000
   ·obtain⟨hPL,hcl⟩:=qu_PLW h hv
    have cS:=RSnd_ok _ hLL hle _ N hPL hcl hN
    have hqx:=fun x (hx:x∈qu (toF n p) (dR ms) l)=>h.quW hx
    have hdn:=fun k=>pas_at (qu_ok (toF n p) (dR ms) l) (liN n) N (l:=l) (k:=k)
    have hst:(∀x∈qu (toF n p) (dR ms) l,dR ms x.i ((hop n (p.getD x.i pk0).f l).toNat)=pas (toF n p) (liN n) N (dR ms) l x.i)→∀j,j<l+1→∀x∈qu (toF n p) (dR ms) j,dR ms x.i ((hop n (p.getD x.i pk0).f j).toNat)=pas (toF n p) (liN n) N (dR ms) j x.i:=fun hq j hj=>by
     rcases Nat.lt_succ_iff_lt_or_eq.1 hj with h|h
     ·exact hc j h
     ·subst h;exact hq
    have hno:∀x∈qu (toF n p) (dR ms) l,dR ms x.i ((hop n (p.getD x.i pk0).f l).toNat)≠pas (toF n p) (liN n) N (dR ms) l x.i→¬ms=trR (toF n p) (liN n) N:=fun x hx hne e=>by
     obtain⟨h1,_,_,_,_,_,k',hh⟩:=hqx x hx
     have hop':=hop_hp h.rt (l:=l) h1
     rw [hh]at hop'
     dsimp only at hop'
     rw [hop',Int.toNat_natCast]at hne
     refine tr_fix (F:=toF n p) (Z:=liN n) (N:=N) (l:=l) hrt ⟨x.i,k',h1,rfl,hh,?_⟩
     rw [←e];exact fun e2=>hne e2.symm
    generalize hqq:qu (toF n p) (dR ms) l=q at*
    have hdl:ivs (pkq (toF n p) q).length (run (chL (n.ln.getD l ln0)) (pkq (toF n p) q) (n.ln.getD l ln0).c.toNat N).dn =ivs q.length fun k=>pas (toF n p) (liN n) N (dR ms) l (q.getD k default).i :=by
     rw [hpkl]
     refine List.map_congr_left fun k hk=>?_
     rw [List.mem_range]at hk
     have e:q.getD k default=q[k]:=by rw [List.getD_eq_getElem?_getD,List.getElem?_eq_getElem hk];rfl
     have e2:=hdn k hk
     rw [←e]at e2
     show [i64 _]=[i64 (pas (toF n p) (liN n) N (dR ms) l (q.getD k default).i)]
     rw [e2];rfl
    have hpq:=pks_len (pkq (toF n p) q)
    have hix:=ints_len (ixs q)
    rw [ixs_len]at hix
    (repeat' (conv=>whnf);first|(refine aC (fun _=>?_) (fun _=>?_)<;>try (exfalso;omega))|refine z1_Cn4 ?_|fail);all_goals try (conv=>whnf)
    refine aK [] cQ ?_
    (repeat' (conv=>whnf);first|refine⟨l,_,rfl,hlg,?_⟩|(refine aC (fun _=>?_) (fun _=>?_)<;>try (exfalso;omega))|refine z2_Cn4 ?_|fail);all_goals try (conv=>whnf)
    refine .mk [.fz 2, .fz 3] ?_
    (repeat' (conv=>whnf);first|(refine aC (fun _=>?_) (fun _=>?_)<;>try (exfalso;omega))|refine z1_Cn4 ?_|fail);all_goals try (conv=>whnf)
    refine aM [] cS rfl rfl ?_
    rintro _ _ ⟨rfl,x,⟨ys,hys,rfl⟩,rfl⟩
    rw [hdl]
    (repeat' (conv=>whnf);first|(refine aC (fun _=>?_) (fun _=>?_)<;>try (exfalso;omega))|refine z1_Cn4 ?_|fail);all_goals try (conv=>whnf)
    refine LoopOb.mk (Y:=Nat) (st:=fun k=>⟨[(18,i64 k),(16, .ptr 2 0),(15, .psl 1 (ints (ixs q))),(13,i64 l),(6, .ptr 1 0),(4, .ptr 0 0),(1, .psl 3 (pks p)),(3,i64 N)],[nbx n, .box [.psl 1 (trs ms)], .box [.psl 1 (ivs q.length fun k=>pas (toF n p) (liN n) N (dR ms) l (q.getD k default).i), .psl 1 ((mtz ys).map fun m=>[.psl 1 m])]]⟩)
     (inv:=fun k=>k≤q.length∧∀x∈q.take k,dR ms x.i ((hop n (p.getD x.i pk0).f l).toNat)=pas (toF n p) (liN n) N (dR ms) l x.i) (fun k=>q.length-k) 0 [0,1,4] ⟨by omega,fun x hx=>by simp at hx⟩ (by(exact aL)) ?_
    rintro k ⟨hk,hqk⟩
    by_cases hkl:k<q.length
    ·have gx:=ints_get (l:=ixs q) (j:=k) (by rw [←ixs_len q]at hkl;simpa using hkl)
     have hix2:(ixs q).getD k 0=(q[k].i :Int):=by simp [ixs,hkl]
     rw [hix2]at gx
     have gv:=ivs_get (f:=fun k=>pas (toF n p) (liN n) N (dR ms) l (q.getD k default).i) hkl
     have hge:q.getD k default=q[k]:=by rw [List.getD_eq_getElem?_getD,List.getElem?_eq_getElem hkl];rfl
     simp only [hge]at gv
     obtain⟨hx1,_,_,_,_,_,h0,hh⟩:=hqx q[k] (List.getElem_mem hkl)
     have hop':=hop_hp h.rt (l:=l) hx1
     rw [hh]at hop'
     dsimp only at hop'
     have hh1:=(hp_some hh).1
     have rA:=hS.r q[k].i hx1
     have gA:=trs_get (ms:=ms) (i:=q[k].i) (by omega)
     have iA:=ints_get (l:=ms.getD q[k].i []) (j:=h0) (by omega)
     have lA:=ints_len (ms.getD q[k].i [])
     rw [show(ms.getD q[k].i []).getD h0 0=dR ms q[k].i h0 from getD_dflt (by omega)]at iA
     have gp:=pks_get (l:=p) (j:=q[k].i) hx1
     have hnk:=hno q[k] (List.getElem_mem hkl)
     rw [hop',Int.toNat_natCast]at hnk
     have hsk:dR ms q[k].i h0=pas (toF n p) (liN n) N (dR ms) l q[k].i →∀x∈q.take (k+1),dR ms x.i ((hop n (p.getD x.i pk0).f l).toNat)=pas (toF n p) (liN n) N (dR ms) l x.i:=fun e x hx=>by
      rw [List.take_succ_eq_append_getElem hkl,List.mem_append]at hx
      rcases hx with hx|hx
      ·exact hqk x hx
      ·rw [List.mem_singleton]at hx;subst hx
       rw [hop',Int.toNat_natCast];exact e
     have cH:=rHop_ok n hn (p.getD q[k].i pk0).f l
     rw [hop']at cH
     clear hqk hst hno hqx hdn hdl hix2 hge hop'
     generalize pas (toF n p) (liN n) N (dR ms) l q[k].i =v at*
     generalize dR ms q[k].i h0=d at*
     generalize q[k].i =xi at*
     generalize ms.getD xi []=ra at*
     generalize p.getD xi pk0=x at*
     (repeat' (conv=>whnf);first|refine⟨h0,_,rfl,iA,?_⟩|refine⟨xi,_,rfl,gA,?_⟩|refine⟨xi,_,rfl,gp,?_⟩|refine⟨k,_,rfl,gv,?_⟩|refine⟨k,_,rfl,gx,?_⟩|(refine aC (fun _=>?_) (fun _=>?_)<;>try (exfalso;omega))|refine z1_Cn4 ?_|(refine aK [] cH ?_)|fail);all_goals try (conv=>whnf)
     all_goals first
      |exact⟨k+1,[0,1,2],⟨by omega,hsk (by omega)⟩,by omega,by(exact aL)⟩
      |exact⟨rfl,false,⟨fun e=>(by cases e),fun e=>absurd (hcn.1 e) (hnk (by omega))⟩,rfl⟩
      |trace_state
    ·obtain rfl:k=q.length:=by omega
     rw [List.take_length]at hqk
     have:=hst hqk
     (repeat' (conv=>whnf);first|(refine aC (fun _=>?_) (fun _=>?_)<;>try (exfalso;omega))|refine z1_Cn4 ?_|fail);all_goals try (conv=>whnf)
     exact⟨l+1,[0,1],⟨by omega,this⟩,by omega,by(exact aL)⟩
   ·have hno:¬ms=trR (toF n p) (liN n) N:=fun e=>hv fun x hx=>by
     have hT:=trR_sh (F:=toF n p) (Z:=liN n) (N:=N) hrt
     rw [←e]at hT
     have:=h.qu hN (fun i k hi hk=>(hT.b i k hi hk).2) hx
     omega
    have hvl:=vld_late hv
    have hqs:∀i,i<(pkq (toF n p) (qu (toF n p) (dR ms) l)).length →1≤((pkq (toF n p) (qu (toF n p) (dR ms) l)).getD i pk0).s ∧((pkq (toF n p) (qu (toF n p) (dR ms) l)).getD i pk0).s ≤1500:=fun i hi=>by
     rw [pkq_len]at hi
     have:=h.quW (List.getElem_mem hi)
     rw [pkq_at hi];exact⟨this.2.1,this.2.2.1⟩
    have hqt:∀i,i<(pkq (toF n p) (qu (toF n p) (dR ms) l)).length →0≤((pkq (toF n p) (qu (toF n p) (dR ms) l)).getD i pk0).t ∧((pkq (toF n p) (qu (toF n p) (dR ms) l)).getD i pk0).t ≤4294967296:=fun i hi=>by
     rw [pkq_len]at hi
     have h1:=h.quW (List.getElem_mem hi)
     have h2:=qu_tW h hS (List.getElem_mem hi)
     rw [pkq_at hi];exact⟨h1.2.2.2.1,by dsimp only;omega⟩
    have cS:=RSndE_ok _ hLL hle _ N (by omega) hqs hqt hvl
    generalize qu (toF n p) (dR ms) l=q at*
    generalize vld (pkq (toF n p) q)=ve at*
    generalize pkq (toF n p) q=P at*
    (repeat' (conv=>whnf);first|(refine aC (fun _=>?_) (fun _=>?_)<;>try (exfalso;omega))|refine z1_Cn4 ?_|fail);all_goals try (conv=>whnf)
    refine aK [] cQ ?_
    (repeat' (conv=>whnf);first|refine⟨l,_,rfl,hlg,?_⟩|(refine aC (fun _=>?_) (fun _=>?_)<;>try (exfalso;omega))|refine z2_Cn4 ?_|fail);all_goals try (conv=>whnf)
    refine .mk [.fz 2, .fz 3] ?_
    (repeat' (conv=>whnf);first|(refine aC (fun _=>?_) (fun _=>?_)<;>try (exfalso;omega))|refine z1_Cn4 ?_|fail);all_goals try (conv=>whnf)
    refine aK [] cS ?_
    (repeat' (conv=>whnf);first|(refine aC (fun _=>?_) (fun _=>?_)<;>try (exfalso;omega))|refine z1_Cn4 ?_|fail);all_goals try (conv=>whnf)
    all_goals exact⟨rfl,false,⟨fun e=>(by cases e),fun e=>absurd (hcn.1 e) hno⟩,rfl⟩
  ·obtain rfl:l=n.ln.length:=by omega
   have:=con_doc h hS hna' hc
   (repeat' (conv=>whnf);first|(refine aC (fun _=>?_) (fun _=>?_)<;>try (exfalso;omega))|refine z1_Cn4 ?_|fail);all_goals try (conv=>whnf)
   exact⟨rfl,true,⟨fun _=>hcn.2 this,fun _=>rfl⟩,rfl⟩
end Go.Proofs.YtaomhdljcdadaaaGreat
end
section
namespace Go.Proofs.YtaomhdljcdadaaaGreat
open Go.Sx Go.Pk Go.Cv
set_option maxRecDepth 8000
set_option maxHeartbeats 2000000
theorem pks_appB (l:List Pk) (x:Pk):pks (l++[x])=pks l++[pkw x]:=by simp [pks]
theorem aP_Bpk {A B K:Prop} (k:K) (a:A:=by(simp only [zA,zT,zD,zC,zN,ints_len,zR,pks_len,Go.Cv.vals_len];omega)) (b:B:=by(simp only [zA,zT,zD,zC,zN,ints_len,zR,pks_len,Go.Cv.vals_len];omega)):(A∧B)∧K:=⟨⟨a,b⟩,k⟩
theorem z2_Bpk {G H:Prop} (k:H) (h:H→G:=by first|exact fun r=>aS r|exact fun r=>aG r|exact fun r=>aD r|exact fun r=>aH r|exact fun r=>aP_Bpk r|exact fun r=>aI r|exact fun r=>aJ r):G:=h k
theorem z1_Bpk {G H:Prop} (k:H) (h:H→G:=by first|exact fun r=>aS r|exact fun r=>aG r|exact fun r=>aD r|exact fun r=>aP_Bpk r|exact fun r=>aI r|exact fun r=>aJ r):G:=h k
theorem BentPk_ok (L:List Int) (k:Nat) (hL:L.length≤2000) (hk:k≤2000) (p:List Pk) (hp:p.length≤60):
  Ctr Tryz.prog 26 [.ptr 0 0, .psl 3 (pks p)] [src L k] (fun r o=>∃x:List Pk×Nat,(x.1.length≤100∧x.2≤2000)∧o=[src L x.2]∧r= .psl 3 (pks x.1)):=by
 refine Ctr.impE ?_
 refine fn_intro (E:=env 1) tys_ok rfl rfl rfl Tryz.func26 (by kernel_rfl) rfl (by kernel_rfl) ?_
 have hpl:=pks_len p
 (repeat' (conv=>whnf);first|refine AsgOb.nil ?_|(refine aC (fun _=>?_) (fun _=>?_)<;>try (exfalso;omega))|refine z1_Bpk ?_|fail);all_goals try (conv=>whnf)
 ·have hp0:p=[]:=List.eq_nil_of_length_eq_zero (by omega)
  subst hp0
  refine .mk [.fz 3] ?_
  (repeat' (conv=>whnf);first|(refine aC (fun _=>?_) (fun _=>?_)<;>try (exfalso;omega))|refine z2_Bpk ?_|fail);all_goals try (conv=>whnf)
  exact⟨([⟨-1,0,1⟩],k),⟨by simp,hk⟩,rfl,Imp.refl _⟩
 have hne:¬((pks p).length :Int)=0:=by assumption
 refine .mk [] ?_
 refine aM [0] (N_ok L k hL hk ((pks p).length :Int) (by omega) (by omega)) rfl rfl ?_
 rintro _ _ ⟨⟨i,k1⟩,⟨hi1,hi2,hk1⟩,rfl,rfl⟩
 dsimp only at hi1 hi2 hk1⊢
 obtain⟨i,rfl⟩:∃n:Nat,i=n:=⟨i.toNat,by omega⟩
 have hil:i<p.length:=by omega
 have hg:(pks p)[i]? =some (pkw (p.getD i pk0)):=pks_get hil
 have hset:∀y:Pk,(pks p).set i (pkw y)=pks (p.set i y):=fun y=>by simp [pks,List.map_set]
 generalize p.getD i pk0=x at*
 (repeat' (conv=>whnf);first|(refine aC (fun _=>?_) (fun _=>?_)<;>try (exfalso;omega))|refine z1_Bpk ?_|fail);all_goals try (conv=>whnf)
 refine⟨i,rfl,by omega,?_⟩
 (repeat' (conv=>whnf);first|(refine aC (fun _=>?_) (fun _=>?_)<;>try (exfalso;omega))|refine z1_Bpk ?_|fail);all_goals try (conv=>whnf)
 refine .mk [] ?_
 refine aM [0] (N_ok L k1 hL hk1 4 (by omega) (by omega)) rfl rfl ?_
 rintro _ _ ⟨⟨w,k2⟩,⟨hw1,hw2,hk2⟩,rfl,rfl⟩
 dsimp only at hw1 hw2 hk2⊢
 (repeat' (conv=>whnf);first|(refine aC (fun _=>?_) (fun _=>?_)<;>try (exfalso;omega))|refine z1_Bpk ?_|fail);all_goals try (conv=>whnf)
 ·refine .mk [] ?_
  refine aM [0] (Range_ok L k2 hL hk2 (-1) 5 (by omega) (by omega) (by omega)) rfl rfl ?_
  rintro _ _ ⟨⟨v,k3⟩,⟨_,_,hk3⟩,rfl,rfl⟩
  dsimp only at hk3⊢
  (repeat' (conv=>whnf);first|refine⟨_,hg,?_⟩|refine⟨i,rfl,(by show i<(pks p).length;omega),?_⟩|(refine aC (fun _=>?_) (fun _=>?_)<;>try (exfalso;omega))|refine z1_Bpk ?_|fail);all_goals try (conv=>whnf)
  refine .mk [.fz 1] ?_
  (repeat' (conv=>whnf);first|(refine aC (fun _=>?_) (fun _=>?_)<;>try (exfalso;omega))|refine z2_Bpk ?_|fail);all_goals try (conv=>whnf)
  exact⟨(p.set i ⟨v,x.t,x.s⟩,k3),⟨by simp only [List.length_set];omega,hk3⟩,rfl,Imp.psl (hset ⟨v,x.t,x.s⟩)⟩
 ·refine .mk [.fz 2] ?_
  refine aM [0] (Pick_ok L k2 hL hk2 [-1,0,380,381] (by decide) (by decide)) rfl rfl ?_
  rintro _ _ ⟨⟨v,k3⟩,⟨_,hk3⟩,rfl,rfl⟩
  dsimp only at hk3⊢
  (repeat' (conv=>whnf);first|refine⟨_,hg,?_⟩|refine⟨i,rfl,(by show i<(pks p).length;omega),?_⟩|(refine aC (fun _=>?_) (fun _=>?_)<;>try (exfalso;omega))|refine z1_Bpk ?_|fail);all_goals try (conv=>whnf)
  refine .mk [.fz 1] ?_
  (repeat' (conv=>whnf);first|(refine aC (fun _=>?_) (fun _=>?_)<;>try (exfalso;omega))|refine z2_Bpk ?_|fail);all_goals try (conv=>whnf)
  exact⟨(p.set i ⟨x.f,v,x.s⟩,k3),⟨by simp only [List.length_set];omega,hk3⟩,rfl,Imp.psl (hset ⟨x.f,v,x.s⟩)⟩
 ·refine .mk [.fz 2] ?_
  refine aM [0] (Pick_ok L k2 hL hk2 [0,1,3,8,9] (by decide) (by decide)) rfl rfl ?_
  rintro _ _ ⟨⟨v,k3⟩,⟨_,hk3⟩,rfl,rfl⟩
  dsimp only at hk3⊢
  (repeat' (conv=>whnf);first|refine⟨_,hg,?_⟩|refine⟨i,rfl,(by show i<(pks p).length;omega),?_⟩|(refine aC (fun _=>?_) (fun _=>?_)<;>try (exfalso;omega))|refine z1_Bpk ?_|fail);all_goals try (conv=>whnf)
  refine .mk [.fz 1] ?_
  (repeat' (conv=>whnf);first|(refine aC (fun _=>?_) (fun _=>?_)<;>try (exfalso;omega))|refine z2_Bpk ?_|fail);all_goals try (conv=>whnf)
  exact⟨(p.set i ⟨x.f,x.t,v⟩,k3),⟨by simp only [List.length_set];omega,hk3⟩,rfl,Imp.psl (hset ⟨x.f,x.t,v⟩)⟩
 ·refine .mk [] ?_
  refine LoopOb.mk (Y:=List Pk) (st:=fun y=>⟨[(5, .vec 1),(0, .ptr 0 0)],[src L k2, .vec 3 (pks y)]⟩)
   (inv:=fun y=>1≤y.length∧y.length≤61) (fun y=>64-y.length) p [0,1] ⟨by omega,by omega⟩ (by(exact aL)) ?_
  rintro o ⟨hl1,hl2⟩
  have hol:=pks_len o
  have hgo:(pks o)[o.length-1]? =some (pkw (o.getD (o.length-1) pk0)):=pks_get (by omega)
  have hap:=pks_appB o (o.getD (o.length-1) pk0)
  generalize o.getD (o.length-1) pk0=z at*
  (repeat' (conv=>whnf);first|refine⟨_,hgo,?_⟩|refine⟨o.length-1,by omega,by omega,?_⟩|refine LitOb.ful ?_|(refine aC (fun _=>?_) (fun _=>?_)<;>try (exfalso;omega))|refine z1_Bpk ?_|fail);all_goals try (conv=>whnf)
  ·refine .mk [] ⟨o++[z],[0,2],⟨?_,?_⟩,?_,?_⟩
   ·rw [List.length_append,List.length_singleton];omega
   ·rw [List.length_append,List.length_singleton];omega
   ·rw [List.length_append,List.length_singleton];omega
   ·rw [hap];(exact aL)
  ·refine .mk [.fz 1] ?_
   (repeat' (conv=>whnf);first|(refine aC (fun _=>?_) (fun _=>?_)<;>try (exfalso;omega))|refine z2_Bpk ?_|fail);all_goals try (conv=>whnf)
   exact⟨(o,k2),⟨by dsimp only;omega,hk2⟩,rfl,Imp.refl _⟩
end Go.Proofs.YtaomhdljcdadaaaGreat
end
