/- Lemmas that the proofs of this seat use (Cn2 Btr Mv Ri). Conditions: those that stand in each theorem. -/
import Derived.Test.YtaomhdljcdadaaaGreatCn5
import Derived.Test.YtaomhdljcdadaaaGreatPl
import Derived.Test.YtaomhdljcdadaaaGreatQrs
import Derived.Test.YtaomhdljcdadaaaGreatN9
set_option linter.unusedVariables false
set_option linter.unusedSimpArgs false
section
namespace Go.Proofs.YtaomhdljcdadaaaGreat
open Go.Sx Go.Pk Go.Mc Go.Np
set_option maxRecDepth 4000
set_option maxHeartbeats 2000000
def VB (ms:List (List Int)):Prop:=∀i j,-2147483648≤dR ms i j∧dR ms i j≤2147483648
def CnP (n:Nt) (p:List Pk) (ms:List (List Int)) (k:Int):Prop:=SkP n p∧0≤k∧k≤2000∧ms=trR (toF n p) (liN n) k.toNat
theorem aP_Cn2 {A B K:Prop} (k:K) (a:A:=by(simp only [zA,zT,zD,zC,zN,ints_len,zR,Go.Cv.vals_len];omega)) (b:B:=by(simp only [zA,zT,zD,zC,zN,ints_len,zR,Go.Cv.vals_len];omega)):(A∧B)∧K:=⟨⟨a,b⟩,k⟩
theorem z2_Cn2 {G H:Prop} (k:H) (h:H→G:=by first|exact fun r=>aS r|exact fun r=>aG r|exact fun r=>aD r|exact fun r=>aP_Cn2 r|exact fun r=>aI r|exact fun r=>aJ r|exact fun r=>aW (.qs [0,1,2,3,4,5,6,7,8] (.l 9 [4,1] (.qs [10] .nil) .no)) r|exact fun r=>aW (.qs [0,1,2,3,4,5,6] (.l 7 [1] (.l 8 [1] (.l 9 [] (.qs [10] (.l 11 [] .nil .no)) .no) .no) .no)) r):G:=h k
theorem z1_Cn2 {G H:Prop} (k:H) (h:H→G:=by first|exact fun r=>aS r|exact fun r=>aG r|exact fun r=>aD r|exact fun r=>aH r|exact fun r=>aP_Cn2 r|exact fun r=>aI r|exact fun r=>aJ r|exact fun r=>aW (.qs [0,1,2,3,4,5,6,7,8] (.l 9 [4,1] (.qs [10] .nil) .no)) r|exact fun r=>aW (.qs [0,1,2,3,4,5,6] (.l 7 [1] (.l 8 [1] (.l 9 [] (.qs [10] (.l 11 [] .nil .no)) .no) .no) .no)) r):G:=h k
theorem ConsG_ok (n:Nt) (hn:NL n) (p:List Pk) (hp:p.length≤1000) (k:Int) (ms:List (List Int)) (hm:MsL ms) (hb:VB ms):
  Ctr Tryz.prog 46 [ntv n, .psl 3 (pks p), .agg [.psl 1 (trs ms)],i64 k] [] (fun r o=>o=[]∧∃b:Bool,(b=true↔CnP n p ms k)∧r= .bl b):=by
 by_cases hg:¬(SkP n p∧0≤k∧k≤2000∧ms.length=p.length)
 ·have hno:¬CnP n p ms k:=fun⟨a,b,c,d⟩=>hg ⟨a,b,c,by rw [d];exact trR_len⟩
  refine fn_intro (E:=env 0) tys_ok rfl rfl rfl Tryz.func46 (by kernel_rfl) rfl (by kernel_rfl) ?_
  have hpl:=pks_len p
  have htl:=trs_len ms
  have hml:=hm.l
  have hs0:=sck_zero (n:=n) (p:=p)
  have cS:=SChk_ok n hn p (by omega)
  generalize sck n p=e at*
  have hg2:¬(e=0∧0≤k∧k≤2000∧ms.length=p.length):=fun c=>hg ⟨hs0.1 c.1,c.2⟩
  clear hg hs0
  (repeat' (conv=>whnf);first|(refine aC (fun _=>?_) (fun _=>?_)<;>try (exfalso;omega))|refine z1_Cn2 ?_|(refine aK [] (cS) ?_)|fail);all_goals try (conv=>whnf)
  all_goals exact⟨rfl,false,⟨fun e=>(by cases e),fun e=>absurd e hno⟩,rfl⟩
 obtain⟨h,k0,k1,hml⟩:=Classical.not_not.1 hg
 obtain⟨N,rfl⟩:∃N:Nat,k=N:=⟨k.toNat,by omega⟩
 have hN:N≤2000:=by omega
 have hcn:CnP n p ms N↔ms=trR (toF n p) (liN n) N:=⟨fun c=>by have:=c.2.2.2;rwa [Int.toNat_natCast]at this,fun c=>⟨h,by omega,by omega,by rwa [Int.toNat_natCast]⟩⟩
 refine fn_intro (E:=env 0) tys_ok rfl rfl rfl Tryz.func46 (by kernel_rfl) rfl (by kernel_rfl) ?_
 have h60:=h.l
 have hpl:=pks_len p
 have hfl:=fll n.fl
 have hlnl:=lnl n.ln
 have hc8:=chk_n h.h
 have htl:=trs_len ms
 (repeat' (conv=>whnf);first|(refine aC (fun _=>?_) (fun _=>?_)<;>try (exfalso;omega))|refine z1_Cn2 ?_|fail);all_goals try (conv=>whnf)
 refine aK [] (SChk_ok n hn p (by omega)) ?_
 rw [sck_zero.2 h]
 (repeat' (conv=>whnf);first|(refine aC (fun _=>?_) (fun _=>?_)<;>try (exfalso;omega))|refine z2_Cn2 ?_|fail);all_goals try (conv=>whnf)
 refine .mk [.nm 2 0 1] ?_
 refine LoopOb.mk (Y:=Nat) (st:=fun i=>⟨[(36,i64 i),(35,i64 (pks p).length),(34, .psl 3 (pks p)),(9, .ptr 2 0),(6, .ptr 1 0),(4, .ptr 0 0),(1, .psl 3 (pks p)),(3,i64 N)],[nbx n, .box [.psl 1 (trs ms)], .box [.vec 3], .mat 1 ((ms.take i).map ints)]⟩)
  (inv:=fun i=>i≤p.length∧∀j,j<i→(ms.getD j []).length =((toF n p).rt j).length) (fun i=>p.length-i) 0 [0,1,2,3] ⟨by omega,fun j hj=>by omega⟩ (by(exact aL)) ?_
 rintro i ⟨hi,hsh⟩
 have hel:((ms.take i).map ints).length =i:=by rw [List.length_map,List.length_take];omega
 by_cases hip:i<p.length
 ·have hgt:=trs_get (ms:=ms) (i:=i) (by omega)
  obtain⟨f1,f2,_,_,hG,_⟩:=h.fl hip
  have hG1:=hG.l1
  have hG4:=hG.l2
  have hrtl:((toF n p).rt i).length =(pfl n (p.getD i pk0)).rt.length :=by
   show((pfl n (p.getD i pk0)).rt.map Int.toNat).length =_
   rw [List.length_map]
  have hhp:hps n p (i:Int)=(((toF n p).rt i).length :Int):=by
   unfold hps
   rw [Int.toNat_natCast,if_neg (by omega),hrtl]
  by_cases hrl:(ms.getD i []).length =((toF n p).rt i).length
  ·have hnx:(ms.take i).map ints++[ints (ms.getD i [])]=(ms.take (i+1)).map ints:=by
    rw [List.take_succ_eq_append_getElem (by omega),List.map_append,List.getD_eq_getElem?_getD,List.getElem?_eq_getElem (by omega)];rfl
   have hcl:=CloneI_ok (ms.getD i []) (fun e=>by have:=congrArg List.length e;rw [List.length_nil]at this;omega) (by omega)
   have hsh':∀j,j<i+1→(ms.getD j []).length =((toF n p).rt j).length :=fun j hj=>by
    rcases Nat.lt_succ_iff_lt_or_eq.1 hj with h|h
    ·exact hsh j h
    ·subst h;exact hrl
   generalize ms.getD i []=row at*
   have hrowl:=ints_len row
   (repeat' (conv=>whnf);first|(refine aK [] (hops_ok n hn p (by omega) i) ?_;rw [hhp])|refine⟨i,_,rfl,hgt,?_⟩|(refine aC (fun _=>?_) (fun _=>?_)<;>try (exfalso;omega))|refine z1_Cn2 ?_|(refine aK [] (hcl) ?_)|fail);all_goals try (conv=>whnf)
   exact⟨i+1,[0,1,2,6],⟨by omega,hsh'⟩,by omega,by rw [←hnx];(exact aL)⟩
  ·have hno:¬ms=trR (toF n p) (liN n) N:=fun e=>hrl (by rw [e];exact trR_rlen hip)
   have hri:=hm.r i
   generalize ms.getD i []=row at*
   have hrowl:=ints_len row
   (repeat' (conv=>whnf);first|(refine aK [] (hops_ok n hn p (by omega) i) ?_;rw [hhp])|refine⟨i,_,rfl,hgt,?_⟩|(refine aC (fun _=>?_) (fun _=>?_)<;>try (exfalso;omega))|refine z1_Cn2 ?_|fail);all_goals try (conv=>whnf)
   exact⟨rfl,false,⟨fun e=>(by cases e),fun e=>absurd (hcn.1 e) hno⟩,rfl⟩
 ·obtain rfl:i=p.length:=by omega
  have hS:ShW (toF n p) ms:=⟨hml,fun i hi=>hsh i hi,fun i j _ _=>hb i j⟩
  have hrt:=h.rts
  rw [List.take_of_length_le (by omega)]
  (repeat' (conv=>whnf);first|(refine aC (fun _=>?_) (fun _=>?_)<;>try (exfalso;omega))|refine z1_Cn2 ?_|fail);all_goals try (conv=>whnf)
  refine LoopOb.mk (Y:=Nat) (st:=fun l=>⟨[(65,i64 l),(64,i64 (lns n.ln).length),(9, .ptr 2 0),(6, .ptr 1 0),(4, .ptr 0 0),(1, .psl 3 (pks p)),(3,i64 N)],[nbx n, .box [.psl 1 (trs ms)], .box [.vec 3], .mat 1 (ms.map ints)]⟩)
   (inv:=fun l=>l≤n.ln.length∧∀j,j<l→¬ChgM (toF n p) (liN n) N j ms fun _=>true) (fun l=>n.ln.length-l) 0 [0,1,2,3] ⟨by omega,fun j hj=>by omega⟩ (by(exact aL)) ?_
  rintro l ⟨hl,hc⟩
  by_cases hll:l<n.ln.length
  ·by_cases hv:∀x∈qu (toF n p) (dR ms) l,x.a≤2000
   ·(repeat' (conv=>whnf);first|(refine aC (fun _=>?_) (fun _=>?_)<;>try (exfalso;omega))|refine z1_Cn2 ?_|fail);all_goals try (conv=>whnf)
    refine aM [3] (passW_ok n hn p h N hN ms hS l hll hv) rfl rfl ?_
    rintro _ _ ⟨c',hc',rfl,rfl⟩
    cases c' with
    |true=>
     (repeat' (conv=>whnf);first|(refine aC (fun _=>?_) (fun _=>?_)<;>try (exfalso;omega))|refine z1_Cn2 ?_|fail);all_goals try (conv=>whnf)
     refine⟨rfl,false,⟨fun e=>(by cases e),fun e=>?_⟩,rfl⟩
     replace e:=hcn.1 e
     subst e
     exact absurd (hc'.1 rfl) (tr_fix hrt)
    |false=>
     have hn':¬ChgM (toF n p) (liN n) N l ms fun _=>true:=fun k=>by have:=hc'.2 k;cases this
     rw [pasM_same hrt hS.l hS.r hn']
     (repeat' (conv=>whnf);first|(refine aC (fun _=>?_) (fun _=>?_)<;>try (exfalso;omega))|refine z1_Cn2 ?_|fail);all_goals try (conv=>whnf)
     exact⟨l+1,[0,1,2,3],⟨by omega,fun j hj=>by
      rcases Nat.lt_succ_iff_lt_or_eq.1 hj with h|h
      ·exact hc j h
      ·subst h;exact hn'⟩,by omega,by(exact aL)⟩
   ·have hno:¬ms=trR (toF n p) (liN n) N:=fun e=>hv fun x hx=>by
     have hT:=trR_sh (F:=toF n p) (Z:=liN n) (N:=N) hrt
     rw [←e]at hT
     have:=h.qu hN (fun i k hi hk=>(hT.b i k hi hk).2) hx
     omega
    (repeat' (conv=>whnf);first|(refine aC (fun _=>?_) (fun _=>?_)<;>try (exfalso;omega))|refine z1_Cn2 ?_|fail);all_goals try (conv=>whnf)
    refine aM [3] (passE_ok n hn p h N hN ms hS l hll hv) rfl rfl ?_
    rintro _ _ ⟨e,he,rfl,rfl⟩
    (repeat' (conv=>whnf);first|(refine aC (fun _=>?_) (fun _=>?_)<;>try (exfalso;omega))|refine z1_Cn2 ?_|fail);all_goals try (conv=>whnf)
    all_goals exact⟨rfl,false,⟨fun e=>(by cases e),fun e=>absurd (hcn.1 e) hno⟩,rfl⟩
  ·obtain rfl:l=n.ln.length:=by omega
   have:=con_end hrt (LnP.of h) hS.l hS.r hc
   (repeat' (conv=>whnf);first|(refine aC (fun _=>?_) (fun _=>?_)<;>try (exfalso;omega))|refine z1_Cn2 ?_|fail);all_goals try (conv=>whnf)
   exact⟨rfl,true,⟨fun _=>hcn.2 this,fun _=>rfl⟩,rfl⟩
end Go.Proofs.YtaomhdljcdadaaaGreat
end
section
namespace Go.Proofs.YtaomhdljcdadaaaGreat
open Go.Sx Go.Pk Go.Mc Go.Np
set_option maxRecDepth 4000
set_option maxHeartbeats 2000000
structure TrS (ms:List (List Int)):Prop where
 l:ms.length≤100
 r:∀r∈ms,r.length≤100
 v:∀r∈ms,∀x∈r,-1000000≤x∧x≤1000000
structure TrG (ms:List (List Int)):Prop where
 m:MsL ms
 b:VB ms
theorem TrG.of {ms:List (List Int)} (h1:ms.length≤200) (h2:∀r∈ms,r.length≤200) (h3:∀r∈ms,∀x∈r,-2147483648≤x∧x≤2147483648):TrG ms:=by
 have key:∀i j,j<(ms.getD i []).length →-2147483648≤(ms.getD i []).getD j 0∧(ms.getD i []).getD j 0≤2147483648:=fun i j hj=>by
  by_cases hi:i<ms.length
  ·exact h3 _ (getD_in hi) _ (getD_in hj)
  ·rw [List.getD_eq_getElem?_getD (l:=ms),List.getElem?_eq_none (by omega)]at hj;simp at hj
 refine⟨⟨by omega,fun i=>?_,fun i j=>?_⟩,fun i j=>?_⟩
 ·by_cases hi:i<ms.length
  ·have:=h2 _ (getD_in (d:=[]) hi);omega
  ·rw [List.getD_eq_getElem?_getD,List.getElem?_eq_none (by omega)];simp
 ·by_cases hj:j<(ms.getD i []).length
  ·have:=key i j hj;omega
  ·rw [List.getD_eq_getElem?_getD,List.getElem?_eq_none (by omega)];simp
 ·by_cases hj:j<(ms.getD i []).length
  ·have:=key i j hj
   rw [show(ms.getD i []).getD j 0=dR ms i j from getD_dflt hj]at this;exact this
  ·unfold dR
   rw [List.getD_eq_getElem?_getD,List.getElem?_eq_none (by omega)];decide
theorem TrS.g {ms:List (List Int)} (h:TrS ms):TrG ms:=TrG.of (by have:=h.l;omega) (fun r hr=>by have:=h.r r hr;omega) fun r hr x hx=>by have:=h.v r hr x hx;omega
theorem TrS.set {ms:List (List Int)} (h:TrS ms) {i:Nat} {r:List Int} (h1:r.length≤101) (h2:∀x∈r,-1000001≤x∧x≤1000001):TrG (ms.set i r):=TrG.of (by rw [List.length_set];have:=h.l;omega)
 (fun r' hr=>by
  rcases List.mem_or_eq_of_mem_set hr with k|rfl
  ·have:=h.r r' k;omega
  ·omega) fun r' hr x hx=>by
  rcases List.mem_or_eq_of_mem_set hr with k|rfl
  ·have:=h.v r' k x hx;omega
  ·have:=h2 x hx;omega
theorem TrS.take {ms:List (List Int)} (h:TrS ms) {i:Nat}:TrG (ms.take i):=TrG.of (by rw [List.length_take];have:=h.l;omega)
 (fun r' hr=>by have:=h.r r' (List.mem_of_mem_take hr);omega) fun r' hr x hx=>by have:=h.v r' (List.mem_of_mem_take hr) x hx;omega
theorem trs_setB {ms:List (List Int)} {i:Nat} {r:List Int}:(trs ms).set i [.psl 1 (ints r)]=trs (ms.set i r):=by simp [trs,List.map_set]
theorem trs_takeB {ms:List (List Int)} {i:Nat}:(trs ms).take i=trs (ms.take i):=by simp [trs,List.map_take]
theorem fst_setB {l:List Int} {j:Nat} {a:Int}:ints (l.set j a)=(ints l).set j [i64 a]:=by simp [ints,List.map_set]
theorem fst_appB {l:List Int} {a:Int}:ints (l++[a])=ints l++[[i64 a]]:=by simp [ints]
theorem aP_Btr {A B K:Prop} (k:K) (a:A:=by(simp only [zA,zT,zD,zC,zN,ints_len,zR,trs_len];omega)) (b:B:=by(simp only [zA,zT,zD,zC,zN,ints_len,zR,trs_len];omega)):(A∧B)∧K:=⟨⟨a,b⟩,k⟩
theorem z2_Btr {G H:Prop} (k:H) (h:H→G:=by first|exact fun r=>aS r|exact fun r=>aG r|exact fun r=>aD r|exact fun r=>aH r|exact fun r=>aP_Btr r|exact fun r=>aI r|exact fun r=>aJ r):G:=h k
theorem z1_Btr {G H:Prop} (k:H) (h:H→G:=by first|exact fun r=>aS r|exact fun r=>aG r|exact fun r=>aD r|exact fun r=>aP_Btr r|exact fun r=>aI r|exact fun r=>aJ r):G:=h k
theorem bent35_ok (L:List Int) (k:Nat) (hL:L.length≤2000) (hk:k≤2000) (ms:List (List Int)) (hd:TrS ms):
  Ctr Tryz.prog 45 [.ptr 0 0, .agg [.psl 1 (trs ms)]] [src L k] (fun r o=>∃x:List (List Int)×Nat,(TrG x.1∧x.2≤2000)∧o=[src L x.2]∧r= .agg [.psl 1 (trs x.1)]):=by
 refine Ctr.impE ?_
 refine fn_intro (E:=env 1) tys_ok rfl rfl rfl Tryz.func45 (by kernel_rfl) rfl (by kernel_rfl) ?_
 have hdl:=trs_len ms
 have hd1:=hd.l
 by_cases h0:ms.length=0
 ·(repeat' (conv=>whnf);first|(refine aC (fun _=>?_) (fun _=>?_)<;>try (exfalso;omega))|refine z1_Btr ?_|fail);all_goals try (conv=>whnf)
  refine .mk [.fz 3] ?_
  (repeat' (conv=>whnf);first|(refine aC (fun _=>?_) (fun _=>?_)<;>try (exfalso;omega))|refine z2_Btr ?_|fail);all_goals try (conv=>whnf)
  exact⟨(ms,k),⟨hd.g,hk⟩,rfl,Imp.refl _⟩
 (repeat' (conv=>whnf);first|(refine aC (fun _=>?_) (fun _=>?_)<;>try (exfalso;omega))|refine z1_Btr ?_|(refine Gh.mk [] ?_;(conv=>whnf);refine aM [0] (N_ok _ _ hL (by assumption) (trs ms).length (by omega) (by omega)) rfl rfl ?_;rintro _ _ ⟨⟨n,k1⟩,⟨n1,n2,hk1⟩,rfl,rfl⟩;dsimp only at n1 n2 hk1⊢)|fail);all_goals try (conv=>whnf)
 obtain⟨i,rfl⟩:∃m:Nat,n=m:=⟨n.toNat,by omega⟩
 have hil:i<ms.length:=by omega
 refine⟨i,rfl,by omega,?_⟩
 have hgt:=trs_get hil
 have hrl:=hd.r _ (getD_in (d:=[]) hil)
 have hrv:=hd.v _ (getD_in (d:=[]) hil)
 have hset:=fun r=>hd.set (i:=i) (r:=r)
 have htk:=hd.take (i:=i)
 generalize ms.getD i []=row at*
 have hlw:=ints_len row
 refine⟨_,hgt,?_⟩
 (repeat' (conv=>whnf);first|(refine aC (fun _=>?_) (fun _=>?_)<;>try (exfalso;omega))|refine z1_Btr ?_|fail);all_goals try (conv=>whnf)
 refine .mk [] ?_
 refine aM [0] (N_ok _ _ hL (by assumption) 4 (by omega) (by omega)) rfl rfl ?_
 rintro _ _ ⟨⟨m,k2⟩,⟨m1,m2,hk2⟩,rfl,rfl⟩
 dsimp only at m1 m2 hk2⊢
 obtain rfl|rfl|rfl|rfl:m=0∨m=1∨m=2∨m=3:=by omega
 all_goals
  (repeat' (conv=>whnf);first|(refine aC (fun _=>?_) (fun _=>?_)<;>try (exfalso;omega))|refine z1_Btr ?_|fail);all_goals try (conv=>whnf)
 ·refine .mk [] ?_
  refine aM [0] (N_ok _ _ hL (by assumption) (ints row).length (by omega) (by omega)) rfl rfl ?_
  rintro _ _ ⟨⟨n,k3⟩,⟨n1,n2,hk3⟩,rfl,rfl⟩
  dsimp only at n1 n2 hk3⊢
  obtain⟨j,rfl⟩:∃m:Nat,n=m:=⟨n.toNat,by omega⟩
  have hjr:j<row.length:=by omega
  have hg:=ints_get (l:=row) (j:=j) hjr
  have hx:=hrv _ (getD_in (d:=0) hjr)
  generalize row.getD j 0=x at*
  (repeat' (conv=>whnf);first|refine⟨_,hg,?_⟩|refine⟨j,rfl,by omega,?_⟩|(refine aC (fun _=>?_) (fun _=>?_)<;>try (exfalso;omega))|refine z1_Btr ?_|fail);all_goals try (conv=>whnf)
  refine⟨i,rfl,by omega,?_⟩
  (repeat' (conv=>whnf);first|(refine aC (fun _=>?_) (fun _=>?_)<;>try (exfalso;omega))|refine z1_Btr ?_|fail);all_goals try (conv=>whnf)
  refine .mk [.fz 5] ⟨_,hgt,?_⟩
  (repeat' (conv=>whnf);first|(refine aC (fun _=>?_) (fun _=>?_)<;>try (exfalso;omega))|refine z1_Btr ?_|fail);all_goals try (conv=>whnf)
  refine .mk [.fz 3] ?_
  (repeat' (conv=>whnf);first|(refine aC (fun _=>?_) (fun _=>?_)<;>try (exfalso;omega))|refine z2_Btr ?_|fail);all_goals try (conv=>whnf)
  refine⟨(ms.set i (row.set j (x+1)),k3),⟨hset _ (by rw [List.length_set];omega) (fun y hy=>?_),by assumption⟩,rfl,Imp.agg ⟨Imp.psl (by rw [←trs_setB,fst_setB]),trivial⟩⟩
  rcases List.mem_or_eq_of_mem_set hy with h|rfl
  ·have:=hrv y h;omega
  ·omega
 ·refine⟨i,rfl,by omega,?_⟩
  (repeat' (conv=>whnf);first|(refine aC (fun _=>?_) (fun _=>?_)<;>try (exfalso;omega))|refine z1_Btr ?_|fail);all_goals try (conv=>whnf)
  refine .mk [.fz 5] ⟨_,hgt,?_⟩
  (repeat' (conv=>whnf);first|(refine aC (fun _=>?_) (fun _=>?_)<;>try (exfalso;omega))|refine z1_Btr ?_|fail);all_goals try (conv=>whnf)
  refine .mk [.fz 3] ?_
  (repeat' (conv=>whnf);first|(refine aC (fun _=>?_) (fun _=>?_)<;>try (exfalso;omega))|refine z2_Btr ?_|fail);all_goals try (conv=>whnf)
  refine⟨(ms.set i row,k2),⟨hset _ (by omega) (fun y hy=>?_),by assumption⟩,rfl,Imp.agg ⟨Imp.psl (by rw [←trs_setB]),trivial⟩⟩
  have:=hrv y hy;omega
 ·refine .mk [] ?_
  refine aM [0] (N_ok _ _ hL (by assumption) (ints row).length (by omega) (by omega)) rfl rfl ?_
  rintro _ _ ⟨⟨n,k3⟩,⟨n1,n2,hk3⟩,rfl,rfl⟩
  dsimp only at n1 n2 hk3⊢
  obtain⟨j,rfl⟩:∃m:Nat,n=m:=⟨n.toNat,by omega⟩
  have hjr:j<row.length:=by omega
  have hg:=ints_get (l:=row) (j:=j) hjr
  (repeat' (conv=>whnf);first|refine⟨_,hg,?_⟩|refine⟨j,rfl,by omega,?_⟩|(refine aC (fun _=>?_) (fun _=>?_)<;>try (exfalso;omega))|refine z1_Btr ?_|fail);all_goals try (conv=>whnf)
  refine⟨i,rfl,by omega,?_⟩
  (repeat' (conv=>whnf);first|(refine aC (fun _=>?_) (fun _=>?_)<;>try (exfalso;omega))|refine z1_Btr ?_|fail);all_goals try (conv=>whnf)
  refine .mk [.fz 5] ⟨_,hgt,?_⟩
  (repeat' (conv=>whnf);first|(refine aC (fun _=>?_) (fun _=>?_)<;>try (exfalso;omega))|refine z1_Btr ?_|fail);all_goals try (conv=>whnf)
  refine .mk [.fz 3] ?_
  (repeat' (conv=>whnf);first|(refine aC (fun _=>?_) (fun _=>?_)<;>try (exfalso;omega))|refine z2_Btr ?_|fail);all_goals try (conv=>whnf)
  refine⟨(ms.set i (row.set j (-1)),k3),⟨hset _ (by rw [List.length_set];omega) (fun y hy=>?_),by assumption⟩,rfl,Imp.agg ⟨Imp.psl (by rw [←trs_setB,fst_setB]),trivial⟩⟩
  rcases List.mem_or_eq_of_mem_set hy with h|rfl
  ·have:=hrv y h;omega
  ·omega
 ·refine⟨i,rfl,by omega,?_⟩
  (repeat' (conv=>whnf);first|(refine aC (fun _=>?_) (fun _=>?_)<;>try (exfalso;omega))|refine z1_Btr ?_|fail);all_goals try (conv=>whnf)
  refine .mk [.fz 5] ⟨_,hgt,?_⟩
  (repeat' (conv=>whnf);first|(refine aC (fun _=>?_) (fun _=>?_)<;>try (exfalso;omega))|refine z1_Btr ?_|fail);all_goals try (conv=>whnf)
  refine .mk [.fz 3] ?_
  (repeat' (conv=>whnf);first|(refine aC (fun _=>?_) (fun _=>?_)<;>try (exfalso;omega))|refine z2_Btr ?_|fail);all_goals try (conv=>whnf)
  refine⟨(ms.set i row,k2),⟨hset _ (by omega) (fun y hy=>?_),by assumption⟩,rfl,Imp.agg ⟨Imp.psl (by rw [←trs_setB]),trivial⟩⟩
  have:=hrv y hy;omega
 ·refine⟨i,rfl,by omega,?_⟩
  (repeat' (conv=>whnf);first|(refine aC (fun _=>?_) (fun _=>?_)<;>try (exfalso;omega))|refine z1_Btr ?_|fail);all_goals try (conv=>whnf)
  refine .mk [.fz 7] ⟨_,hgt,?_⟩
  (repeat' (conv=>whnf);first|(refine aC (fun _=>?_) (fun _=>?_)<;>try (exfalso;omega))|refine z1_Btr ?_|fail);all_goals try (conv=>whnf)
  refine .mk [.fz 3] ?_
  (repeat' (conv=>whnf);first|(refine aC (fun _=>?_) (fun _=>?_)<;>try (exfalso;omega))|refine z2_Btr ?_|fail);all_goals try (conv=>whnf)
  refine⟨(ms.set i (row++[3]),k2),⟨hset _ (by rw [List.length_append,List.length_singleton];omega) (fun y hy=>?_),by assumption⟩,rfl,Imp.agg ⟨Imp.psl (by rw [←trs_setB,fst_appB]),trivial⟩⟩
  rcases List.mem_append.1 hy with h|h
  ·have:=hrv y h;omega
  ·rw [List.mem_singleton.1 h];omega
 ·refine .mk [.fz 3] ?_
  (repeat' (conv=>whnf);first|refine⟨i,rfl,⟨by omega,by omega⟩,?_⟩|(refine aC (fun _=>?_) (fun _=>?_)<;>try (exfalso;omega))|refine z2_Btr ?_|fail);all_goals try (conv=>whnf)
  exact⟨(ms.take i,k2),⟨htk,hk2⟩,rfl,Imp.agg ⟨Imp.psl (by rw [←trs_takeB,List.drop_zero]),trivial⟩⟩
end Go.Proofs.YtaomhdljcdadaaaGreat
end
section
namespace Go.Mc
open Go.Pk Go.Np Go.Cv
abbrev twL:Ln:=⟨1,10,1,[],[]⟩
abbrev twF:Fl:=⟨⟨#[102]⟩,[0,1],0,1,50,[0,100],1,1⟩
def twN:Nt:=⟨[⟨#[97]⟩,⟨#[98]⟩],[twL,twL],[twF]⟩
abbrev twP:List Pk:=[⟨0,0,25⟩]
theorem tw_val:ValidP twF.v twF.p twF.q∧FinP twF.v:=by
 refine⟨⟨by decide,by decide,by decide,by decide,by decide,by decide,by decide,?_,?_,?_,?_⟩,by unfold FinP;decide⟩
 ·intro j hj
  have:j=0∨j=1:=by have:twF.v.length=2:=rfl;omega
  rcases this with rfl|rfl<;>decide
 ·intro j hj
  have:j=0:=by have:twF.v.length=2:=rfl;omega
  subst this;decide
 ·decide
 ·decide
theorem tw_chk:chkN twN=0:=by
 refine chkN_ok (by decide) rfl ?_ ?_
 ·intro j hj
  have h3:j=0∨j=1:=by have:twN.ln.length=2:=rfl;omega
  have e:twN.nm.getD j bs0=lname j∧twN.ln.getD j ln0=twL:=by rcases h3 with rfl|rfl<;>exact⟨rfl,rfl⟩
  have hf:nmErr (twN.nm.take j) (twN.nm.getD j bs0)=0:=by
   rw [e.1]
   refine nm_fresh (lname_word j (by omega)) fun h=>?_
   obtain⟨k,hk,hk2,e2⟩:=mem_take (d:=bs0) h
   have e3:twN.nm.getD k bs0=lname k:=by rcases(show k=0∨k=1 by omega)with rfl|rfl<;>rfl
   rw [e3]at e2
   have:=lname_inj j (by omega) k (by omega) e2
   omega
  unfold lineE
  rw [hf,if_neg (by simp),e.2]
  decide+kernel
 ·intro j hj
  have:j=0:=by have:twN.fl.length=1:=rfl;omega
  subst this
  have hf:nmErr ((twN.fl.take 0).map (·.nm)) (twN.fl.getD 0 fl0).nm =0:=nm_fresh (fname_word 0 (by decide)) (by simp)
  have hr:routeE twN.ln (twN.fl.getD 0 fl0)=0:=by decide+kernel
  unfold flowE
  rw [hf,if_neg (by simp),hr,if_neg (by simp)]
  have hG:twN.fl.getD 0 fl0=twF:=rfl
  rw [hG]
  unfold trafE
  rw [if_neg (by decide),if_neg (fun k=>k tw_val.1),if_neg (by decide),if_neg (fun k=>k tw_val.2)]
theorem tw_sk:SkP twN twP:=by
 refine⟨tw_chk,by decide,fun i hi=>?_,fun i hi=>?_⟩
 ·have:i=0:=by have:twP.length=1:=rfl;omega
  subst this;decide
 ·have:i=0:=by have:twP.length=1:=rfl;omega
  subst this;decide
theorem tw_tr {Z:Li} (h0:Z.C 0=fifoC∧Z.c 0=10) (h1:Z.C 1=fifoC∧Z.c 1=10):trR (toF twN twP) Z 100=[[2,5]]:=by
 have hlen:((toF twN twP).rt 0).length =2:=rfl
 have hf:∀h,h<((toF twN twP).rt 0).length →Z.C (lin (toF twN twP) 0 h)=fifoC∧1≤Z.c (lin (toF twN twP) 0 h)∧2*Z.c (lin (toF twN twP) 0 h)<25∧25≤(2+1)*Z.c (lin (toF twN twP) 0 h):=by
  intro h hh
  rw [hlen]at hh
  rcases(show h=0∨h=1 by omega)with rfl|rfl
  ·have e:lin (toF twN twP) 0 0=0:=rfl
   rw [e,h0.1,h0.2];exact⟨rfl,by omega,by omega,by omega⟩
  ·have e:lin (toF twN twP) 0 1=1:=rfl
   rw [e,h1.1,h1.2];exact⟨rfl,by omega,by omega,by omega⟩
 have key:=tr_one (F:=toF twN twP) (Z:=Z) (N:=100) (t:=0) (z:=25) (K:=fun _=>2) rfl tw_sk.rts rfl rfl hf
 have e0:=key 0 (by rw [hlen];omega) (by decide)
 have e1:=key 1 (by rw [hlen];omega) (by decide)
 have:trR (toF twN twP) Z 100=[[tr (toF twN twP) Z 100 0 0,tr (toF twN twP) Z 100 0 1]]:=rfl
 rw [this,e0,e1];rfl
theorem tw_qu:quL twN twP (dR [[2,5]]) 1 twP.length=[⟨3,0,0⟩]:=by
 rw [show(1:Int)=((1:Nat):Int)from rfl,quL_nat]
 have h1:hp (toF twN twP) 1 0=some 1:=by decide
 refine qu_one (F:=toF twN twP) rfl (h:=1) h1 ?_
 unfold arr
 rw [if_neg (by omega),if_pos]
 ·rfl
 ·intro j hj
  have:j=0:=by omega
  subst this;decide
theorem tw_arr:arO twN twP (dR [[2,5]]) 0 1=some 3:=by
 have h:hps twN twP 0=2:=by decide
 rw [arO_pos (by rw [h];omega) (by omega),if_pos]
 ·rfl
 ·intro j hj
  have:j=0:=by have:(1:Int).toNat =1:=rfl;omega
  subst this;decide
end Go.Mc
end
section
namespace Go.Proofs.YtaomhdljcdadaaaGreat
open Go.Sx Go.Np
set_option maxRecDepth 4000
set_option maxHeartbeats 2000000
theorem aP_Ri {A B K:Prop} (k:K) (a:A:=by(simp only [zA,zT,zD,zC,zN,ints_len,zR,Go.Cv.vals_len];omega)) (b:B:=by(simp only [zA,zT,zD,zC,zN,ints_len,zR,Go.Cv.vals_len];omega)):(A∧B)∧K:=⟨⟨a,b⟩,k⟩
theorem z1_Ri {G H:Prop} (k:H) (h:H→G:=by first|exact fun r=>aS r|exact fun r=>aG r|exact fun r=>aD r|exact fun r=>aH r|exact fun r=>aP_Ri r|exact fun r=>aI r|exact fun r=>aJ r|exact fun r=>aW (.qs [0,1,2,3,4,5,6,7,8] .nil) r):G:=h k
theorem rInts_ok (a b:List Int) (ha:a.length≤9223372036854775807):Ctr Tryz.prog 88 [.psl 1 (ints a), .psl 1 (ints b)] [] (fun r o=>o=[]∧r= .bp (a=b)):=by
 refine Ctr.imp ?_
 refine fn_intro (E:=env 0) tys_ok rfl rfl rfl Tryz.func88 (by kernel_rfl) rfl (by kernel_rfl) ?_
 have hla:=ints_len a
 have hlb:=ints_len b
 (repeat' (conv=>whnf);first|(refine aC (fun _=>?_) (fun _=>?_)<;>try (exfalso;omega))|refine z1_Ri ?_|fail);all_goals try (conv=>whnf)
 ·exact⟨rfl,Imp.bl ⟨fun h=>(by cases h),fun h=>by subst h;omega⟩⟩
 have hab:a.length=b.length:=by omega
 refine LoopOb.mk (Y:=Nat) (st:=fun i=>⟨[(5,i64 i),(1, .psl 1 (ints b)),(0, .psl 1 (ints a))],[]⟩)
  (inv:=fun i=>i≤a.length∧∀j<i,a.getD j 0=b.getD j 0) (fun i=>a.length-i) 0 [] ⟨by omega,by omega⟩ (by(exact aL)) ?_
 rintro i ⟨hi,hv⟩
 (repeat' (conv=>whnf);first|refine z1_Ri ?_|fail);all_goals try (conv=>whnf)
 refine CondOb.mk (fun hlt=>?_) (fun hlt=>?_)
 ·have hst:a.getD i 0=b.getD i 0→∀j<i+1,a.getD j 0=b.getD j 0:=fun h j hj=>by
   by_cases e:j=i
   ·rw [e];exact h
   ·exact hv j (by omega)
  (repeat' (conv=>whnf);first|(refine aC (fun _=>?_) (fun _=>?_)<;>try (exfalso;omega))|refine z1_Ri ?_|fail);all_goals try (conv=>whnf)
  ·exact⟨rfl,Imp.bl ⟨fun h=>(by cases h),fun h=>by subst h;exact absurd rfl (by assumption)⟩⟩
  ·exact⟨i+1,[],⟨by omega,hst (by omega)⟩,by omega,by(exact aL)⟩
 ·(repeat' (conv=>whnf);first|refine aC (fun _=>?_) (fun _=>?_)|refine z1_Ri ?_|fail);all_goals try (conv=>whnf)
  refine⟨rfl,Imp.bl ⟨fun _=>?_,fun _=>rfl⟩⟩
  apply List.ext_getElem hab
  intro j h1 h2
  have:=hv j (by omega)
  rw [List.getD_eq_getElem?_getD,List.getD_eq_getElem?_getD,List.getElem?_eq_getElem h1,List.getElem?_eq_getElem h2,Option.getD_some,Option.getD_some]at this
  exact this
end Go.Proofs.YtaomhdljcdadaaaGreat
end
