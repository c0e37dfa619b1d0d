/- Lemmas of this seat. Conditions: as stated. -/
import Derived.Test.YtaomhdljcdadaaaGreatSo4
import Derived.Test.YtaomhdljcdadaaaGreatTy
import Derived.Shelf.SlLaysF0
import Derived.Shelf.SlLaysC2
import Derived.Shelf.Lays
import Derived.Test.YtaomhdljcdadaaaGreatS8
import Derived.Shelf.Bits.Mul64
import Derived.Shelf.Spec.SlicesInsert
import Derived.Sort.WalkB12
import Derived.Laws.IdiomCopy
import Derived.Tactics
import Derived.Test.YtaomhdljcdadaaaGreatN9
import Derived.Test.YtaomhdljcdadaaaGreatSxC
import Derived.Shelf.SlSortCmp.NoneTotal
import Derived.Test.YtaomhdljcdadaaaGreatQ2
import Derived.Test.YtaomhdljcdadaaaGreatMn
import Derived.Test.YtaomhdljcdadaaaGreatNd
import Derived.Test.YtaomhdljcdadaaaGreatS2d
import Derived.Test.YtaomhdljcdadaaaGreatX1
import Derived.Test.YtaomhdljcdadaaaGreatO2
import Derived.Test.YtaomhdljcdadaaaGreatO3
set_option linter.unusedVariables false
set_option linter.unusedSimpArgs false
set_option maxHeartbeats 2000000
set_option maxRecDepth 4000
namespace Go.Proofs.YtaomhdljcdadaaaGreat
section
open Go.Sx Go.Pk Go.Mc Go.Np
open Classical in
noncomputable def rnG (n:Nt) (p:List Pk) (k:Int):List (List Int)×Int:=if sck n p≠0 then([],sck n p)else if k<0∨2000<k then([],3)else(trR (toF n p) (liN n) k.toNat,0)
abbrev rnV (x:List (List Int)×Int):SV:= .tup [.agg [.psl 1 (trs x.1)],i64 x.2]
theorem rnG_in {n:Nt} {p:List Pk} {k:Int} (h:SkP n p) (h0:0≤k) (h1:k≤2000):rnG n p k=(trR (toF n p) (liN n) k.toNat,0):=by
 unfold rnG
 rw [if_neg (by rw [sck_zero.2 h];simp),if_neg (by omega)]
theorem RRunG_ok (n:Nt) (hn:NL n) (p:List Pk) (hp:p.length≤1000) (k:Int):Ctr Tryz.prog 16 [ntv n, .psl 3 (pks p),i64 k] [] (fun r o=>o=[]∧r=rnV (rnG n p k)):=by
 by_cases hg:SkP n p∧0≤k∧k≤2000
 ·obtain⟨h,k0,k1⟩:=hg
  rw [rnG_in h k0 k1]
  obtain⟨N,rfl⟩:∃N:Nat,k=N:=⟨k.toNat,by omega⟩
  exact RRun_ok n hn p h N (by omega)
 ·have cS:=RChk_ok n hn p (by omega)
  have hs0:=sck_zero (n:=n) (p:=p)
  unfold rnG
  refine Ctr.imp ?_
  refine fI 0 Tryz.func16 ?_
  generalize sck n p=e at*
  have hg2:¬(e=0∧0≤k∧k≤2000):=fun c=>hg ⟨hs0.1 c.1,c.2⟩
  clear hs0
  (repeat' (conv=>whnf);first|refine aC ?_ ?_<;>intro<;>try omega|refine z1_Q2 ?_|(refine aK [] (cS) ?_)|fail);all_goals try (conv=>whnf)
  all_goals refine⟨rfl,?_⟩
  ·rw [if_pos (by assumption)]
   exact Imp.tup ⟨Imp.agg ⟨Imp.nil _,trivial⟩,Imp.refl _,trivial⟩
  all_goals
   rw [if_neg (by assumption),if_pos (by omega)]
   exact Imp.tup ⟨Imp.agg ⟨Imp.nil _,trivial⟩,Imp.refl _,trivial⟩
end
end Go.Proofs.YtaomhdljcdadaaaGreat
section
namespace Go.Mc
def VB (ms:List (List Int)):Prop:=∀i j,-2147483648≤dR ms i j∧dR ms i j≤2147483648
end Go.Mc
end
namespace Go.Proofs.YtaomhdljcdadaaaGreat
section
open Go.Sx Go.Pk Go.Mc Go.Np
structure TrS (ms:List (List Int)):Prop where
 l:ms.length≤100
 r:∀r∈ms,r.length≤100
 v:∀r∈ms,∀x∈r,-1000000≤x∧x≤1000000
structure TrG (ms:List (List Int)):Prop where
 m:MsL ms
 b:VB ms
theorem TrG.of {ms:List (List Int)} (h1:ms.length≤200) (h2:∀r∈ms,r.length≤200) (h3:∀r∈ms,∀x∈r,-2147483648≤x∧x≤2147483648):TrG ms:=by
 have key:∀i j,j<(ms.getD i []).length →-2147483648≤(ms.getD i []).getD j 0∧(ms.getD i []).getD j 0≤2147483648:=fun i j hj=>by
  by_cases hi:i<ms.length
  ·exact h3 _ (getD_in hi) _ (getD_in hj)
  ·rw [List.getD_eq_getElem?_getD (l:=ms),List.getElem?_eq_none (by omega)]at hj;simp at hj
 refine⟨⟨by omega,fun i=>?_,fun i j=>?_⟩,fun i j=>?_⟩
 ·by_cases hi:i<ms.length
  ·have:=h2 _ (getD_in (d:=[]) hi);omega
  ·rw [List.getD_eq_getElem?_getD,List.getElem?_eq_none (by omega)];simp
 ·by_cases hj:j<(ms.getD i []).length
  ·have:=key i j hj;omega
  ·rw [List.getD_eq_getElem?_getD,List.getElem?_eq_none (by omega)];simp
 ·by_cases hj:j<(ms.getD i []).length
  ·have:=key i j hj
   rw [show(ms.getD i []).getD j 0=dR ms i j from getD_dflt hj]at this;exact this
  ·unfold dR
   rw [List.getD_eq_getElem?_getD,List.getElem?_eq_none (by omega)];decide
theorem TrS.g {ms:List (List Int)} (h:TrS ms):TrG ms:=TrG.of (by have:=h.l;omega) (fun r hr=>by have:=h.r r hr;omega) fun r hr x hx=>by have:=h.v r hr x hx;omega
end
section
open Go.Sx Go.Np Go.Cv Go.Tp
theorem z1_Y3 {G H:Prop} (k:H) (h:H→G:=by first|exact fun r=>aS r|exact fun r=>aG r|exact fun r=>aD r|exact fun r=>aH r|exact fun r=>aP_T1 r|exact fun r=>aI r|exact fun r=>aJ r|exact fun r=>aW (.qs [0,1,2,3,4,5,6,7,8,9,10,11] .nil) r):G:=h k
theorem rShape_ok (n:Nt) (hn:NL n) (d:List (List Int)) (hd:DL d):Ctr Tryz.prog 82 [ntv n, .psl 1 (dls d)] [] (fun r o=>o=[]∧r= .bp (ShapeP n d)):=by
 refine Ctr.imp ?_
 refine fI 0 Tryz.func82 ?_
 have cC:=rCheck_ok n hn
 have hll:=lnl n.ln
 have hdl:=dls_len d
 have hd1:=hd.l
 (repeat' (conv=>whnf);first|refine aC ?_ ?_<;>intro<;>try omega|refine z1_Y3 ?_|(refine aK [] cC ?_)|fail);all_goals try (conv=>whnf)
 all_goals try (exact⟨rfl,Imp.bl ⟨fun h=>(by cases h),fun h=>by have:=h.c;have:=h.l;omega⟩⟩)
 have hc:chkN n=0:=by omega
 have hl:d.length=n.ln.length:=by omega
 refine LoopOb.mk (Y:=Nat) (st:=fun i=>⟨[(5,i64 i),(2, .ptr 0 0),(1, .psl 1 (dls d))],[.box [.psl 1 (strs n.nm), .psl 5 (lns n.ln), .psl 8 (fls n.fl)]]⟩)
  (inv:=fun i=>i≤d.length∧(∀k,k<i→((d.getD k []).length :Int)=(n.ln.getD k ln0).n)∧∀k,k<i→∀j,j<(d.getD k []).length →-1≤(d.getD k []).getD j 0∧(d.getD k []).getD j 0≤400) (fun i=>d.length-i) 0 [0] ⟨by omega,by omega,by omega⟩ (by(exact aL)) ?_
 rintro i ⟨hi,hv1,hv2⟩
 (repeat' (conv=>whnf);first|refine z1_Y3 ?_|fail);all_goals try (conv=>whnf)
 refine CondOb.mk (fun hlt=>?_) (fun hlt=>?_)
 ·have hil:i<d.length:=by omega
  have hg:=dls_get hil
  have hg2:=lng (l:=n.ln) (i:=i) (by omega)
  have hrl:=hd.r i
  have hS:(ShapeP n d→((d.getD i []).length :Int)=(n.ln.getD i ln0).n ∧∀j,j<(d.getD i []).length →-1≤(d.getD i []).getD j 0∧(d.getD i []).getD j 0≤400):=fun h=>⟨h.r i hil,h.b i hil⟩
  have hst:((d.getD i []).length :Int)=(n.ln.getD i ln0).n →(∀j,j<(d.getD i []).length →-1≤(d.getD i []).getD j 0∧(d.getD i []).getD j 0≤400)→(∀k,k<i+1→((d.getD k []).length :Int)=(n.ln.getD k ln0).n)∧∀k,k<i+1→∀j,j<(d.getD k []).length →-1≤(d.getD k []).getD j 0∧(d.getD k []).getD j 0≤400:=fun h1 h2=>by
   refine⟨fun k hk=>?_,fun k hk=>?_⟩
   ·by_cases e:k=i
    ·rw [e];exact h1
    ·exact hv1 k (by omega)
   ·by_cases e:k=i
    ·rw [e];exact h2
    ·exact hv2 k (by omega)
  clear hv1 hv2
  generalize n.ln.getD i ln0=ll at*
  generalize d.getD i []=row at*
  have hil2:=ints_len row
  (repeat' (conv=>whnf);first|refine⟨i,_,rfl,hg2,?_⟩|refine⟨i,_,rfl,hg,?_⟩|refine aC ?_ ?_<;>intro<;>try omega|refine z1_Y3 ?_|fail);all_goals try (conv=>whnf)
  ·exact⟨rfl,Imp.bl ⟨fun h=>(by cases h),fun h=>by have:=(hS h).1;omega⟩⟩
  have hrn:(row.length:Int)=ll.n:=by omega
  refine LoopOb.mk (Y:=Nat) (st:=fun j=>⟨[(6,i64 j),(5,i64 i),(2, .ptr 0 0),(1, .psl 1 (dls d))],[.box [.psl 1 (strs n.nm), .psl 5 (lns n.ln), .psl 8 (fls n.fl)]]⟩)
   (inv:=fun j=>j≤row.length∧∀k,k<j→-1≤row.getD k 0∧row.getD k 0≤400) (fun j=>row.length-j) 0 [0] ⟨by omega,by omega⟩ (by(exact aL)) ?_
  rintro j ⟨hj,hw⟩
  (repeat' (conv=>whnf);first|refine⟨i,_,rfl,hg,?_⟩|refine z1_Y3 ?_|fail);all_goals try (conv=>whnf)
  refine CondOb.mk (fun hlt2=>?_) (fun hlt2=>?_)
  ·have hjl:j<row.length:=by omega
   have hgr:=ints_get hjl
   have hS2:ShapeP n d→-1≤row.getD j 0∧row.getD j 0≤400:=fun h=>(hS h).2 j hjl
   have hst2: -1≤row.getD j 0∧row.getD j 0≤400→∀k,k<j+1→-1≤row.getD k 0∧row.getD k 0≤400:=fun h k hk=>by
    by_cases e:k=j
    ·rw [e];exact h
    ·exact hw k (by omega)
   generalize row.getD j 0=x at*
   (repeat' (conv=>whnf);first|refine⟨j,_,rfl,hgr,?_⟩|refine⟨i,_,rfl,hg,?_⟩|refine aC ?_ ?_<;>intro<;>try omega|refine z1_Y3 ?_|fail);all_goals try (conv=>whnf)
   all_goals first
    |exact⟨j+1,[0],⟨by omega,hst2 (by omega)⟩,by omega,by(exact aL)⟩
    |exact⟨rfl,Imp.bl ⟨fun h=>(by cases h),fun h=>by have:=hS2 h;omega⟩⟩
    |trace_state
  ·have e:j=row.length:=by omega
   subst e
   obtain⟨s1,s2⟩:=hst hrn hw
   (repeat' (conv=>whnf);first|refine aC ?_ ?_<;>intro<;>try omega|refine z1_Y3 ?_|fail);all_goals try (conv=>whnf)
   exact⟨i+1,[0],⟨by omega,s1,s2⟩,by omega,by(exact aL)⟩
 ·have e:i=d.length:=by omega
  subst e
  (repeat' (conv=>whnf);first|refine aC ?_ ?_<;>intro<;>try omega|refine z1_Y3 ?_|fail);all_goals try (conv=>whnf)
  exact⟨rfl,Imp.bl ⟨fun _=>⟨hc,hl,hv1,hv2⟩,fun _=>rfl⟩⟩
end
section
open Go.Sx Go.Pk Go.Mc Go.Np Go.Tp
theorem RDel_ok (n:Nt) (hn:NL n) (p:List Pk) (hp:p.length≤9223372036854775807) (hT:∀i,i<p.length→-1000000≤(p.getD i pk0).t ∧(p.getD i pk0).t ≤1000000) (ms:List (List Int)) (hm:MsL ms) (k h:Int):Ctr Tryz.prog 33 [ntv n, .psl 3 (pks p), .agg [.psl 1 (trs ms)],i64 k,i64 h] [] (fun r o=>o=[]∧r=arrT (delO n p (dR ms) k h)):=by
 refine fI 0 Tryz.func33 ?_
 have htl:=trs_len ms
 have hml:=hm.l
 have cA:=RArr_ok n hn p hp ms hm k h
 cases ha:arO n p (dR ms) k h with
 |none=>
  have e:delO n p (dR ms) k h=none:=by unfold delO;rw [ha]
  rw [ha]at cA
  rw [e]
  simp only [arrT]at cA⊢
  (repeat' (conv=>whnf);first|refine aC ?_ ?_<;>intro<;>try omega|refine z2_T1 ?_|(refine aK [] (cA) ?_)|fail);all_goals try (conv=>whnf)
  all_goals exact⟨rfl,rfl⟩
 |some a=>
  obtain⟨b1,b2,b3,b4,b5⟩:=arO_bd hT hm ha
  obtain⟨k,rfl⟩:∃m:Nat,k=m:=⟨k.toNat,by omega⟩
  obtain⟨h,rfl⟩:∃m:Nat,h=m:=⟨h.toNat,by omega⟩
  rw [ha]at cA
  have hnone:dR ms k h<0→delO n p (dR ms) k h=none:=fun c=>by
   unfold delO;rw [ha,show dnO (dR ms) k h=none from if_pos (.inr (.inr c))]
  have hsome:¬dR ms k h<0→delO n p (dR ms) k h=some (dR ms k h-a):=fun c=>by
   unfold delO;rw [ha,show dnO (dR ms) k h=some (dR ms k h)from if_neg (by simp only [Int.toNat_natCast];omega)]
  have hbd:=fun d=>dnO_bd (d:=d) hm (k:=k) (h:=h)
  simp only [arrT]at cA
  by_cases h1:k<ms.length
  ·have hgt:=trs_get (ms:=ms) (i:=k) h1
   have hrl:=hm.r k
   have hro:=fun j=>dR_out (ms:=ms) (i:=k) (j:=j)
   have hri:=fun j=>dR_in (ms:=ms) (i:=k) (j:=j)
   generalize ms.getD k []=row at*
   have hil:=ints_len row
   by_cases h2:h<row.length
   ·have hgv:=ints_get (l:=row) (j:=h) h2
    rw [hri _ h2]at hgv
    have hb2:0≤dR ms k h→dR ms k h≤4611686018427387904:=fun c=>(hbd (dR ms k h) (if_neg (by simp only [Int.toNat_natCast];omega))).2
    generalize dR ms k h=v at*
    (repeat' (conv=>whnf);first|refine⟨h,_,rfl,hgv,?_⟩|refine⟨k,_,rfl,hgt,?_⟩|refine aC ?_ ?_<;>intro<;>try omega|refine z2_T1 ?_|(refine aK [] (cA) ?_)|fail);all_goals try (conv=>whnf)
    all_goals first
     |exact⟨rfl,by rw [hnone (by omega)];rfl⟩
     |exact⟨rfl,by rw [hsome (by omega)];rfl⟩
     |trace_state
   ·have e:=hnone (by rw [hro _ (.inr (by omega))];omega)
    rw [e]
    (repeat' (conv=>whnf);first|refine⟨k,_,rfl,hgt,?_⟩|refine aC ?_ ?_<;>intro<;>try omega|refine z2_T1 ?_|(refine aK [] (cA) ?_)|fail);all_goals try (conv=>whnf)
    all_goals exact⟨rfl,rfl⟩
  ·have e:=hnone (by rw [dR_out (.inl (by omega))];omega)
   rw [e]
   (repeat' (conv=>whnf);first|refine aC ?_ ?_<;>intro<;>try omega|refine z2_T1 ?_|(refine aK [] (cA) ?_)|fail);all_goals try (conv=>whnf)
   all_goals exact⟨rfl,rfl⟩
theorem z2_O10 {G H:Prop} (k:H) (h:H→G:=by first|exact fun r=>aS r|exact fun r=>aG r|exact fun r=>aD r|exact fun r=>aH r|exact fun r=>aP_T1 r|exact fun r=>aI r|exact fun r=>aJ r|exact fun r=>aW (.qs [0,1,2,3,4,5,6,7,8,9,10,11,12] .nil) r):G:=h k
theorem RHEnd_ok (n:Nt) (hn:NL n) (d:List (List Int)) (hd:DL d) (hS:ShapeP n d) (f:Int):Ctr Tryz.prog 83 [ntv n, .psl 1 (dls d),i64 f] [] (fun r o=>o=[]∧r=arrT (endO n d f)):=by
 refine fI 0 Tryz.func83 ?_
 have hfl:=fll n.fl
 have hnf:=hn.fl
 have hdl:=dls_len d
 have hd1:=hd.l
 by_cases hf:0≤f∧f<n.fl.length
 ·obtain⟨j,rfl⟩:=Int.eq_ofNat_of_zero_le hf.1
  have hj:j<n.fl.length:=by omega
  have hfg:=flg (l:=n.fl) (i:=j) hj
  have hRt:=chk_fl hS.c j hj
  have heo:endO n d j=match bef d (n.fl.getD j fl0) (n.fl.getD j fl0).rt.length with
    |none=>none
    |some s=>some ((n.fl.getD j fl0).rt.length -1+(s:Int)):=by
   unfold endO;rw [if_pos hf,Int.toNat_natCast];rfl
  have hbl:=fun i s hi hs=>bef_le hS hRt (i:=i) (s:=s) hi hs
  have hdy:=fun i hi=>hS.dly hRt (i:=i) hi
  have hrb:=hRt.b
  have hrc:=hRt.c
  have r4:=hRt.l2
  have r1:=hRt.l1
  clear hRt
  generalize n.fl.getD j fl0=w at*
  have hrl:=ints_len w.rt
  (repeat' (conv=>whnf);first|refine⟨j,_,rfl,hfg,?_⟩|refine aC ?_ ?_<;>intro<;>try omega|refine z2_O10 ?_|(refine aK [] (rShape_ok n hn d hd) ?_)|fail);all_goals try (conv=>whnf)
  ·exact absurd hS (by assumption)
  refine LoopOb.mk (Y:=Nat×Nat) (st:=fun y=>⟨[(10,i64 y.1),(9,i64 ((w.rt.length:Int)-1+y.2)),(8, .ptr 1 0),(1, .psl 1 (dls d))],[nbx n, .box (flv w)]⟩)
   (inv:=fun y=>y.1≤w.rt.length∧bef d w y.1=some y.2) (fun y=>w.rt.length-y.1) (0,0) [0,1] ⟨Nat.zero_le _,rfl⟩ (by dsimp only;rw [←hrl];(exact aL)) ?_
  rintro⟨i,s⟩ ⟨hi,hs⟩
  dsimp only at hi hs⊢
  have hb:=hbl i s hi hs
  by_cases hil:i<w.rt.length
  ·obtain⟨d1,d2,d3,d4⟩:=hdy i hil
   have b1:=hrb i hil
   have c1:=hrc i hil
   have grt:=ints_get (l:=w.rt) (j:=i) hil
   have gdl:=dls_get (d:=d) (i:=(w.rt.getD i 0).toNat) d1
   have gdd:=ints_get (l:=d.getD (w.rt.getD i 0).toNat []) (j:=w.cl.toNat) d2
   have hil2:=ints_len (d.getD (w.rt.getD i 0).toNat [])
   have hbn:bef d w (i+1)=if dly d w i<0 then none else some (s+(dly d w i).toNat):=by simp only [Np.bef,hs]
   have hrw:=hd.r (w.rt.getD i 0).toNat
   unfold dly at hbn d3 d4
   generalize w.rt.getD i 0=v at*
   generalize d.getD v.toNat []=row at*
   generalize row.getD w.cl.toNat 0=z at*
   (repeat' (conv=>whnf);first|refine⟨w.cl.toNat,_,by omega,gdd,?_⟩|refine⟨v.toNat,_,by omega,gdl,?_⟩|refine⟨i,_,rfl,grt,?_⟩|refine aC ?_ ?_<;>intro<;>try omega|refine z2_O10 ?_|fail);all_goals try (conv=>whnf)
   ·rw [if_pos (by assumption)]at hbn
    exact⟨rfl,by rw [heo,bef_none hbn (by omega)];rfl⟩
   ·rw [if_neg (by assumption)]at hbn
    exact⟨(i+1,s+z.toNat),[0,1],⟨by dsimp only;omega,hbn⟩,by dsimp only;omega,by dsimp only;rw [show(w.rt.length:Int)-1+((s+z.toNat:Nat):Int)=(w.rt.length:Int)-1+(s:Int)+z by omega];(exact aL)⟩
  ·obtain rfl:i=w.rt.length:=by omega
   (repeat' (conv=>whnf);first|refine aC ?_ ?_<;>intro<;>try omega|refine z2_O10 ?_|fail);all_goals try (conv=>whnf)
   exact⟨rfl,by rw [heo,hs];rfl⟩
 ·have heo:endO n d f=none:=if_neg hf
  rw [heo]
  (repeat' (conv=>whnf);first|refine aC ?_ ?_<;>intro<;>try omega|refine z2_O10 ?_|(refine aK [] (rShape_ok n hn d hd) ?_)|fail);all_goals try (conv=>whnf)
  all_goals exact⟨rfl,rfl⟩
theorem z3_O10 {G H:Prop} (k:H) (h:H→G:=by first|exact fun r=>aS r|exact fun r=>aG r|exact fun r=>aD r|exact fun r=>aH r|exact fun r=>aP_T1 r|exact fun r=>aI r|exact fun r=>aJ r|exact fun r=>aW (.qs [0,1,2,3,4,5,6,7,8,9,10,11,12,13,14,15,16,17,18,19,20,21,22,23,24,25,26,27,28,29,30,31,32,33] .nil) r|exact fun r=>aW (.qs [0,1,2,3,4,5,6,7,8,9,10,11,12] .nil) r|exact fun r=>aW (.qs [0,1,2,3,4,5,6,7,8,9,10,11,12,13,14,15] .nil) r):G:=h k
theorem REnd_ok (n:Nt) (hn:NL n) (p:List Pk) (h:SkP n p) (ms:List (List Int)) (hm:MsL ms) (k:Int):Ctr Tryz.prog 31 [ntv n, .psl 3 (pks p), .agg [.psl 1 (trs ms)],i64 k] [] (fun r o=>o=[]∧r=arrT (enO n p (dR ms) k)):=by
 refine fI 0 Tryz.func31 ?_
 have h60:=h.l
 have hpl:=pks_len p
 have hfl:=fll n.fl
 have htl:=trs_len ms
 have hml:=hm.l
 by_cases hk:k<0∨(p.length:Int)≤k
 ·have e:enO n p (dR ms) k=none:=if_pos hk
  rw [e]
  (repeat' (conv=>whnf);first|refine aC ?_ ?_<;>intro<;>try omega|refine z3_O10 ?_|fail);all_goals try (conv=>whnf)
  all_goals exact⟨rfl,rfl⟩
 ·obtain⟨k,rfl⟩:∃k':Nat,k=k':=⟨k.toNat,by omega⟩
  have hkl:k<p.length:=by omega
  rw [enO_in h hkl]
  have hg:=pks_get hkl
  obtain⟨f1,f2,t1,t2,hRt,_⟩:=h.fl hkl
  have hfg:=flg (l:=n.fl) (i:=(p.getD k pk0).f.toNat) (by omega)
  have r4:=hRt.l2
  have r1:=hRt.l1
  have hrl:=ints_len (pfl n (p.getD k pk0)).rt
  unfold pfl at*
  generalize n.fl.getD (p.getD k pk0).f.toNat fl0=fw at*
  generalize p.getD k pk0=x at*
  obtain⟨m,hm1⟩:∃m:Nat,fw.rt.length=m+1:=⟨fw.rt.length-1,by omega⟩
  have hm2:((fw.rt.length:Int)-1)=(m:Nat):=by omega
  rw [hm2]
  have hbd:=fun d=>dnO_bd (d:=d) hm (k:=k) (h:=m)
  have hnone:dR ms k m<0→dnO (dR ms) k m=none:=fun c=>if_pos (.inr (.inr c))
  have hsome:¬dR ms k m<0→dnO (dR ms) k m=some (dR ms k m):=fun c=>if_neg (by simp only [Int.toNat_natCast];omega)
  by_cases h1:k<ms.length
  ·have hgt:=trs_get (ms:=ms) (i:=k) h1
   have hrl2:=hm.r k
   have hro:=fun j=>dR_out (ms:=ms) (i:=k) (j:=j)
   have hri:=fun j=>dR_in (ms:=ms) (i:=k) (j:=j)
   generalize ms.getD k []=row at*
   have hil:=ints_len row
   by_cases h2:m<row.length
   ·have hgv:=ints_get (l:=row) (j:=m) h2
    rw [hri _ h2]at hgv
    have hb2:0≤dR ms k m→dR ms k m≤4611686018427387904:=fun c=>(hbd (dR ms k m) (hsome (by omega))).2
    generalize dR ms k m=v at*
    (repeat' (conv=>whnf);first|refine⟨m,_,by omega,hgv,?_⟩|refine⟨k,_,rfl,hgt,?_⟩|refine⟨x.f.toNat,_,by omega,hfg,?_⟩|refine⟨k,_,rfl,hg,?_⟩|refine aC ?_ ?_<;>intro<;>try omega|refine z3_O10 ?_|fail);all_goals try (conv=>whnf)
    all_goals first
     |exact⟨rfl,by rw [hnone (by omega)];rfl⟩
     |exact⟨rfl,by rw [hsome (by omega)];rfl⟩
     |trace_state
   ·have e:=hnone (by rw [hro _ (.inr (by omega))];omega)
    rw [e]
    (repeat' (conv=>whnf);first|refine⟨k,_,rfl,hgt,?_⟩|refine⟨x.f.toNat,_,by omega,hfg,?_⟩|refine⟨k,_,rfl,hg,?_⟩|refine aC ?_ ?_<;>intro<;>try omega|refine z3_O10 ?_|fail);all_goals try (conv=>whnf)
    all_goals exact⟨rfl,rfl⟩
  ·have e:=hnone (by rw [dR_out (.inl (by omega))];omega)
   rw [e]
   (repeat' (conv=>whnf);first|refine⟨k,_,rfl,hg,?_⟩|refine aC ?_ ?_<;>intro<;>try omega|refine z3_O10 ?_|fail);all_goals try (conv=>whnf)
   all_goals exact⟨rfl,rfl⟩
end
end Go.Proofs.YtaomhdljcdadaaaGreat
