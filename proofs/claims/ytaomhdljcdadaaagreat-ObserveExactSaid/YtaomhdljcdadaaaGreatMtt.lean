/- Lemmas of this seat. Conditions: as stated. -/
import Derived.Test.YtaomhdljcdadaaaGreatS8
import Derived.Test.YtaomhdljcdadaaaGreatNd
import Derived.Test.YtaomhdljcdadaaaGreatN9
set_option linter.unusedVariables false
set_option linter.unusedSimpArgs false
set_option maxHeartbeats 2000000
set_option maxRecDepth 4000
section
namespace Go.Mc
open Go.Pk Go.Np
structure RtG (n:Nt) (f:Fl):Prop where
 l1:1≤f.rt.length
 l2:f.rt.length≤4
 b:∀i,i<f.rt.length→0≤f.rt.getD i 0∧f.rt.getD i 0<n.ln.length
 d:∀i j,i<j→j<f.rt.length→f.rt.getD i 0≠f.rt.getD j 0
 c:∀i,i<f.rt.length→0≤f.cl∧f.cl<(n.ln.getD (f.rt.getD i 0).toNat ln0).n
 s1:1≤f.lo
 s2:f.hi≤1500
theorem mem_takeG {l:List Int} {i j:Nat} (h1:j<i) (h2:j<l.length):l.getD j 0∈l.take i:=by
 rw [List.mem_iff_getElem]
 refine⟨j,by rw [List.length_take];omega,?_⟩
 rw [List.getElem_take]
 simp [List.getD_eq_getElem?_getD,h2]
theorem chk_rt {n:Nt} (h:chkN n=0) {j:Nat} (hj:j<n.fl.length):RtG n (n.fl.getD j fl0):=by
 have h1:=(chkN_zero h).2.2.2 j hj
 unfold flowE at h1
 generalize n.fl.getD j fl0=f at*
 split at h1
 ·exact absurd h1 (by assumption)
 ·split at h1
  ·exact absurd h1 (by assumption)
  ·rename_i _ h2
   have hs:1≤f.lo∧f.hi≤1500:=by
    unfold trafE at h1
    split at h1
    ·cases h1
    ·omega
   have h:routeE n.ln f=0:=by omega
   unfold routeE at h
   split at h
   ·omega
   ·split at h
    ·omega
    ·rename_i h1 h2
     have hz:=firstE_zero h
     have key:∀i,i<f.rt.length→(0≤f.rt.getD i 0∧f.rt.getD i 0<n.ln.length)∧f.rt.getD i 0∉f.rt.take i∧0≤f.cl∧f.cl<(n.ln.getD (f.rt.getD i 0).toNat ln0).n :=by
      intro i hi
      have h3:=hz i hi
      unfold hopE at h3
      split at h3
      ·omega
      ·split at h3
       ·omega
       ·split at h3
        ·omega
        ·exact⟨by omega,by assumption,by omega,by omega⟩
     refine⟨by omega,by omega,fun i hi=>(key i hi).1,fun i j hij hj e=>?_,fun i hi=>(key i hi).2.2,hs.1,hs.2⟩
     have:=(key j hj).2.1
     rw [←e]at this
     exact this (mem_takeG hij (by omega))
theorem chk_ln {n:Nt} (h:chkN n=0) {j:Nat} (hj:j<n.ln.length):lnErr (n.ln.getD j ln0)=0:=by
 have h1:=(chkN_zero h).2.2.1 j hj
 unfold lineE at h1
 split at h1
 ·exact absurd h1 (by assumption)
 ·exact h1
theorem chk_n {n:Nt} (h:chkN n=0):n.ln.length≤8∧n.fl.length≤10:=by
 have h1:=(chkN_zero h).1
 omega
theorem SkP.fl {n:Nt} {p:List Pk} (h:SkP n p) {i:Nat} (hi:i<p.length):0≤(p.getD i pk0).f ∧(p.getD i pk0).f <n.fl.length∧0≤(p.getD i pk0).t ∧(p.getD i pk0).t ≤380∧RtG n (pfl n (p.getD i pk0))∧(pfl n (p.getD i pk0)).lo ≤(p.getD i pk0).s ∧(p.getD i pk0).s ≤(pfl n (p.getD i pk0)).hi :=by
 have h1:=h.g i hi
 unfold bdP at h1
 refine⟨by omega,by omega,by omega,by omega,chk_rt h.h (by omega),by omega,by omega⟩
theorem SkP.rt {n:Nt} {p:List Pk} (h:SkP n p):RtP n p:=by
 refine⟨fun i hi=>⟨(h.fl hi).1,(h.fl hi).2.1⟩,fun i hi x hx=>?_⟩
 obtain⟨_,_,_,_,hG,_⟩:=h.fl hi
 obtain⟨j,hj,rfl⟩:=List.mem_iff_getElem.1 hx
 have:=(hG.b j hj).1
 rw [List.getD_eq_getElem?_getD,List.getElem?_eq_getElem hj]at this
 exact this
theorem SkP.lnn {n:Nt} {p:List Pk} (h:SkP n p) {i k:Nat} (hi:i<p.length) (hk:k<((toF n p).rt i).length):((lin (toF n p) i k:Nat):Int)=(pfl n (p.getD i pk0)).rt.getD k 0∧lin (toF n p) i k<n.ln.length:=by
 obtain⟨_,_,_,_,hG,_⟩:=h.fl hi
 have hk2:k<(pfl n (p.getD i pk0)).rt.length :=by simpa [toF]using hk
 have hb:=hG.b k hk2
 have e:lin (toF n p) i k=((pfl n (p.getD i pk0)).rt.getD k 0).toNat :=by
  show((pfl n (p.getD i pk0)).rt.map Int.toNat).getD k 0=_
  generalize (pfl n (p.getD i pk0)).rt =r at hk2⊢
  rw [List.getD_eq_getElem?_getD,List.getElem?_map,List.getD_eq_getElem?_getD,List.getElem?_eq_getElem hk2];rfl
 rw [e];omega
theorem SkP.rts {n:Nt} {p:List Pk} (h:SkP n p):Rts (toF n p):=by
 intro i hi
 obtain⟨_,_,_,_,hG,_⟩:=h.fl hi
 show((pfl n (p.getD i pk0)).rt.map Int.toNat).Nodup
 generalize pfl n (p.getD i pk0)=f at hG
 refine List.pairwise_iff_getElem.2 fun a b ha hb hab=>?_
 rw [List.length_map]at hb
 rw [List.getElem_map,List.getElem_map]
 have h1:=hG.b a (by omega)
 have h2:=hG.b b hb
 have h3:=hG.d a b hab hb
 rw [List.getD_eq_getElem?_getD,List.getElem?_eq_getElem (Nat.lt_trans hab hb)]at h1 h3
 rw [List.getD_eq_getElem?_getD,List.getElem?_eq_getElem hb]at h2 h3
 simp only [Option.getD_some,ne_eq]at*
 omega
theorem SkP.qu {n:Nt} {p:List Pk} (h:SkP n p) {D:Tp} {N:Nat} (hN:N≤2000) (hb:∀i k,i<p.length→k<((toF n p).rt i).length →D i k<N) {l:Nat} {x:Wt} (hx:x∈qu (toF n p) D l):
  x.i<p.length∧1≤(p.getD x.i pk0).s ∧(p.getD x.i pk0).s ≤1500∧0≤x.a∧x.a≤2000∧0≤(pfl n (p.getD x.i pk0)).cl ∧(pfl n (p.getD x.i pk0)).cl <(n.ln.getD l ln0).n ∧(∃k,hp (toF n p) l x.i=some k):=by
 obtain⟨h1,⟨k,h2,h3⟩,h4⟩:=((qu_ok (toF n p) D l).m x).1 hx
 have h1:x.i<p.length:=h1
 obtain⟨_,_,t1,t2,hG,s1,s2⟩:=h.fl h1
 obtain⟨k1,k2⟩:=hp_some h2
 have k3:k<(pfl n (p.getD x.i pk0)).rt.length :=by simpa [toF]using k1
 have hc:=hG.c k k3
 have hl:=(h.lnn h1 k1).1
 rw [k2]at hl
 rw [←hl,Int.toNat_natCast]at hc
 have ha:0≤x.a∧x.a≤2000:=by
  unfold arr at h3
  split at h3
  ·have e:(p.getD x.i pk0).t =x.a:=Option.some.inj h3
   omega
  ·split at h3
   ·rename_i hk0 hall
    have e:D x.i (k-1)+1=x.a:=Option.some.inj h3
    have:=hall (k-1) (by omega)
    have:=hb x.i (k-1) h1 (by omega)
    omega
   ·cases h3
 have:=hG.s1;have:=hG.s2
 exact⟨h1,by omega,by omega,ha.1,ha.2,hc.1,hc.2,k,h2⟩
theorem qu_len (n:Nt) (p:List Pk) (D:Tp) (l:Nat):(qu (toF n p) D l).length ≤p.length:=by
 have:=quL_len (n:=n) (p:=p) (D:=D) (l:=l) p.length
 rw [quL_nat]at this
 exact this
def inQ (q:List Wt) (i:Nat):Bool:=q.any fun x=>decide (x.i=i)
theorem inQ_iff {q:List Wt} {i:Nat}:inQ q i=true↔∃x∈q,x.i=i:=by simp [inQ]
theorem inQ_take {q:List Wt} {k:Nat} (hk:k<q.length) (i:Nat):inQ (q.take (k+1)) i=(inQ (q.take k) i||decide (q[k].i =i)):=by
 unfold inQ
 rw [List.take_succ_eq_append_getElem hk,List.any_append]
 simp
theorem Qu.fresh {F:Tf} {D:Tp} {l:Nat} {q:List Wt} (h:Qu F D l q) {k:Nat} (hk:k<q.length):inQ (q.take k) q[k].i =false:=by
 cases hb:inQ (q.take k) q[k].i with
 |false=>rfl
 |true=>
  obtain⟨x,hx,e⟩:=inQ_iff.1 hb
  obtain⟨j,hj,rfl⟩:=List.mem_iff_getElem.1 hx
  rw [List.length_take]at hj
  rw [List.getElem_take]at e
  have:=h.inj (by omega) hk e
  omega
theorem pas_out {F:Tf} {Z:Li} {N l i:Nat} {D:Tp} {q:List Wt} (h:Qu F D l q) (hi:inQ q i=false):pas F Z N D l i= -1:=by
 have e:=h.uniq (qu_ok F D l)
 subst e
 unfold pas
 rw [plc_none.2 fun x hx e=>?_]
 have:inQ (qu F D l) i=true:=inQ_iff.2 ⟨x,hx,e⟩
 rw [hi]at this;cases this
end Go.Mc
end
namespace Go.Proofs.YtaomhdljcdadaaaGreat
section
open Go.Sx Go.Pk Go.Mc Go.Np
def dnO (D:Tp) (k h:Int):Option Int:=if k<0∨h<0∨D k.toNat h.toNat<0 then none else some (D k.toNat h.toNat)
def delO (n:Nt) (p:List Pk) (D:Tp) (k h:Int):Option Int:=match arO n p D k h with
 |none=>none
 |some a=>match dnO D k h with
  |none=>none
  |some d=>some (d-a)
def enO (n:Nt) (p:List Pk) (D:Tp) (k:Int):Option Int:=if k<0∨(p.length:Int)≤k then none else match dnO D k (hps n p k-1)with
 |none=>none
 |some d=>some (d-(p.getD k.toNat pk0).t)
theorem dR_out {ms:List (List Int)} {i j:Nat} (h:ms.length≤i∨(ms.getD i []).length ≤j):dR ms i j= -1:=by
 unfold dR
 rcases h with h|h
 ·rw [List.getD_eq_getElem?_getD (l:=ms),List.getElem?_eq_none h];simp
 ·rw [List.getD_eq_getElem?_getD,List.getElem?_eq_none h];rfl
theorem dR_in {ms:List (List Int)} {i j:Nat} (h:j<(ms.getD i []).length):(ms.getD i []).getD j 0=dR ms i j:=getD_dflt h
theorem ODone_ok (ms:List (List Int)) (hm:MsL ms) (k h:Int):Ctr Tryz.prog 62 [.agg [.psl 1 (trs ms)],i64 k,i64 h] [] (fun r o=>o=[]∧r=arrT (dnO (dR ms) k h)):=by
 refine fI 0 Tryz.func62 ?_
 have htl:=trs_len ms
 have hml:=hm.l
 have hnone:(k<0∨h<0∨dR ms k.toNat h.toNat<0)→dnO (dR ms) k h=none:=fun c=>if_pos c
 have hsome:¬(k<0∨h<0∨dR ms k.toNat h.toNat<0)→dnO (dR ms) k h=some (dR ms k.toNat h.toNat):=fun c=>if_neg c
 by_cases h1:k<0∨(ms.length:Int)≤k
 ·rw [hnone (h1.elim .inl fun c=> .inr (.inr (by rw [dR_out (.inl (by omega))];omega)))]
  (repeat' (conv=>whnf);first|refine aC ?_ ?_<;>intro<;>try omega|refine z2_T1 ?_|fail);all_goals try (conv=>whnf)
  all_goals exact⟨rfl,rfl⟩
 have hgt:=trs_get (ms:=ms) (i:=k.toNat) (by omega)
 have hrl:=hm.r k.toNat
 have hrv:=hm.v k.toNat
 have hro:=fun j=>dR_out (ms:=ms) (i:=k.toNat) (j:=j)
 have hri:=fun j=>dR_in (ms:=ms) (i:=k.toNat) (j:=j)
 generalize ms.getD k.toNat []=row at*
 have hil:=ints_len row
 by_cases h2:h<0∨(row.length:Int)≤h
 ·rw [hnone (h2.elim (fun c=> .inr (.inl c)) fun c=> .inr (.inr (by rw [hro _ (.inr (by omega))];omega)))]
  (repeat' (conv=>whnf);first|refine⟨k.toNat,_,by omega,hgt,?_⟩|refine aC ?_ ?_<;>intro<;>try omega|refine z2_T1 ?_|fail);all_goals try (conv=>whnf)
  all_goals exact⟨rfl,rfl⟩
 have hgv:=ints_get (l:=row) (j:=h.toNat) (by omega)
 rw [hri _ (by omega)]at hgv
 generalize dR ms k.toNat h.toNat=v at*
 (repeat' (conv=>whnf);first|refine⟨h.toNat,_,by omega,hgv,?_⟩|refine⟨k.toNat,_,by omega,hgt,?_⟩|refine aC ?_ ?_<;>intro<;>try omega|refine z2_T1 ?_|fail);all_goals try (conv=>whnf)
 all_goals first
  |exact⟨rfl,by rw [hnone (by omega)];rfl⟩
  |exact⟨rfl,by rw [hsome (by omega)];rfl⟩
theorem arO_bd {n:Nt} {p:List Pk} (hT:∀i,i<p.length→-1000000≤(p.getD i pk0).t ∧(p.getD i pk0).t ≤1000000) {ms:List (List Int)} (hm:MsL ms) {k h a:Int} (e:arO n p (dR ms) k h=some a): -1000000≤a∧a≤4611686018427387905∧0≤k∧k<p.length∧0≤h:=by
 have hk:¬(h<0∨hps n p k≤h):=fun c=>by rw [arO_neg c]at e;cases e
 have hkk:0≤k∧k<p.length:=by
  unfold hps at hk
  split at hk<;>omega
 by_cases h0:h=0
 ·subst h0
  rw [arO_zero hk]at e
  injection e with e
  have:=hT k.toNat (by omega)
  omega
 ·rw [arO_pos hk h0]at e
  split at e
  ·rename_i hall
   injection e with e
   have h1:=hall (h.toNat-1) (by omega)
   have h2:dR ms k.toNat (h.toNat-1)≤4611686018427387904:=by
    by_cases c:h.toNat-1<(ms.getD k.toNat []).length
    ·rw [←dR_in c];exact(hm.v _ _).2
    ·rw [dR_out (.inr (by omega))];omega
   omega
  ·cases e
theorem dnO_bd {ms:List (List Int)} (hm:MsL ms) {k h d:Int} (e:dnO (dR ms) k h=some d):0≤d∧d≤4611686018427387904:=by
 unfold dnO at e
 split at e
 ·cases e
 ·rename_i hn
  injection e with e
  by_cases c:h.toNat<(ms.getD k.toNat []).length
  ·rw [←dR_in c]at e;have:=hm.v k.toNat h.toNat;rw [dR_in c]at e this;omega
  ·have:=dR_out (ms:=ms) (i:=k.toNat) (j:=h.toNat) (.inr (by omega));omega
theorem ODel_ok (n:Nt) (hn:NL n) (p:List Pk) (hp:p.length≤9223372036854775807) (hT:∀i,i<p.length→-1000000≤(p.getD i pk0).t ∧(p.getD i pk0).t ≤1000000) (ms:List (List Int)) (hm:MsL ms) (k h:Int):Ctr Tryz.prog 17 [ntv n, .psl 3 (pks p), .agg [.psl 1 (trs ms)],i64 k,i64 h] [] (fun r o=>o=[]∧r=arrT (delO n p (dR ms) k h)):=by
 refine fI 0 Tryz.func17 ?_
 (repeat' (conv=>whnf);first|refine aC ?_ ?_<;>intro<;>try omega|refine z2_T1 ?_|fail);all_goals try (conv=>whnf)
 refine aK [] (Arr_ok n hn p hp ms hm k h) ?_
 unfold delO
 cases ha:arO n p (dR ms) k h with
 |none=>
  simp only [arrT]
  (repeat' (conv=>whnf);first|refine aC ?_ ?_<;>intro<;>try omega|refine z2_T1 ?_|fail);all_goals try (conv=>whnf)
  refine aK [] (ODone_ok ms hm k h) ?_
  cases dnO (dR ms) k h with
  |none=>
   simp only [arrT]
   (repeat' (conv=>whnf);first|refine aC ?_ ?_<;>intro<;>try omega|refine z2_T1 ?_|fail);all_goals try (conv=>whnf)
   exact⟨rfl,rfl⟩
  |some d=>
   simp only [arrT]
   (repeat' (conv=>whnf);first|refine aC ?_ ?_<;>intro<;>try omega|refine z2_T1 ?_|fail);all_goals try (conv=>whnf)
   exact⟨rfl,rfl⟩
 |some a=>
  simp only [arrT]
  have hb:=arO_bd hT hm ha
  (repeat' (conv=>whnf);first|refine aC ?_ ?_<;>intro<;>try omega|refine z2_T1 ?_|fail);all_goals try (conv=>whnf)
  refine aK [] (ODone_ok ms hm k h) ?_
  cases hd:dnO (dR ms) k h with
  |none=>
   simp only [arrT]
   (repeat' (conv=>whnf);first|refine aC ?_ ?_<;>intro<;>try omega|refine z2_T1 ?_|fail);all_goals try (conv=>whnf)
   exact⟨rfl,rfl⟩
  |some d=>
   simp only [arrT]
   have hb2:=dnO_bd hm hd
   (repeat' (conv=>whnf);first|refine aC ?_ ?_<;>intro<;>try omega|refine z2_T1 ?_|fail);all_goals try (conv=>whnf)
   exact⟨rfl,rfl⟩
theorem z2_O1 {G H:Prop} (k:H) (h:H→G:=by first|exact fun r=>aS r|exact fun r=>aG r|exact fun r=>aD r|exact fun r=>aH r|exact fun r=>aP_T1 r|exact fun r=>aI r|exact fun r=>aJ r|exact fun r=>aW (.qs [0,1,2,3,4,5,6,7,8,9,10,11,12,13,14,15,16,17,18,19,20,21,22,23,24,25,26] .nil) r|exact fun r=>aW (.qs [0,1,2,3,4,5,6,7,8,9,10] .nil) r):G:=h k
theorem ORouO_ok (n:Nt) (hn:NL n) (p:List Pk) (hp:p.length≤1000) (k:Int) (hk:k<0∨(p.length:Int)≤k):Ctr Tryz.prog 63 [ntv n, .psl 3 (pks p),i64 k] [] (fun r o=>o=[]∧r= .nil):=by
 refine fI 0 Tryz.func63 ?_
 have hpl:=pks_len p
 (repeat' (conv=>whnf);first|refine AsgOb.nil ?_|refine aC ?_ ?_<;>intro<;>try omega|refine z2_O1 ?_|fail);all_goals try (conv=>whnf)
 all_goals exact⟨rfl,rfl⟩
theorem ORouI_ok (n:Nt) (hn:NL n) (p:List Pk) (h:SkP n p) (k:Nat) (hk:k<p.length):Ctr Tryz.prog 63 [ntv n, .psl 3 (pks p),i64 k] [] (fun r o=>o=[]∧r= .psl 1 (ints (pfl n (p.getD k pk0)).rt)):=by
 refine fI 0 Tryz.func63 ?_
 have hpl:=pks_len p
 have hfl:=fll n.fl
 have hg:=pks_get hk
 obtain⟨f1,f2,_,_,hRt,_⟩:=h.fl hk
 have hfg:=flg (l:=n.fl) (i:=(p.getD k pk0).f.toNat) (by omega)
 unfold pfl
 generalize p.getD k pk0=x at*
 (repeat' (conv=>whnf);first|refine⟨x.f.toNat,_,by omega,hfg,?_⟩|refine⟨k,_,rfl,hg,?_⟩|refine AsgOb.nil ?_|refine aC ?_ ?_<;>intro<;>try omega|refine z2_O1 ?_|fail);all_goals try (conv=>whnf)
 exact⟨rfl,rfl⟩
theorem enO_in {n:Nt} {p:List Pk} (h:SkP n p) {D:Tp} {k:Nat} (hk:k<p.length):enO n p D k=match dnO D k (((pfl n (p.getD k pk0)).rt.length :Int)-1)with
  |none=>none
  |some d=>some (d-(p.getD k pk0).t):=by
 unfold enO hps
 obtain⟨f1,f2,_⟩:=h.fl hk
 rw [if_neg (by omega),if_neg (by simp only [Int.toNat_natCast];omega)]
 rfl
theorem z3_O1 {G H:Prop} (k:H) (h:H→G:=by first|exact fun r=>aS r|exact fun r=>aG r|exact fun r=>aD r|exact fun r=>aH r|exact fun r=>aP_T1 r|exact fun r=>aI r|exact fun r=>aJ r|exact fun r=>aW (.qs [0,1,2,3,4] (.l 5 [0] (.qs [6,7] (.l 8 [] (.qs [9,10,11,12,13] .nil) .no)) .no)) r):G:=h k
theorem OEnd_ok (n:Nt) (hn:NL n) (p:List Pk) (h:SkP n p) (ms:List (List Int)) (hm:MsL ms) (k:Int):Ctr Tryz.prog 18 [ntv n, .psl 3 (pks p), .agg [.psl 1 (trs ms)],i64 k] [] (fun r o=>o=[]∧r=arrT (enO n p (dR ms) k)):=by
 refine fI 0 Tryz.func18 ?_
 have h60:=h.l
 have hpl:=pks_len p
 by_cases hk:k<0∨(p.length:Int)≤k
 ·have e:enO n p (dR ms) k=none:=if_pos hk
  rw [e]
  (repeat' (conv=>whnf);first|refine aC ?_ ?_<;>intro<;>try omega|refine z3_O1 ?_|(refine aK [] (ORouO_ok n hn p (by omega) k hk) ?_)|(refine CallOb.mk [] (ODone_ok ms hm k (0-1)) rfl ⟨Imp.refl _,Imp.refl _,Imp.num (by omega),trivial⟩ rfl rfl ?_;rintro _ _ ⟨rfl,rfl⟩;rw [show dnO (dR ms) k (0-1)=none from if_pos (.inr (.inl (by omega)))];simp only [arrT])|fail);all_goals try (conv=>whnf)
  exact⟨rfl,rfl⟩
 ·obtain⟨k,rfl⟩:∃k':Nat,k=k':=⟨k.toNat,by omega⟩
  have hkl:k<p.length:=by omega
  rw [enO_in h hkl]
  have cR:=ORouI_ok n hn p h k hkl
  have hg:=pks_get hkl
  obtain⟨f1,f2,t1,t2,hRt,_⟩:=h.fl hkl
  have r4:=hRt.l2
  have hrl:=ints_len (pfl n (p.getD k pk0)).rt
  generalize (pfl n (p.getD k pk0)).rt =rt at*
  generalize p.getD k pk0=x at*
  have cD:=ODone_ok ms hm k ((rt.length:Int)-1)
  have hb:=fun d=>dnO_bd (d:=d) hm (k:=k) (h:=(rt.length:Int)-1)
  cases hd:dnO (dR ms) k ((rt.length:Int)-1)with
  |none=>
   rw [hd]at cD
   simp only [arrT]at cD
   (repeat' (conv=>whnf);first|refine aC ?_ ?_<;>intro<;>try omega|refine z3_O1 ?_|(refine aK [] cR ?_)|(refine CallOb.mk [] cD rfl ⟨Imp.refl _,Imp.refl _,Imp.num (by omega),trivial⟩ rfl rfl ?_;rintro _ _ ⟨rfl,rfl⟩)|fail);all_goals try (conv=>whnf)
   exact⟨rfl,rfl⟩
  |some d=>
   rw [hd]at cD
   have hb:=hb d hd
   simp only [arrT]at cD
   (repeat' (conv=>whnf);first|refine⟨k,_,rfl,hg,?_⟩|refine aC ?_ ?_<;>intro<;>try omega|refine z3_O1 ?_|(refine aK [] cR ?_)|(refine CallOb.mk [] cD rfl ⟨Imp.refl _,Imp.refl _,Imp.num (by omega),trivial⟩ rfl rfl ?_;rintro _ _ ⟨rfl,rfl⟩)|fail);all_goals try (conv=>whnf)
   exact⟨rfl,rfl⟩
end
section
open Go.Sx Go.Np Go.Cv
theorem idx_at {r:List Int} {l:Int}:∀{i:Nat},(∀j<i,¬r.getD j 0=l)→i<r.length→r.getD i 0=l→l∈r∧r.idxOf l=i:=by
 intro i hv hi e
 have hm:l∈r:=by rw [←e];exact getD_in hi
 refine⟨hm,?_⟩
 have h1:=List.idxOf_lt_length_of_mem hm
 have h2:r[r.idxOf l]=l:=List.getElem_idxOf h1
 have h3:r.getD (r.idxOf l) 0=l:=by rw [List.getD_eq_getElem?_getD,List.getElem?_eq_getElem h1,Option.getD_some];exact h2
 rcases Nat.lt_trichotomy (r.idxOf l) i with h|h|h
 ·exact absurd h3 (hv _ h)
 ·exact h
 ·have h4:r[i]=l:=by rw [←e,List.getD_eq_getElem?_getD,List.getElem?_eq_getElem hi,Option.getD_some]
  have:=List.not_of_lt_findIdx (p:=(· ==l)) (xs:=r) (i:=i) h
  simp [h4]at this
theorem Hop_ok (n:Nt) (hn:NL n) (f l:Int):Ctr Tryz.prog 65 [ntv n,i64 f,i64 l] [] (fun r o=>o=[]∧r=i64 (hop n f l)):=by
 refine fI 0 Tryz.func65 ?_
 have hfl:=fll n.fl
 have h3:=hn.fl
 (repeat' (conv=>whnf);first|refine aC ?_ ?_<;>intro<;>try omega|refine z2_T1 ?_|fail);all_goals try (conv=>whnf)
 ·exact⟨rfl,by unfold hop;rw [if_pos (by omega)];rfl⟩
 ·exact⟨rfl,by unfold hop;rw [if_pos (by omega)];rfl⟩
 have hil:f.toNat<n.fl.length:=by omega
 have hg:=flg hil
 have hL:=(hn.flat hil).rt
 have hE:hop n f l=if l∈(n.fl.getD f.toNat fl0).rt then(((n.fl.getD f.toNat fl0).rt.idxOf l:Nat):Int)else-1:=by unfold hop;rw [if_neg (by omega)]
 generalize hop n f l=E at*
 generalize n.fl.getD f.toNat fl0=g at*
 have hrl:=ints_len g.rt
 (repeat' (conv=>whnf);first|refine aC ?_ ?_<;>intro<;>try omega|refine z2_T1 ?_|refine⟨f.toNat,_,by omega,hg,?_⟩|fail);all_goals try (conv=>whnf)
 refine LoopOb.mk (Y:=Nat) (st:=fun i=>⟨[(25,i64 i),(24,i64 (ints g.rt).length),(23, .psl 1 (ints g.rt)),(2,i64 l)],[.box [.psl 1 (strs n.nm), .psl 5 (lns n.ln), .psl 8 (fls n.fl)]]⟩)
  (inv:=fun i=>i≤g.rt.length∧∀j<i,¬g.rt.getD j 0=l) (fun i=>g.rt.length-i) 0 [0] ⟨by omega,by omega⟩ (by(exact aL)) ?_
 rintro i ⟨hi,hv⟩
 (repeat' (conv=>whnf);first|refine z2_T1 ?_|refine⟨f.toNat,_,by omega,hg,?_⟩|fail);all_goals try (conv=>whnf)
 refine CondOb.mk (fun hlt=>?_) (fun hlt=>?_)
 ·have hst:¬g.rt.getD i 0=l→∀j<i+1,¬g.rt.getD j 0=l:=fun h j hj=>by
   by_cases e:j=i
   ·rw [e];exact h
   ·exact hv j (by omega)
  (repeat' (conv=>whnf);first|refine aC ?_ ?_<;>intro<;>try omega|refine z2_T1 ?_|refine⟨f.toNat,_,by omega,hg,?_⟩|fail);all_goals try (conv=>whnf)
  ·obtain⟨h1,h2⟩:=idx_at hv (by omega) (by assumption)
   exact⟨rfl,by rw [hE,if_pos h1,h2];rfl⟩
  ·exact⟨i+1,[0],⟨by omega,hst (by assumption)⟩,by omega,by(exact aL)⟩
 ·(repeat' (conv=>whnf);first|refine aC ?_ ?_<;>intro<;>try omega|refine z2_T1 ?_|fail);all_goals try (conv=>whnf)
  exact⟨rfl,by rw [hE,if_neg (idx_no fun j hj=>hv j (by omega))];rfl⟩
theorem rHop_ok (n:Nt) (hn:NL n) (f l:Int):Ctr Tryz.prog 21 [ntv n,i64 f,i64 l] [] (fun r o=>o=[]∧r=i64 (hop n f l)):=by
 refine fI 0 Tryz.func21 ?_
 have hfl:=fll n.fl
 have h3:=hn.fl
 (repeat' (conv=>whnf);first|refine aC ?_ ?_<;>intro<;>try omega|refine z2_T1 ?_|fail);all_goals try (conv=>whnf)
 ·exact⟨rfl,by unfold hop;rw [if_pos (by omega)];rfl⟩
 ·exact⟨rfl,by unfold hop;rw [if_pos (by omega)];rfl⟩
 have hil:f.toNat<n.fl.length:=by omega
 have hg:=flg hil
 have hL:=(hn.flat hil).rt
 have hE:hop n f l=if l∈(n.fl.getD f.toNat fl0).rt then(((n.fl.getD f.toNat fl0).rt.idxOf l:Nat):Int)else-1:=by unfold hop;rw [if_neg (by omega)]
 generalize hop n f l=E at*
 generalize n.fl.getD f.toNat fl0=g at*
 have hrl:=ints_len g.rt
 refine LoopOb.mk (Y:=Nat) (st:=fun i=>⟨[(7,i64 i),(3, .ptr 0 0),(1,i64 f),(2,i64 l)],[.box [.psl 1 (strs n.nm), .psl 5 (lns n.ln), .psl 8 (fls n.fl)]]⟩)
  (inv:=fun i=>i≤g.rt.length∧∀j<i,¬g.rt.getD j 0=l) (fun i=>g.rt.length-i) 0 [0] ⟨by omega,by omega⟩ (by(exact aL)) ?_
 rintro i ⟨hi,hv⟩
 (repeat' (conv=>whnf);first|refine z2_T1 ?_|refine⟨f.toNat,_,by omega,hg,?_⟩|fail);all_goals try (conv=>whnf)
 refine CondOb.mk (fun hlt=>?_) (fun hlt=>?_)
 ·have hst:¬g.rt.getD i 0=l→∀j<i+1,¬g.rt.getD j 0=l:=fun h j hj=>by
   by_cases e:j=i
   ·rw [e];exact h
   ·exact hv j (by omega)
  (repeat' (conv=>whnf);first|refine aC ?_ ?_<;>intro<;>try omega|refine z2_T1 ?_|refine⟨f.toNat,_,by omega,hg,?_⟩|fail);all_goals try (conv=>whnf)
  ·obtain⟨h1,h2⟩:=idx_at hv (by omega) (by assumption)
   exact⟨rfl,by rw [hE,if_pos h1,h2];rfl⟩
  ·exact⟨i+1,[0],⟨by omega,hst (by assumption)⟩,by omega,by(exact aL)⟩
 ·(repeat' (conv=>whnf);first|refine aC ?_ ?_<;>intro<;>try omega|refine z2_T1 ?_|fail);all_goals try (conv=>whnf)
  exact⟨rfl,by rw [hE,if_neg (idx_no fun j hj=>hv j (by omega))];rfl⟩
end
end Go.Proofs.YtaomhdljcdadaaaGreat
