/- Lemmas of this seat. Conditions: as stated. -/
import Derived.Test.YtaomhdljcdadaaaGreatN9
import Derived.Test.YtaomhdljcdadaaaGreatMn
set_option linter.unusedVariables false
set_option linter.unusedSimpArgs false
set_option maxHeartbeats 2000000
set_option maxRecDepth 4000
namespace Go.Proofs.YtaomhdljcdadaaaGreat
section
open Go.Sx Go.Pk Go.Mc Go.Np
theorem z1_S8 {G H:Prop} (k:H) (h:H→G:=by first|exact fun r=>aS r|exact fun r=>aG r|exact fun r=>aD r|exact fun r=>aH r|exact fun r=>aP_T1 r|exact fun r=>aI r|exact fun r=>aJ r|exact fun r=>aW (.qs [0,1,2,3,4,5,6,7,8,9,10,11,12,13,14,15,16,17,18,19,20,21,22,23,24,25,26,27,28,29,30,31,32,33,34,35,36,37,38,39,40,41,42,43,44,45,46] .nil) r|exact fun r=>aW (.qs [0,1,2,3,4,5,6,7,8,9,10,11,12] .nil) r):G:=h k
theorem RChk_ok (n:Nt) (hn:NL n) (p:List Pk) (hp:p.length≤9223372036854775807):Ctr Tryz.prog 29 [ntv n, .psl 3 (pks p)] [] (fun r o=>o=[]∧r=i64 (sck n p)):=by
 refine fI 0 Tryz.func29 ?_
 have hpl:=pks_len p
 have hfl:=fll n.fl
 have hnf:=hn.fl
 (repeat' (conv=>whnf);first|refine aC ?_ ?_<;>intro<;>try omega|refine z1_S8 ?_|fail);all_goals try (conv=>whnf)
 refine aK [] (rCheck_ok n hn) ?_
 have h6:chkN n≠0→sck n p=6:=fun h=>by unfold sck;rw [if_pos h]
 have h3:chkN n=0→60<p.length→sck n p=3:=fun h h'=>by unfold sck;rw [if_neg (by omega),if_pos h']
 have hz:chkN n=0→¬60<p.length→sckN n p p.length=0→sck n p=0:=fun h h' h2=>by unfold sck;rw [if_neg (by omega),if_neg h',h2]
 have hst:=fun h0 h1 i=>sck_steps (n:=n) (p:=p) h0 h1 (i:=i)
 generalize sck n p=E at*
 generalize chkN n=e at*
 (repeat' (conv=>whnf);first|refine aC ?_ ?_<;>intro<;>try omega|refine z1_S8 ?_|fail);all_goals try (conv=>whnf)
 ·exact⟨rfl,by rw [h6 (by assumption)];rfl⟩
 ·exact⟨rfl,by rw [h3 (by omega) (by omega)];rfl⟩
 refine LoopOb.mk (Y:=Nat) (st:=fun i=>⟨[(5,i64 i),(1, .psl 3 (pks p)),(2, .ptr 0 0)],[nbx n]⟩)
  (inv:=fun i=>i≤p.length∧sckN n p i=0) (fun i=>p.length-i) 0 [0] ⟨by omega,rfl⟩ (by(exact aL)) ?_
 rintro i ⟨hi,hv⟩
 by_cases hil:i<p.length
 ·have hg:=pks_get hil
  obtain⟨s1,s2,s3⟩:=hst (by omega) (by omega) i hil hv
  clear hst h6 h3 hz
  have hl0:i=0→lst p i=0:=fun h=>by subst h;rfl
  have hl1:0<i→∃z:Pk,(pks p)[i-1]? =some (pkw z)∧z.t=lst p i:=fun h=>by
   obtain⟨j,rfl⟩:∃j,i=j+1:=⟨i-1,by omega⟩
   exact⟨p.getD j pk0,by rw [Nat.add_sub_cancel];exact pks_get (by omega),rfl⟩
  unfold bdP pfl at s1 s2 s3
  generalize p.getD i pk0=x at*
  generalize lst p i=y at*
  by_cases hfr:x.f<0∨(n.fl.length:Int)≤x.f
  ·(repeat' (conv=>whnf);first|refine⟨i,_,rfl,hg,?_⟩|refine aC ?_ ?_<;>intro<;>try omega|refine z1_S8 ?_|fail);all_goals try (conv=>whnf)
   all_goals first
    |exact⟨rfl,by rw [s1 (.inl (by omega))];rfl⟩
    |trace_state
  ·have hfg:=flg (l:=n.fl) (i:=x.f.toNat) (by omega)
   generalize n.fl.getD x.f.toNat fl0=f at*
   rcases Nat.eq_zero_or_pos i with h0|h0
   ·have hy:=hl0 h0
    subst hy
    (repeat' (conv=>whnf);first|refine⟨x.f.toNat,_,by omega,hfg,?_⟩|refine⟨i,_,rfl,hg,?_⟩|refine aC ?_ ?_<;>intro<;>try omega|refine z1_S8 ?_|fail);all_goals try (conv=>whnf)
    all_goals first
     |exact⟨rfl,by rw [s1 (by omega)];rfl⟩
     |exact⟨i+1,[0],⟨by omega,s3 (by omega) (by omega)⟩,by omega,by(exact aL)⟩
     |trace_state
   ·obtain⟨z,hz1,hz2⟩:=hl1 h0
    subst hz2
    (repeat' (conv=>whnf);first|refine⟨x.f.toNat,_,by omega,hfg,?_⟩|refine⟨i,_,rfl,hg,?_⟩|refine⟨i-1,_,by omega,hz1,?_⟩|refine aC ?_ ?_<;>intro<;>try omega|refine z1_S8 ?_|fail);all_goals try (conv=>whnf)
    all_goals first
     |exact⟨rfl,by rw [s1 (by omega)];rfl⟩
     |exact⟨rfl,by rw [s2 (by omega) (by omega)];rfl⟩
     |exact⟨i+1,[0],⟨by omega,s3 (by omega) (by omega)⟩,by omega,by(exact aL)⟩
     |trace_state
 ·obtain rfl:i=p.length:=by omega
  (repeat' (conv=>whnf);first|refine aC ?_ ?_<;>intro<;>try omega|refine z1_S8 ?_|fail);all_goals try (conv=>whnf)
  exact⟨rfl,by rw [hz (by omega) (by omega) hv];rfl⟩
theorem z2_S8 {G H:Prop} (k:H) (h:H→G:=by first|exact fun r=>aS r|exact fun r=>aG r|exact fun r=>aD r|exact fun r=>aH r|exact fun r=>aP_T1 r|exact fun r=>aI r|exact fun r=>aJ r|exact fun r=>aW (.qs [0,1,2,3,4,5,6,7,8,9,10,11,12,13,14,15,16,17,18,19,20,21,22,23,24,25,26,27,28,29,30,31,32,33,34,35,36,37,38,39,40,41,42,43,44,45] .nil) r):G:=h k
theorem RArr_ok (n:Nt) (hn:NL n) (p:List Pk) (hp:p.length≤9223372036854775807) (ms:List (List Int)) (hm:MsL ms) (k h:Int):Ctr Tryz.prog 49 [ntv n, .psl 3 (pks p), .agg [.psl 1 (trs ms)],i64 k,i64 h] [] (fun r o=>o=[]∧r=arrT (arO n p (dR ms) k h)):=by
 refine fI 0 Tryz.func49 ?_
 have hpl:=pks_len p
 have htl:=trs_len ms
 have hml:=hm.l
 have hfl:=fll n.fl
 have hnf:=hn.fl
 by_cases hk:k<0∨(p.length:Int)≤k
 ·have e:hps n p k=0:=if_pos (by rcases hk with h|h;exact .inl h;exact .inr (.inl h))
  rw [arO_neg (by rw [e];omega)]
  (repeat' (conv=>whnf);first|refine aC ?_ ?_<;>intro<;>try omega|refine z2_S8 ?_|fail);all_goals try (conv=>whnf)
  all_goals exact⟨rfl,rfl⟩
 have hg:=pks_get (l:=p) (j:=k.toNat) (by omega)
 by_cases hfr:(p.getD k.toNat pk0).f <0∨(n.fl.length:Int)≤(p.getD k.toNat pk0).f
 ·have e:hps n p k=0:=if_pos (.inr (.inr hfr))
  rw [arO_neg (by rw [e];omega)]
  generalize p.getD k.toNat pk0=x at*
  (repeat' (conv=>whnf);first|refine⟨k.toNat,_,by omega,hg,?_⟩|refine aC ?_ ?_<;>intro<;>try omega|refine z2_S8 ?_|fail);all_goals try (conv=>whnf)
  all_goals exact⟨rfl,rfl⟩
 have e:hps n p k=((pfl n (p.getD k.toNat pk0)).rt.length :Nat):=if_neg (by omega)
 have hfg:=flg (l:=n.fl) (i:=(p.getD k.toNat pk0).f.toNat) (by omega)
 have hpf:pfl n (p.getD k.toNat pk0)=n.fl.getD (p.getD k.toNat pk0).f.toNat fl0:=rfl
 rw [←hpf]at hfg
 clear hpf
 have hz:=fun h=>arO_zero (n:=n) (p:=p) (D:=dR ms) (k:=k) h
 have hps1:=fun h1 h2=>arO_pos (n:=n) (p:=p) (D:=dR ms) (k:=k) (h:=h) h1 h2
 have hneg:=fun h1=>arO_neg (n:=n) (p:=p) (D:=dR ms) (k:=k) (h:=h) h1
 rw [e]at hz hps1 hneg
 clear e
 generalize pfl n (p.getD k.toNat pk0)=f at*
 generalize p.getD k.toNat pk0=x at*
 have hrl0:=ints_len f.rt
 by_cases h1:h<0∨(f.rt.length:Int)≤h
 ·rw [hneg h1]
  (repeat' (conv=>whnf);first|refine⟨x.f.toNat,_,by omega,hfg,?_⟩|refine⟨k.toNat,_,by omega,hg,?_⟩|refine aC ?_ ?_<;>intro<;>try omega|refine z2_S8 ?_|fail);all_goals try (conv=>whnf)
  all_goals exact⟨rfl,rfl⟩
 clear hneg
 by_cases h3:h=0
 ·subst h3
  rw [hz (by omega)]
  clear hz hps1
  (repeat' (conv=>whnf);first|refine⟨x.f.toNat,_,by omega,hfg,?_⟩|refine⟨k.toNat,_,by omega,hg,?_⟩|refine aC ?_ ?_<;>intro<;>try omega|refine z2_S8 ?_|fail);all_goals try (conv=>whnf)
  all_goals exact⟨rfl,rfl⟩
 rw [hps1 (by omega) h3]
 clear hz hps1
 by_cases h4:(ms.length:Int)≤k
 ·rw [if_neg fun hall=>by
   have:=hall 0 (by omega)
   unfold dR at this
   rw [List.getD_eq_getElem?_getD,List.getD_eq_getElem?_getD,List.getElem?_eq_none (by omega:ms.length≤k.toNat)]at this
   simp at this]
  (repeat' (conv=>whnf);first|refine⟨x.f.toNat,_,by omega,hfg,?_⟩|refine⟨k.toNat,_,by omega,hg,?_⟩|refine aC ?_ ?_<;>intro<;>try omega|refine z2_S8 ?_|fail);all_goals try (conv=>whnf)
  all_goals exact⟨rfl,rfl⟩
 have hgt:=trs_get (ms:=ms) (i:=k.toNat) (by omega)
 have hrl:=hm.r k.toNat
 have hrv:=hm.v k.toNat
 have hdR:∀j,dR ms k.toNat j=(ms.getD k.toNat []).getD j (-1):=fun _=>rfl
 simp only [hdR]
 clear hdR
 generalize ms.getD k.toNat []=row at*
 have hil:=ints_len row
 by_cases h5:(row.length:Int)<h
 ·rw [if_neg fun hall=>by
   have:=hall row.length (by omega)
   rw [List.getD_eq_getElem?_getD,List.getElem?_eq_none (by omega)]at this
   simp at this]
  (repeat' (conv=>whnf);first|refine⟨k.toNat,_,by omega,hgt,?_⟩|refine⟨x.f.toNat,_,by omega,hfg,?_⟩|refine⟨k.toNat,_,by omega,hg,?_⟩|refine aC ?_ ?_<;>intro<;>try omega|refine z2_S8 ?_|fail);all_goals try (conv=>whnf)
  all_goals exact⟨rfl,rfl⟩
 have hgd:∀j,j<h.toNat→row.getD j (-1)=row.getD j 0:=fun j hj=>getD_dflt (by omega)
 have hgv:=ints_get (l:=row) (j:=h.toNat-1) (by omega)
 have hvb:=hrv (h.toNat-1)
 have hfin:=hgd (h.toNat-1) (by omega)
 by_cases h6:row.getD (h.toNat-1) 0<0
 ·rw [if_neg fun hall=>by have:=hall (h.toNat-1) (by omega);omega]
  generalize row.getD (h.toNat-1) 0=v at*
  (repeat' (conv=>whnf);first|refine⟨h.toNat-1,_,by omega,hgv,?_⟩|refine⟨k.toNat,_,by omega,hgt,?_⟩|refine⟨x.f.toNat,_,by omega,hfg,?_⟩|refine⟨k.toNat,_,by omega,hg,?_⟩|refine aC ?_ ?_<;>intro<;>try omega|refine z2_S8 ?_|fail);all_goals try (conv=>whnf)
  all_goals exact⟨rfl,rfl⟩
 rw [hfin]
 obtain⟨v,hv⟩:∃v,row.getD (h.toNat-1) 0=v:=⟨_,rfl⟩
 rw [hv]at hgv hvb h6⊢
 (repeat' (conv=>whnf);first|refine⟨h.toNat-1,_,by omega,hgv,?_⟩|refine⟨k.toNat,_,by omega,hgt,?_⟩|refine⟨x.f.toNat,_,by omega,hfg,?_⟩|refine⟨k.toNat,_,by omega,hg,?_⟩|refine aC ?_ ?_<;>intro<;>try omega|refine z2_S8 ?_|fail);all_goals try (conv=>whnf)
 refine LoopOb.mk (Y:=Nat) (st:=fun i=>⟨[(12,i64 i),(3,i64 k),(4,i64 h),(7, .ptr 1 0)],[nbx n, .box [.psl 1 (trs ms)]]⟩)
  (inv:=fun i=>i≤h.toNat∧∀j,j<i→0≤row.getD j 0) (fun i=>h.toNat-i) 0 [0,1] ⟨by omega,fun j hj=>by omega⟩ (by(exact aL)) ?_
 rintro i ⟨hi,hall⟩
 by_cases hlt:i<h.toNat
 ·have hgi:=ints_get (l:=row) (j:=i) (by omega)
  have hgdi:=hgd i hlt
  have hnx:0≤row.getD i 0→∀j,j<i+1→0≤row.getD j 0:=fun h j hj=>by
   by_cases e:j=i
   ·subst e;exact h
   ·exact hall j (by omega)
  have hng:row.getD i 0<0→(if∀j,j<h.toNat→0≤row.getD j (-1)then some (v+1)else none)=none:=fun h=>if_neg fun ha=>by have:=ha i hlt;omega
  generalize row.getD i 0=u at*
  (repeat' (conv=>whnf);first|refine⟨i,_,by omega,hgi,?_⟩|refine⟨k.toNat,_,by omega,hgt,?_⟩|refine aC ?_ ?_<;>intro<;>try omega|refine z2_S8 ?_|fail);all_goals try (conv=>whnf)
  all_goals first
   |exact⟨rfl,by rw [hng (by assumption)];rfl⟩
   |exact⟨i+1,[0,1],⟨by omega,hnx (by omega)⟩,by omega,by(exact aL)⟩
   |trace_state
 ·obtain rfl:i=h.toNat:=by omega
  rw [if_pos (fun j hj=>by rw [hgd j hj];exact hall j hj)]
  (repeat' (conv=>whnf);first|refine⟨h.toNat-1,_,by omega,hgv,?_⟩|refine⟨k.toNat,_,by omega,hgt,?_⟩|refine aC ?_ ?_<;>intro<;>try omega|refine z2_S8 ?_|fail);all_goals try (conv=>whnf)
  all_goals exact⟨rfl,rfl⟩
end
end Go.Proofs.YtaomhdljcdadaaaGreat
section
namespace Go.Mc
open Go.Pk Go.Np
theorem idx_nat {l:Nat}:∀{rt:List Int},(∀x∈rt,0≤x)→(rt.map Int.toNat).idxOf l=rt.idxOf (l:Int)∧(l∈rt.map Int.toNat↔(l:Int)∈rt)
 |[],_=>by simp
 |x::rt,h=>by
  obtain⟨h1,h2⟩:=idx_nat (l:=l) (rt:=rt) fun y hy=>h y (by simp [hy])
  have hx:=h x (by simp)
  by_cases e:x=(l:Int)
  ·subst e;simp
  ·have e2:¬x.toNat=l:=by omega
   refine⟨?_,?_⟩
   ·rw [List.map_cons,List.idxOf_cons,List.idxOf_cons,h1]
    have b1:(x.toNat==l)=false:=by simp [e2]
    have b2:(x==(l:Int))=false:=by simp [e]
    rw [b1,b2]
   ·rw [List.map_cons,List.mem_cons,List.mem_cons,h2]
    constructor
    ·rintro(h|h)
     ·exact absurd h.symm e2
     ·exact .inr h
    ·rintro(h|h)
     ·exact absurd h.symm e
     ·exact .inr h
structure RtP (n:Nt) (p:List Pk):Prop where
 f:∀i,i<p.length→0≤(p.getD i pk0).f ∧(p.getD i pk0).f <n.fl.length
 r:∀i,i<p.length→∀x∈(pfl n (p.getD i pk0)).rt,0≤x
theorem hop_hp {n:Nt} {p:List Pk} (hR:RtP n p) {i l:Nat} (hi:i<p.length):hop n (p.getD i pk0).f l=match hp (toF n p) l i with
  |some h=>(h:Int)
  |none=> -1:=by
 obtain⟨f1,f2⟩:=hR.f i hi
 obtain⟨h1,h2⟩:=idx_nat (l:=l) (hR.r i hi)
 unfold hop hp
 rw [if_neg (by omega)]
 show(if(l:Int)∈(pfl n (p.getD i pk0)).rt then(((pfl n (p.getD i pk0)).rt.idxOf (l:Int):Nat):Int)else-1)=_
 by_cases hm:(l:Int)∈(pfl n (p.getD i pk0)).rt
 ·rw [if_pos hm,if_pos (show l∈(toF n p).rt i from h2.2 hm)]
  show _=((((pfl n (p.getD i pk0)).rt.map Int.toNat).idxOf l:Nat):Int)
  rw [h1]
 ·rw [if_neg hm,if_neg (show¬l∈(toF n p).rt i from fun h=>hm (h2.1 h))]
theorem hop_neg {n:Nt} {p:List Pk} (hR:RtP n p) {i:Nat} {l:Int} (hl:l<0) (hi:i<p.length):hop n (p.getD i pk0).f l= -1:=by
 obtain⟨f1,f2⟩:=hR.f i hi
 unfold hop
 rw [if_neg (by omega),if_neg fun hm=>by have:=hR.r i hi l hm;omega]
def arL (n:Nt) (p:List Pk) (D:Tp) (l:Int) (i:Nat):Option Int:=if l<0 then none else match hp (toF n p) l.toNat i with
 |some h=>arr (toF n p) D i h
 |none=>none
theorem arO_arL {n:Nt} {p:List Pk} (hR:RtP n p) {D:Tp} {l:Int} {i:Nat} (hi:i<p.length):arO n p D i (hop n (p.getD i pk0).f l)=arL n p D l i:=by
 obtain⟨f1,f2⟩:=hR.f i hi
 unfold arL
 by_cases hl:l<0
 ·rw [if_pos hl,hop_neg hR hl hi,arO_neg (.inl (by omega))]
 ·rw [if_neg hl]
  obtain⟨l,rfl⟩:∃k:Nat,l=k:=⟨l.toNat,by omega⟩
  rw [hop_hp hR hi,Int.toNat_natCast]
  cases hh:hp (toF n p) l i with
  |none=>exact arO_neg (.inl (by simp only;omega))
  |some h=>
   have h1:=hp_some hh
   have h2:h<(pfl n (p.getD i pk0)).rt.length :=by simpa [toF]using h1.1
   have h3:hps n p i=((pfl n (p.getD i pk0)).rt.length :Nat):=by
    unfold hps
    rw [Int.toNat_natCast,if_neg (by omega)]
   simp only
   unfold arO
   rw [h3,if_neg (by omega),Int.toNat_natCast,Int.toNat_natCast]
noncomputable def quL (n:Nt) (p:List Pk) (D:Tp) (l:Int):Nat→List Wt
 |0=>[]
 |i+1=>match arL n p D l i with
  |none=>quL n p D l i
  |some a=>insW ⟨a,(p.getD i pk0).f,i⟩ (quL n p D l i)
theorem quL_nat {n:Nt} {p:List Pk} {D:Tp} {l:Nat}:∀i,quL n p D l i=quN (toF n p) D l i
 |0=>rfl
 |i+1=>by
  simp only [quL,quN,quL_nat i]
  unfold arL
  rw [if_neg (by omega),Int.toNat_natCast]
  cases hp (toF n p) l i with
  |none=>rfl
  |some h=>rfl
theorem quL_neg {n:Nt} {p:List Pk} {D:Tp} {l:Int} (h:l<0):∀i,quL n p D l i=[]
 |0=>rfl
 |i+1=>by
  simp only [quL,quL_neg h i]
  unfold arL
  rw [if_pos h]
theorem quL_ok {n:Nt} {p:List Pk} {D:Tp} {l:Int} (i:Nat):(quL n p D l i).Pairwise Wt.lt∧∀x∈quL n p D l i,x.i<i:=by
 by_cases h:l<0
 ·rw [quL_neg h];exact⟨List.Pairwise.nil,fun x hx=>by simp at hx⟩
 ·obtain⟨l,rfl⟩:∃k:Nat,l=k:=⟨l.toNat,by omega⟩
  rw [quL_nat]
  obtain⟨h1,h2⟩:=quN_ok (toF n p) D l i
  exact⟨h1,fun x hx=>((h2 x).1 hx).1⟩
theorem insW_stop {x:Wt}:∀{pre suf:List Wt},(pre++suf).Pairwise Wt.lt→(∀y∈suf,x.lt y)→(∀y,pre.getLast? =some y→¬x.lt y)→insW x (pre++suf)=pre++x::suf
 |[],[],_,_,_=>rfl
 |[],y::q,_,h,_=>by
  simp only [List.nil_append,insW]
  rw [if_pos (h y (by simp))]
 |z::pre,suf,h,hs,hl=>by
  have h2:=List.pairwise_cons.1 h
  have hz:¬x.lt z:=by
   cases pre with
   |nil=>exact hl z (by simp)
   |cons w pre=>
    intro hx
    obtain⟨u,hu⟩:∃u,(w::pre).getLast? =some u:=⟨_,List.getLast?_eq_some_getLast (by simp)⟩
    have hm:u∈w::pre++suf:=List.mem_append_left _ (List.mem_of_getLast? hu)
    exact hl u (by rw [List.getLast?_cons_cons];exact hu) (Wt.lt_tr hx (h2.1 u hm))
  simp only [List.cons_append,insW]
  rw [if_neg hz,insW_stop h2.2 hs fun y hy=>?_]
  cases pre with
  |nil=>simp at hy
  |cons w pre=>exact hl y (by rw [List.getLast?_cons_cons];exact hy)
theorem quL_at {n:Nt} {p:List Pk} {D:Tp} {l:Int}:∀(i:Nat),∀x∈quL n p D l i,x.i<i∧x.f=(p.getD x.i pk0).f ∧arL n p D l x.i=some x.a
 |0,x,h=>by simp [quL]at h
 |i+1,x,h=>by
  simp only [quL]at h
  cases ha:arL n p D l i with
  |none=>
   rw [ha]at h
   obtain⟨h1,h2⟩:=quL_at i x h
   exact⟨by omega,h2⟩
  |some a=>
   rw [ha]at h
   rcases insW_mem.1 h with rfl|h
   ·exact⟨by simp,rfl,ha⟩
   ·obtain⟨h1,h2⟩:=quL_at i x h
    exact⟨by omega,h2⟩
theorem quL_len {n:Nt} {p:List Pk} {D:Tp} {l:Int}:∀(i:Nat),(quL n p D l i).length ≤i
 |0=>by simp [quL]
 |i+1=>by
  have ih:=quL_len (n:=n) (p:=p) (D:=D) (l:=l) i
  have hin:∀(x:Wt) (q:List Wt),(insW x q).length =q.length+1:=by
   intro x q
   induction q with
   |nil=>rfl
   |cons y q ih=>simp only [insW];split<;>simp [ih]
  simp only [quL]
  cases arL n p D l i with
  |none=>simp only;omega
  |some a=>simp only [hin];omega
end Go.Mc
end
section
namespace Go.Mc
open Go.Pk Go.Np
variable {F:Tf} {Z:Li} {N l:Nat} {ms:List (List Int)} {S:Nat→Bool}
theorem rows_ext {ms ms':List (List Int)} (h1:ms.length=ms'.length) (h2:∀i,(ms.getD i []).length =(ms'.getD i []).length) (h3:∀i h,i<ms.length→h<(ms.getD i []).length →dR ms i h=dR ms' i h):ms=ms':=by
 refine List.ext_getElem h1 fun i a b=>?_
 have e1:ms.getD i []=ms[i]:=by rw [List.getD_eq_getElem?_getD,List.getElem?_eq_getElem a];rfl
 have e2:ms'.getD i []=ms'[i]:=by rw [List.getD_eq_getElem?_getD,List.getElem?_eq_getElem b];rfl
 have h2:=h2 i
 have h3:=h3 i
 unfold dR at h3
 rw [e1,e2]at h2
 rw [e1,e2]at h3
 refine List.ext_getElem h2 fun h c d=>?_
 have:=h3 h a c
 rw [List.getD_eq_getElem?_getD,List.getElem?_eq_getElem c,List.getD_eq_getElem?_getD,List.getElem?_eq_getElem d]at this
 exact this
structure ShM (F:Tf) (N:Nat) (ms:List (List Int)):Prop where
 l:ms.length=F.np
 r:∀i,i<F.np→(ms.getD i []).length =(F.rt i).length
 b:∀i h,i<F.np→h<(F.rt i).length →-1≤dR ms i h∧dR ms i h<N
noncomputable def trR (F:Tf) (Z:Li) (N:Nat):List (List Int):=(List.range F.np).map fun i=>(List.range (F.rt i).length).map fun h=>tr F Z N i h
theorem trR_at {i h:Nat} (hi:i<F.np) (hh:h<(F.rt i).length):dR (trR F Z N) i h=tr F Z N i h:=by
 unfold dR trR
 simp [List.getD_eq_getElem?_getD,hi,hh]
theorem trR_rlen {i:Nat} (hi:i<F.np):((trR F Z N).getD i []).length =(F.rt i).length :=by
 unfold trR
 simp [List.getD_eq_getElem?_getD,hi]
theorem trR_len:(trR F Z N).length =F.np:=by simp [trR]
theorem trR_eq (hl:ms.length=F.np) (hr:∀i,i<F.np→(ms.getD i []).length =(F.rt i).length) (e:∀i k,i<F.np→k<(F.rt i).length →dR ms i k=tr F Z N i k):ms=trR F Z N:=
 rows_ext (by rw [trR_len,hl]) (fun i=>by
  by_cases hi:i<F.np
  ·rw [trR_rlen hi,hr i hi]
  ·rw [List.getD_eq_getElem?_getD,List.getElem?_eq_none (by rw [hl];omega),List.getD_eq_getElem?_getD,List.getElem?_eq_none (by rw [trR_len];omega)]) fun i k hi hk=>by
  rw [hl]at hi
  rw [hr i hi]at hk
  rw [e i k hi hk,trR_at hi hk]
theorem trR_sh (hR:Rts F):ShM F N (trR F Z N):=
 ⟨trR_len,fun i hi=>trR_rlen hi,fun i h hi hh=>by
  rw [trR_at hi hh]
  rcases tr_bd hR Z N hi hh with e|⟨e1,e2,_⟩<;>omega⟩
end Go.Mc
end
