/- Lemmas of this seat. Conditions: as stated. -/
import Derived.Test.YtaomhdljcdadaaaGreatC2
import Derived.Test.YtaomhdljcdadaaaGreatS2
import Derived.Test.YtaomhdljcdadaaaGreatS2d
import Derived.Test.YtaomhdljcdadaaaGreatMtt
import Derived.Test.YtaomhdljcdadaaaGreatSxW
set_option linter.unusedVariables false
set_option linter.unusedSimpArgs false
set_option maxHeartbeats 2000000
set_option maxRecDepth 4000
namespace Go.Proofs.YtaomhdljcdadaaaGreat
section
open Go.Sx Go.Pk Go.Mc Go.Np
def liN (n:Nt):Li:=⟨n.ln.length,fun l=>chL (n.ln.getD l ln0),fun l=>(n.ln.getD l ln0).c.toNat⟩
structure ShW (F:Tf) (ms:List (List Int)):Prop where
 l:ms.length=F.np
 r:∀i,i<F.np→(ms.getD i []).length =(F.rt i).length
 b:∀i h,i<F.np→h<(F.rt i).length →-2147483648≤dR ms i h∧dR ms i h≤2147483648
theorem _root_.Go.Mc.ShM.w {F:Tf} {N:Nat} (hN:N≤2000) {ms:List (List Int)} (hm:ShM F N ms):ShW F ms:=⟨hm.l,hm.r,fun i h hi hh=>by have:=hm.b i h hi hh;omega⟩
theorem MsL.ofW {n:Nt} {p:List Pk} (h:SkP n p) {ms:List (List Int)} (hm:ShW (toF n p) ms):MsL ms:=by
 have hl:ms.length=p.length:=hm.l
 have h60:=h.l
 have hr:∀i,i<p.length→(ms.getD i []).length ≤4:=fun i hi=>by
  rw [hm.r i hi]
  have:=(h.fl hi).2.2.2.2.1.l2
  show((pfl n (p.getD i pk0)).rt.map Int.toNat).length ≤4
  rw [List.length_map];exact this
 refine⟨by omega,fun i=>?_,fun i j=>?_⟩
 ·by_cases hi:i<p.length
  ·have:=hr i hi;omega
  ·rw [List.getD_eq_getElem?_getD,List.getElem?_eq_none (by omega)];simp
 ·by_cases hi:i<p.length
  ·by_cases hj:j<(ms.getD i []).length
   ·have:=hm.b i j hi (by rw [←hm.r i hi];exact hj)
    rw [getD_dflt (b:= -1) hj]
    unfold dR at this;omega
   ·rw [List.getD_eq_getElem?_getD,List.getElem?_eq_none (by omega)];simp
  ·rw [List.getD_eq_getElem?_getD (l:=ms),List.getElem?_eq_none (by omega)];simp
theorem MsL.of {n:Nt} {p:List Pk} (h:SkP n p) {N:Nat} (hN:N≤2000) {ms:List (List Int)} (hm:ShM (toF n p) N ms):MsL ms:=MsL.ofW h (hm.w hN)
theorem _root_.Go.Mc.SkP.quW {n:Nt} {p:List Pk} (h:SkP n p) {D:Tp} {l:Nat} {x:Wt} (hx:x∈qu (toF n p) D l):
  x.i<p.length∧1≤(p.getD x.i pk0).s ∧(p.getD x.i pk0).s ≤1500∧0≤x.a∧0≤(pfl n (p.getD x.i pk0)).cl ∧(pfl n (p.getD x.i pk0)).cl <(n.ln.getD l ln0).n ∧(∃k,hp (toF n p) l x.i=some k):=by
 obtain⟨h1,⟨k,h2,h3⟩,h4⟩:=((qu_ok (toF n p) D l).m x).1 hx
 have h1:x.i<p.length:=h1
 obtain⟨_,_,t1,t2,hG,s1,s2⟩:=h.fl h1
 obtain⟨k1,k2⟩:=hp_some h2
 have k3:k<(pfl n (p.getD x.i pk0)).rt.length :=by simpa [toF]using k1
 have hc:=hG.c k k3
 have hl:=(h.lnn h1 k1).1
 rw [k2]at hl
 rw [←hl,Int.toNat_natCast]at hc
 have ha:0≤x.a:=by
  unfold arr at h3
  split at h3
  ·have e:(p.getD x.i pk0).t =x.a:=Option.some.inj h3
   omega
  ·split at h3
   ·rename_i hk0 hall
    have e:D x.i (k-1)+1=x.a:=Option.some.inj h3
    have:=hall (k-1) (by omega)
    omega
   ·cases h3
 have:=hG.s1;have:=hG.s2
 exact⟨h1,by omega,by omega,ha,hc.1,hc.2,k,h2⟩
theorem qu_PLW {n:Nt} {p:List Pk} (h:SkP n p) {ms:List (List Int)} {l:Nat} (hv:∀x∈qu (toF n p) (dR ms) l,x.a≤2000):
  PL (pkq (toF n p) (qu (toF n p) (dR ms) l))∧∀k,k<(pkq (toF n p) (qu (toF n p) (dR ms) l)).length →0≤cl (pkq (toF n p) (qu (toF n p) (dR ms) l)) k∧cl (pkq (toF n p) (qu (toF n p) (dR ms) l)) k<(n.ln.getD l ln0).n :=by
 have hq:=qu_ok (toF n p) (dR ms) l
 have key:∀k,k<(qu (toF n p) (dR ms) l).length →∃x,(pkq (toF n p) (qu (toF n p) (dR ms) l)).getD k pk0=⟨(pfl n (p.getD x.i pk0)).cl,x.a,(p.getD x.i pk0).s⟩∧x∈qu (toF n p) (dR ms) l:=fun k hk=>⟨_,pkq_at hk,List.getElem_mem hk⟩
 refine⟨⟨?_,pkq_asc hq.o,fun k hk=>?_,fun k hk=>?_⟩,fun k hk=>?_⟩
 ·rw [pkq_len];have:=qu_len n p (dR ms) l;have:=h.l;omega
 ·rw [pkq_len]at hk
  obtain⟨x,e,hx⟩:=key k hk
  have:=h.quW hx
  rw [e];exact⟨this.2.1,this.2.2.1⟩
 ·rw [pkq_len]at hk
  obtain⟨x,e,hx⟩:=key k hk
  have:=h.quW hx
  rw [e];exact⟨this.2.2.2.1,hv x hx⟩
 ·rw [pkq_len]at hk
  obtain⟨x,e,hx⟩:=key k hk
  have:=h.quW hx
  unfold cl
  rw [e];exact⟨this.2.2.2.2.1,this.2.2.2.2.2.1⟩
theorem qu_PL {n:Nt} {p:List Pk} (h:SkP n p) {N:Nat} (hN:N≤2000) {ms:List (List Int)} (hm:ShM (toF n p) N ms) {l:Nat}:
  PL (pkq (toF n p) (qu (toF n p) (dR ms) l))∧∀k,k<(pkq (toF n p) (qu (toF n p) (dR ms) l)).length →0≤cl (pkq (toF n p) (qu (toF n p) (dR ms) l)) k∧cl (pkq (toF n p) (qu (toF n p) (dR ms) l)) k<(n.ln.getD l ln0).n :=
 qu_PLW h fun x hx=>by have:=h.qu hN (fun i k hi hk=>(hm.b i k hi hk).2) hx;omega
theorem pas_at {F:Tf} {D:Tp} {l:Nat} {q:List Wt} (hq:Qu F D l q) (Z:Li) (N:Nat) {k:Nat} (hk:k<q.length):pas F Z N D l q[k].i =(run (Z.C l) (pkq F q) (Z.c l) N).dn k:=by
 have e:=hq.uniq (qu_ok F D l)
 subst e
 unfold pas
 rw [hq.plc hk]
end
section
open Go.Sx Go.Pk Go.Mc
abbrev stV (t now:Int):SV:= .agg [i64 t, .vec 0,i64 now, .vec 1, .vec 2]
abbrev stO (m:Nat) (G dn:Nat→Int) (ms:List (List Int)):List Chunk:=[.vec 1 (ivs m G), .vec 1 (ivs m dn), .mat 1 (mtz ms)]
def bgO (G:Nat→Int) (now:Int) (i:Nat):Bool:=decide (G i≠0∨now=i)
theorem z1_S10 {G H:Prop} (k:H) (h:H→G:=by first|exact fun r=>aS r|exact fun r=>aG r|exact fun r=>aD r|exact fun r=>aH r|exact fun r=>aP_T1 r|exact fun r=>aI r|exact fun r=>aJ r|exact fun r=>aW (.qs [0,1,2,3,4,5,6,7,8,9,10,11,12,13,14,15,16,17,18,19,20,21,22] .nil) r):G:=h k
theorem RWaits_ok (p:List Pk) (hp:p.length≤1000) (t:Nat) (now:Int) (G dn:Nat→Int) (ms:List (List Int)) (i:Nat) (hi:i<p.length):
  Ctr Tryz.prog 193 [stV t now, .psl 3 (pks p),i64 i] (stO p.length G dn ms) (fun r o=>o=stO p.length G dn ms∧((∃P:Prop,(P↔wt p t (bgO G now) i=true)∧r= .bp P)∨(¬wt p t (bgO G now) i=true∧r= .bl false))):=by
 refine fI 3 Tryz.func193 ?_
 have hpl:=pks_len p
 have hil:=ivs_len p.length G
 have gg:=ivs_get (f:=G) hi
 have gp:=pks_get hi
 have hw:wt p t (bgO G now) i=true↔((p.getD i pk0).t ≤t∧G i=0∧¬now=i):=by
  rw [wt_iff]
  unfold bgO tm
  simp only [decide_eq_false_iff_not,not_or,Decidable.not_not]
  exact⟨fun h=>h.2,fun h=>⟨hi,h⟩⟩
 generalize p.getD i pk0=x at*
 generalize G i=u at*
 (repeat' (conv=>whnf);first|refine⟨i,_,rfl,gp,?_⟩|refine aC ?_ ?_<;>intro<;>try omega|refine z1_S10 ?_|refine⟨i,rfl,by omega,?_⟩|refine⟨_,gg,?_⟩|fail);all_goals try (conv=>whnf)
 all_goals first
  |exact⟨rfl, .inl ⟨now≠i,by rw [hw];omega,rfl⟩⟩
  |exact⟨rfl, .inr ⟨by rw [hw];omega,rfl⟩⟩
theorem RFirst_ok (p:List Pk) (hp:p.length≤1000) (t:Nat) (now:Int) (G dn:Nat→Int) (ms:List (List Int)) (c:Int) (q:Nat→Bool) (hq:∀i,i<p.length→(q i=true↔((c= -1∨cl p i=c)∧wt p t (bgO G now) i=true))):
  Ctr Tryz.prog 169 [stV t now, .psl 3 (pks p),i64 c] (stO p.length G dn ms) (fun r o=>o=stO p.length G dn ms∧r=i64 (oI (fst q p.length))):=by
 refine fI 3 Tryz.func169 ?_
 have hpl:=pks_len p
 (repeat' (conv=>whnf);first|refine aC ?_ ?_<;>intro<;>try omega|refine z2_T1 ?_|fail);all_goals try (conv=>whnf)
 refine LoopOb.mk (Y:=Nat) (st:=fun i=>⟨[(7,i64 i),(3, .ptr 3 0),(1, .psl 3 (pks p)),(2,i64 c)],stO p.length G dn ms++[.box [i64 t, .vec 0,i64 now, .vec 1, .vec 2]]⟩)
  (inv:=fun i=>i≤p.length∧∀j,j<i→q j=false) (fun i=>p.length-i) 0 [0,1,2,3] ⟨by omega,fun j hj=>by omega⟩ (by(exact aL)) ?_
 rintro i ⟨hi,hn⟩
 by_cases hil:i<p.length
 ·have gp:=pks_get hil
  have hqi:=hq i hil
  have hyes:q i=true→fst q p.length=some i:=fun h=>fst_some.2 ⟨hil,h,hn⟩
  have hnx:¬q i=true→∀j,j<i+1→q j=false:=fun h j hj=>by
   by_cases e:j=i
   ·subst e;simpa using h
   ·exact hn j (by omega)
  have cW:=RWaits_ok p hp t now G dn ms i hil
  unfold cl at hqi
  generalize p.getD i pk0=x at*
  (repeat' (conv=>whnf);first|refine⟨i,_,rfl,gp,?_⟩|refine aC ?_ ?_<;>intro<;>try omega|refine z2_T1 ?_|(refine aM [0,1,2] cW rfl rfl ?_;rintro _ _ ⟨rfl,(⟨P,hP,rfl⟩|⟨hP,rfl⟩)⟩)|fail);all_goals try (conv=>whnf)
  all_goals first
   |exact⟨rfl,by rw [hyes (hqi.2 ⟨by omega,hP.1 (by assumption)⟩)];rfl⟩
   |exact⟨i+1,[0,1,2,3],⟨by omega,hnx fun h=>by have:=(hqi.1 h).1;omega⟩,by omega,by(exact aL)⟩
   |exact⟨i+1,[0,1,2,3],⟨by omega,hnx fun h=>absurd (hP.2 (hqi.1 h).2) (by assumption)⟩,by omega,by(exact aL)⟩
   |exact⟨i+1,[0,1,2,3],⟨by omega,hnx fun h=>hP (hqi.1 h).2⟩,by omega,by(exact aL)⟩
   |trace_state
 ·obtain rfl:i=p.length:=by omega
  (repeat' (conv=>whnf);first|refine aC ?_ ?_<;>intro<;>try omega|refine z2_T1 ?_|fail);all_goals try (conv=>whnf)
  exact⟨rfl,by rw [fst_none.2 hn];rfl⟩
end
section
open Go.Sx Go.Pk Go.Mc
theorem z2_S11 {G H:Prop} (k:H) (h:H→G:=by first|exact fun r=>aS r|exact fun r=>aG r|exact fun r=>aD r|exact fun r=>aP_T1 r|exact fun r=>aI r|exact fun r=>aJ r|exact fun r=>aW (.qs [0,1,2,3,4,5,6,7,8,9,10] (.l 11 [2] (.l 12 [2] (.qs [13] (.l 14 [] .nil .no)) .no) .no)) r):G:=h k
theorem z1_S11 {G H:Prop} (k:H) (h:H→G:=by first|exact fun r=>aS r|exact fun r=>aG r|exact fun r=>aD r|exact fun r=>aH r|exact fun r=>aP_T1 r|exact fun r=>aI r|exact fun r=>aJ r|exact fun r=>aW (.qs [0,1,2,3,4,5,6,7,8,9,10] (.l 11 [2] (.l 12 [2] (.qs [13] (.l 14 [] .nil .no)) .no) .no)) r):G:=h k
theorem RBegin_ok (N T:Nat) (hT:T≤2000) (B:Int) (hB:B≤10000000) (t now:Int) (m:Nat) (G dn:Nat→Int) (ms:List (List Int)) (hS:Sn N (fun _=>T+1) B ms) (hN1:1≤N) (hN:N≤6):
  Ctr Tryz.prog 164 [stV t now] (stO m G dn ms) (fun r o=>∃m2,Sn N (fun _=>T+2) B m2∧o=[.vec 1 (ivs m G), .vec 1 (ivs m dn), .dead, .box [i64 t, .vec 0,i64 now, .vec 1, .vec 4], .mat 1 (mtz m2)]∧r= .agg [i64 t, .vec 0,i64 now, .vec 1, .vec 4]):=by
 refine fI 3 Tryz.func164 ?_
 have hml:=(mtz_len ms).trans hS.l
 (repeat' (conv=>whnf);first|refine aC ?_ ?_<;>intro<;>try omega|refine z1_S11 ?_|fail);all_goals try (conv=>whnf)
 refine LoopOb.mk (Y:=Bool×Nat×List (List Int)) (st:=fun y=>⟨[(3,i64 y.2.1),(2, .ptr 4 0),(1, .ptr 3 0)],match y.1 with
   |false=>[.vec 1 (ivs m G), .vec 1 (ivs m dn), .mat 1 (mtz y.2.2), .box [i64 t, .vec 0,i64 now, .vec 1, .vec 2], .box [i64 0, .nil,i64 0, .nil, .nil]]
   |true=>[.vec 1 (ivs m G), .vec 1 (ivs m dn), .dead, .box [i64 t, .vec 0,i64 now, .vec 1, .vec 5], .box [i64 0, .nil,i64 0, .nil, .nil], .mat 1 (mtz y.2.2)]⟩)
  (inv:=fun y=>y.2.1≤N∧Sn N (fun j=>if j<y.2.1 then T+2 else T+1) B y.2.2∧(y.1=false→y.2.1=0)) (fun y=>N-y.2.1) (false,0,ms) [0,1,2,3,4] ⟨Nat.zero_le _,by simpa using hS,fun _=>rfl⟩ (by(exact aL)) ?_
 rintro⟨b,k,m2⟩ ⟨hk,hm2,hb⟩
 dsimp only at hk hm2 hb⊢
 have hml2:=(mtz_len m2).trans hm2.l
 by_cases hkN:k<N
 ·have hgr:=mtz_get (ms:=m2) (c:=k) (by have:=hm2.l;omega)
  have hrl:=hm2.r k hkN
  rw [if_neg (by omega)]at hrl
  have hrv:=hm2.v k hkN
  have hst:=fun r h1 h3=>hm2.set (B':=B) (len':=fun j=>if j<k+1 then T+2 else T+1) (Int.le_refl _) hkN (r:=r) h1 (fun j hj=>by
   by_cases h:j<k
   ·rw [if_pos h,if_pos (by omega)]
   ·rw [if_neg h,if_neg (by omega)]) h3
  generalize m2.getD k []=row at*
  have hil2:=ints_len row
  have hgv:=ints_get (l:=row) (j:=T) (by omega)
  generalize hv:row.getD T 0=v at*
  have h1:(row++[v]).length =if k<k+1 then T+2 else T+1:=by rw [if_pos (by omega),List.length_append,List.length_singleton];omega
  have h3:∀j,0≤(row++[v]).getD j 0∧(row++[v]).getD j 0≤B:=fun j=>by
   rw [getD_app]
   split
   ·exact hrv j
   ·split
    ·rw [←hv];exact hrv T
    ·have:=hrv 0;omega
  have hmm:∀j:Nat,(mtz m2).set k (ints row++[[i64 v]])=mtz (m2.set k (row++[v])):=fun _=>by rw [←mtz_set,show ints (row++[v])=ints row++[[i64 v]]by simp [ints]]
  cases b
  ·dsimp only
   (repeat' (conv=>whnf);first|refine DrawOb.re [] (.qs [0,1,2,3,4,5,6,7,8,9,10] (.l 11 [2] (.l 12 [2] (.qs [13] (.l 14 [] .nil .no)) .no) .no)) (by decide+kernel) ?_|refine aC ?_ ?_<;>intro<;>try omega|refine z1_S11 ?_|refine And.intro ⟨rfl,rfl⟩ ?_|refine⟨k,rfl,by omega,?_⟩|refine And.intro (show k<(mtz m2).length by omega) ?_|refine⟨T,_,by omega,hgr,by omega,?_⟩|refine⟨_,_,hgr,hgv,?_⟩|refine⟨_,hgr,?_⟩|refine And.intro (rfl:k=k) ?_|fail);all_goals try (conv=>whnf)
   exact⟨(true,k+1,m2.set k (row++[v])),[0,1,2,3,4,9],⟨by dsimp only;omega,hst _ h1 h3,fun e=>by cases e⟩,by dsimp only;omega,by dsimp only;rw [←hmm 0];(exact aL)⟩
  ·dsimp only
   (repeat' (conv=>whnf);first|refine DrawOb.re [] (.qs [0,1,2,3,4,5,6,7,8,9,10] (.l 11 [2] (.l 12 [2] (.qs [13] (.l 14 [] .nil .no)) .no) .no)) (by decide+kernel) ?_|refine aC ?_ ?_<;>intro<;>try omega|refine z1_S11 ?_|refine And.intro ⟨rfl,rfl⟩ ?_|refine⟨k,rfl,by omega,?_⟩|refine And.intro (show k<(mtz m2).length by omega) ?_|refine⟨T,_,by omega,hgr,by omega,?_⟩|refine⟨_,_,hgr,hgv,?_⟩|refine⟨_,hgr,?_⟩|refine And.intro (rfl:k=k) ?_|fail);all_goals try (conv=>whnf)
   exact⟨(true,k+1,m2.set k (row++[v])),[0,1,2,3,4,10],⟨by dsimp only;omega,hst _ h1 h3,fun e=>by cases e⟩,by dsimp only;omega,by dsimp only;rw [←hmm 0];(exact aL)⟩
 ·obtain rfl:N=k:=by omega
  have hfin:Sn N (fun _=>T+2) B m2:=⟨hm2.l,fun j hj=>by rw [hm2.r j hj,if_pos hj],hm2.v⟩
  cases b
  ·have:=hb rfl;omega
  ·dsimp only
   (repeat' (conv=>whnf);first|refine aC ?_ ?_<;>intro<;>try omega|refine z2_S11 ?_|fail);all_goals try (conv=>whnf)
   refine .mk [.wk [0,1,2,4,5] ⟨[(2, .ptr 3 0)],[.vec 1 (ivs m G), .vec 1 (ivs m dn), .dead, .box [i64 t, .vec 0,i64 now, .vec 1, .vec 4], .mat 1 (mtz m2)]⟩] ⟨by(exact aL),?_⟩
   (repeat' (conv=>whnf);first|refine aC ?_ ?_<;>intro<;>try omega|refine z2_S11 ?_|fail);all_goals try (conv=>whnf)
   exact⟨m2,hfin,rfl,rfl⟩
end
section
open Go.Sx Go.Pk Go.Mc
theorem ivs_app (i:Nat) (f:Nat→Int):ivs (i+1) f=ivs i f++[[i64 (f i)]]:=by simp [ivs,List.range_succ]
theorem rw0_rep (k:Nat):rw0 k k=List.replicate k [0]:=by
 refine List.ext_getElem (by simp [rw0]) fun i h1 h2=>?_
 simp [rw0]at h1⊢;omega
theorem rw0_app (k:Nat):mtz (rw0 (k+1) (k+1))=mtz (rw0 k k)++[[[i64 0]]]:=by
 rw [rw0_rep,rw0_rep,List.replicate_succ',mtz,List.map_append];rfl
theorem RNew_ok (N:Nat) (hN:1≤N) (hN2:N≤6) (p:List Pk) (hp:p.length≤60):
  Ctr Tryz.prog 163 [i64 N, .psl 3 (pks p)] [] (fun r o=>o=stO p.length (fun _=>0) (fun _=> -1) (rw0 N N)++[.box [i64 0, .vec 0,i64 (-1), .vec 1, .vec 2]]∧r=stV 0 (-1)):=by
 refine fI 0 Tryz.func163 ?_
 have hpl:=pks_len p
 (repeat' (conv=>whnf);first|refine aC ?_ ?_<;>intro<;>try omega|refine z1_T1 ?_|refine⟨_,_,rfl,rfl,Nat.le_refl _,⟨by(simp only;omega),by omega⟩,?_⟩|fail);all_goals try (conv=>whnf)
 have hr:List.replicate (pks p).length [i64 0]=ivs p.length (fun _=>0):=by rw [hpl];exact ivs_rep _ 0
 have hil:=fun(m:Nat) (f:Nat→Int)=>ivs_len m f
 refine .mk [.nb 2 3 1, .nm 2 4 1] ?_
 refine LoopOb.mk (Y:=Nat) (st:=fun i=>⟨[(6,i64 i),(5, .ptr 2 0),(4, .ptr 0 0),(0,i64 N),(1, .psl 3 (pks p))],[.box [i64 0, .nil,i64 0, .nil, .nil], .vec 1 (ivs p.length (fun _=>0)), .box [i64 0, .vec 1,i64 (-1), .vec 3, .vec 4], .vec 1 (ivs i (fun _=> -1)), .mat 1 []]⟩)
  (inv:=fun i=>i≤p.length) (fun i=>p.length-i) 0 [0,1,2,3,4] (by omega) (by rw [←hr];(exact aL)) ?_
 rintro i hi
 have h1:=hil i (fun _=> -1)
 by_cases hlt:i<p.length
 ·(repeat' (conv=>whnf);first|refine aC ?_ ?_<;>intro<;>try omega|refine z2_T1 ?_|fail);all_goals try (conv=>whnf)
  exact⟨i+1,[0,1,2,6,4],by omega,by omega,by rw [ivs_app];(exact aL)⟩
 ·obtain rfl:i=p.length:=by omega
  (repeat' (conv=>whnf);first|refine aC ?_ ?_<;>intro<;>try omega|refine z2_T1 ?_|fail);all_goals try (conv=>whnf)
  have hml:=fun k=>(mtz_len (rw0 k k)).trans (rw0_len k k)
  refine LoopOb.mk (Y:=Nat) (st:=fun k=>⟨[(7,i64 k),(5, .ptr 2 0),(4, .ptr 0 0),(0,i64 N),(1, .psl 3 (pks p))],[.box [i64 0, .nil,i64 0, .nil, .nil], .vec 1 (ivs p.length (fun _=>0)), .box [i64 0, .vec 1,i64 (-1), .vec 3, .vec 4], .vec 1 (ivs p.length (fun _=> -1)), .mat 1 (mtz (rw0 k k))]⟩)
   (inv:=fun k=>k≤N) (fun k=>N-k) 0 [0,1,2,3,4] (by omega) (by(exact aL)) ?_
  rintro k hk
  have h2:=hml k
  by_cases hlt:k<N
  ·(repeat' (conv=>whnf);first|refine aC ?_ ?_<;>intro<;>try omega|refine z2_T1 ?_|fail);all_goals try (conv=>whnf)
   exact⟨k+1,[0,1,2,3,7],by omega,by omega,by rw [rw0_app];(exact aL)⟩
  ·obtain rfl:N=k:=by omega
   (repeat' (conv=>whnf);first|refine aC ?_ ?_<;>intro<;>try omega|refine z1_T1 ?_|fail);all_goals try (conv=>whnf)
   refine .mk [.wk [1,3,4,0] ⟨[(4, .ptr 3 0)],stO p.length (fun _=>0) (fun _=> -1) (rw0 N N)++[.box [i64 0, .vec 0,i64 (-1), .vec 1, .vec 2]]⟩] ⟨by(exact aL),?_⟩
   (repeat' (conv=>whnf);first|refine aC ?_ ?_<;>intro<;>try omega|refine z1_T1 ?_|fail);all_goals try (conv=>whnf)
   exact⟨rfl,rfl⟩
end
end Go.Proofs.YtaomhdljcdadaaaGreat
