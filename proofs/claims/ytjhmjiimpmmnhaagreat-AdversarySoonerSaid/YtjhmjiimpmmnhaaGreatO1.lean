/- Lemmas of this seat. Conditions: as stated. -/
import Derived.Test.YtjhmjiimpmmnhaaGreatS7
import Derived.Test.YtjhmjiimpmmnhaaGreatMtt
import Derived.Test.YtjhmjiimpmmnhaaGreatKn
import Derived.Test.YtjhmjiimpmmnhaaGreatSo7
set_option linter.unusedVariables false
set_option linter.unusedSimpArgs false
set_option maxHeartbeats 2000000
set_option maxRecDepth 4000
namespace Go.Proofs.YtjhmjiimpmmnhaaGreat
section
open Go.Sx Go.Pk Go.Mc Go.Np
def dnO (D:Tp) (k h:Int):Option Int:=if k<0∨h<0∨D k.toNat h.toNat<0 then none else some (D k.toNat h.toNat)
def enO (n:Nt) (p:List Pk) (D:Tp) (k:Int):Option Int:=if k<0∨(p.length:Int)≤k then none else match dnO D k (hps n p k-1)with
 |none=>none
 |some d=>some (d-(p.getD k.toNat pk0).t)
theorem dR_out {ms:List (List Int)} {i j:Nat} (h:ms.length≤i∨(ms.getD i []).length ≤j):dR ms i j= -1:=by
 unfold dR
 rcases h with h|h
 ·rw [List.getD_eq_getElem?_getD (l:=ms),List.getElem?_eq_none h];simp
 ·rw [List.getD_eq_getElem?_getD,List.getElem?_eq_none h];rfl
theorem dR_in {ms:List (List Int)} {i j:Nat} (h:j<(ms.getD i []).length):(ms.getD i []).getD j 0=dR ms i j:=getD_dflt h
theorem ODone_ok (ms:List (List Int)) (hm:MsL ms) (k h:Int):Ctr Tryz.prog 83 [.agg [.psl 1 (trs ms)],i64 k,i64 h] [] (fun r o=>o=[]∧r=arrT (dnO (dR ms) k h)):=by
 refine fI 0 Tryz.func83 ?_
 have htl:=trs_len ms
 have hml:=hm.l
 have hnone:(k<0∨h<0∨dR ms k.toNat h.toNat<0)→dnO (dR ms) k h=none:=fun c=>if_pos c
 have hsome:¬(k<0∨h<0∨dR ms k.toNat h.toNat<0)→dnO (dR ms) k h=some (dR ms k.toNat h.toNat):=fun c=>if_neg c
 by_cases h1:k<0∨(ms.length:Int)≤k
 ·rw [hnone (h1.elim .inl fun c=> .inr (.inr (by rw [dR_out (.inl (by omega))];omega)))]
  (repeat' (conv=>whnf);first|refine aC ?_ ?_<;>intro<;>try omega|refine z2_T1 ?_|fail);all_goals try (conv=>whnf)
  all_goals exact⟨rfl,rfl⟩
 have hgt:=trs_get (ms:=ms) (i:=k.toNat) (by omega)
 have hrl:=hm.r k.toNat
 have hrv:=hm.v k.toNat
 have hro:=fun j=>dR_out (ms:=ms) (i:=k.toNat) (j:=j)
 have hri:=fun j=>dR_in (ms:=ms) (i:=k.toNat) (j:=j)
 generalize ms.getD k.toNat []=row at*
 have hil:=ints_len row
 by_cases h2:h<0∨(row.length:Int)≤h
 ·rw [hnone (h2.elim (fun c=> .inr (.inl c)) fun c=> .inr (.inr (by rw [hro _ (.inr (by omega))];omega)))]
  (repeat' (conv=>whnf);first|refine⟨k.toNat,_,by omega,hgt,?_⟩|refine aC ?_ ?_<;>intro<;>try omega|refine z2_T1 ?_|fail);all_goals try (conv=>whnf)
  all_goals exact⟨rfl,rfl⟩
 have hgv:=ints_get (l:=row) (j:=h.toNat) (by omega)
 rw [hri _ (by omega)]at hgv
 generalize dR ms k.toNat h.toNat=v at*
 (repeat' (conv=>whnf);first|refine⟨h.toNat,_,by omega,hgv,?_⟩|refine⟨k.toNat,_,by omega,hgt,?_⟩|refine aC ?_ ?_<;>intro<;>try omega|refine z2_T1 ?_|fail);all_goals try (conv=>whnf)
 all_goals first
  |exact⟨rfl,by rw [hnone (by omega)];rfl⟩
  |exact⟨rfl,by rw [hsome (by omega)];rfl⟩
theorem dnO_bd {ms:List (List Int)} (hm:MsL ms) {k h d:Int} (e:dnO (dR ms) k h=some d):0≤d∧d≤4611686018427387904:=by
 unfold dnO at e
 split at e
 ·cases e
 ·rename_i hn
  injection e with e
  by_cases c:h.toNat<(ms.getD k.toNat []).length
  ·rw [←dR_in c]at e;have:=hm.v k.toNat h.toNat;rw [dR_in c]at e this;omega
  ·have:=dR_out (ms:=ms) (i:=k.toNat) (j:=h.toNat) (.inr (by omega));omega
theorem z2_O1 {G H:Prop} (k:H) (h:H→G:=by first|exact fun r=>aS r|exact fun r=>aG r|exact fun r=>aD r|exact fun r=>aH r|exact fun r=>aP_T1 r|exact fun r=>aI r|exact fun r=>aJ r|exact fun r=>aW (.qs [0,1,2,3,4,5,6,7,8,9,10,11,12,13,14,15,16,17,18,19,20,21,22,23,24,25,26] .nil) r|exact fun r=>aW (.qs [0,1,2,3,4,5,6,7,8,9,10] .nil) r):G:=h k
theorem ORouO_ok (n:Nt) (hn:NL n) (p:List Pk) (hp:p.length≤1000) (k:Int) (hk:k<0∨(p.length:Int)≤k):Ctr Tryz.prog 84 [ntv n, .psl 3 (pks p),i64 k] [] (fun r o=>o=[]∧r= .nil):=by
 refine fI 0 Tryz.func84 ?_
 have hpl:=pks_len p
 (repeat' (conv=>whnf);first|refine AsgOb.nil ?_|refine aC ?_ ?_<;>intro<;>try omega|refine z2_O1 ?_|fail);all_goals try (conv=>whnf)
 all_goals exact⟨rfl,rfl⟩
theorem ORouI_ok (n:Nt) (hn:NL n) (p:List Pk) (h:SkP n p) (k:Nat) (hk:k<p.length):Ctr Tryz.prog 84 [ntv n, .psl 3 (pks p),i64 k] [] (fun r o=>o=[]∧r= .psl 1 (ints (pfl n (p.getD k pk0)).rt)):=by
 refine fI 0 Tryz.func84 ?_
 have hpl:=pks_len p
 have hfl:=fll n.fl
 have hg:=pks_get hk
 obtain⟨f1,f2,_,_,hRt,_⟩:=h.fl hk
 have hfg:=flg (l:=n.fl) (i:=(p.getD k pk0).f.toNat) (by omega)
 unfold pfl
 generalize p.getD k pk0=x at*
 (repeat' (conv=>whnf);first|refine⟨x.f.toNat,_,by omega,hfg,?_⟩|refine⟨k,_,rfl,hg,?_⟩|refine AsgOb.nil ?_|refine aC ?_ ?_<;>intro<;>try omega|refine z2_O1 ?_|fail);all_goals try (conv=>whnf)
 exact⟨rfl,rfl⟩
theorem enO_in {n:Nt} {p:List Pk} (h:SkP n p) {D:Tp} {k:Nat} (hk:k<p.length):enO n p D k=match dnO D k (((pfl n (p.getD k pk0)).rt.length :Int)-1)with
  |none=>none
  |some d=>some (d-(p.getD k pk0).t):=by
 unfold enO hps
 obtain⟨f1,f2,_⟩:=h.fl hk
 rw [if_neg (by omega),if_neg (by simp only [Int.toNat_natCast];omega)]
 rfl
theorem z3_O1 {G H:Prop} (k:H) (h:H→G:=by first|exact fun r=>aS r|exact fun r=>aG r|exact fun r=>aD r|exact fun r=>aH r|exact fun r=>aP_T1 r|exact fun r=>aI r|exact fun r=>aJ r|exact fun r=>aW (.qs [0,1,2,3,4] (.l 5 [0] (.qs [6,7] (.l 8 [] (.qs [9,10,11,12,13] .nil) .no)) .no)) r):G:=h k
theorem OEnd_ok (n:Nt) (hn:NL n) (p:List Pk) (h:SkP n p) (ms:List (List Int)) (hm:MsL ms) (k:Int):Ctr Tryz.prog 55 [ntv n, .psl 3 (pks p), .agg [.psl 1 (trs ms)],i64 k] [] (fun r o=>o=[]∧r=arrT (enO n p (dR ms) k)):=by
 refine fI 0 Tryz.func55 ?_
 have h60:=h.l
 have hpl:=pks_len p
 by_cases hk:k<0∨(p.length:Int)≤k
 ·have e:enO n p (dR ms) k=none:=if_pos hk
  rw [e]
  (repeat' (conv=>whnf);first|refine aC ?_ ?_<;>intro<;>try omega|refine z3_O1 ?_|(refine aK [] (ORouO_ok n hn p (by omega) k hk) ?_)|(refine CallOb.mk [] (ODone_ok ms hm k (0-1)) rfl ⟨Imp.refl _,Imp.refl _,Imp.num (by omega),trivial⟩ rfl rfl ?_;rintro _ _ ⟨rfl,rfl⟩;rw [show dnO (dR ms) k (0-1)=none from if_pos (.inr (.inl (by omega)))];simp only [arrT])|fail);all_goals try (conv=>whnf)
  exact⟨rfl,rfl⟩
 ·obtain⟨k,rfl⟩:∃k':Nat,k=k':=⟨k.toNat,by omega⟩
  have hkl:k<p.length:=by omega
  rw [enO_in h hkl]
  have cR:=ORouI_ok n hn p h k hkl
  have hg:=pks_get hkl
  obtain⟨f1,f2,t1,t2,hRt,_⟩:=h.fl hkl
  have r4:=hRt.l2
  have hrl:=ints_len (pfl n (p.getD k pk0)).rt
  generalize (pfl n (p.getD k pk0)).rt =rt at*
  generalize p.getD k pk0=x at*
  have cD:=ODone_ok ms hm k ((rt.length:Int)-1)
  have hb:=fun d=>dnO_bd (d:=d) hm (k:=k) (h:=(rt.length:Int)-1)
  cases hd:dnO (dR ms) k ((rt.length:Int)-1)with
  |none=>
   rw [hd]at cD
   simp only [arrT]at cD
   (repeat' (conv=>whnf);first|refine aC ?_ ?_<;>intro<;>try omega|refine z3_O1 ?_|(refine aK [] cR ?_)|(refine CallOb.mk [] cD rfl ⟨Imp.refl _,Imp.refl _,Imp.num (by omega),trivial⟩ rfl rfl ?_;rintro _ _ ⟨rfl,rfl⟩)|fail);all_goals try (conv=>whnf)
   exact⟨rfl,rfl⟩
  |some d=>
   rw [hd]at cD
   have hb:=hb d hd
   simp only [arrT]at cD
   (repeat' (conv=>whnf);first|refine⟨k,_,rfl,hg,?_⟩|refine aC ?_ ?_<;>intro<;>try omega|refine z3_O1 ?_|(refine aK [] cR ?_)|(refine CallOb.mk [] cD rfl ⟨Imp.refl _,Imp.refl _,Imp.num (by omega),trivial⟩ rfl rfl ?_;rintro _ _ ⟨rfl,rfl⟩)|fail);all_goals try (conv=>whnf)
   exact⟨rfl,rfl⟩
end
section
open Go.Sx Go.Pk Go.Mc Go.Np
structure WrS where
 a:Int
 d:Int
 b:Bool
def worF (n:Nt) (p:List Pk) (D:Tp) (f:Int):Nat→WrS
 |0=>⟨0,0,false⟩
 |i+1=>match enO n p D i with
  |none=>worF n p D f i
  |some d=>if(p.getD i pk0).f =f∧((worF n p D f i).b =false∨(worF n p D f i).d <d)then⟨i,d,true⟩else worF n p D f i
abbrev wrV (s:WrS):SV:= .tup [i64 s.a,i64 s.d, .bl s.b]
theorem OWor_ok (n:Nt) (hn:NL n) (p:List Pk) (h:SkP n p) (ms:List (List Int)) (hm:MsL ms) (f:Int):Ctr Tryz.prog 51 [ntv n, .psl 3 (pks p), .agg [.psl 1 (trs ms)],i64 f] [] (fun r o=>o=[]∧r=wrV (worF n p (dR ms) f p.length)):=by
 refine fI 0 Tryz.func51 ?_
 have h60:=h.l
 have hpl:=pks_len p
 (repeat' (conv=>whnf);first|refine aC ?_ ?_<;>intro<;>try omega|refine z2_T1 ?_|fail);all_goals try (conv=>whnf)
 refine LoopOb.mk (Y:=Nat) (st:=fun i=>⟨[(17,i64 i),(16,i64 (pks p).length),(15, .psl 3 (pks p)),(8,i64 (worF n p (dR ms) f i).a),(9,i64 (worF n p (dR ms) f i).d),(10, .bl (worF n p (dR ms) f i).b),(6, .ptr 1 0),(4, .ptr 0 0),(1, .psl 3 (pks p)),(3,i64 f)],[nbx n, .box [.psl 1 (trs ms)]]⟩)
  (inv:=fun i=>i≤p.length) (fun i=>p.length-i) 0 [0,1] (by omega) (by(exact aL)) ?_
 rintro i hi
 by_cases hil:i<p.length
 ·have hg:=pks_get hil
  have cE:=OEnd_ok n hn p h ms hm i
  have hnx:worF n p (dR ms) f (i+1)=match enO n p (dR ms) i with
   |none=>worF n p (dR ms) f i
   |some d=>if(p.getD i pk0).f =f∧((worF n p (dR ms) f i).b =false∨(worF n p (dR ms) f i).d <d)then⟨i,d,true⟩else worF n p (dR ms) f i:=rfl
  generalize p.getD i pk0=x at*
  generalize worF n p (dR ms) f i=s at*
  obtain⟨sa,sd,sb⟩:=s
  dsimp only at hnx⊢
  cases he:enO n p (dR ms) i with
  |none=>
   rw [he]at cE hnx
   simp only [arrT]at cE hnx
   (repeat' (conv=>whnf);first|refine⟨i,_,rfl,hg,?_⟩|refine aC ?_ ?_<;>intro<;>try omega|refine z2_T1 ?_|(refine aK [] cE ?_)|fail);all_goals try (conv=>whnf)
   all_goals exact⟨i+1,[0,1],by omega,by omega,by rw [hnx];(exact aL)⟩
  |some d=>
   rw [he]at cE hnx
   simp only [arrT]at cE hnx
   cases sb
   ·(repeat' (conv=>whnf);first|refine⟨i,_,rfl,hg,?_⟩|refine aC ?_ ?_<;>intro<;>try omega|refine z2_T1 ?_|(refine aK [] cE ?_)|fail);all_goals try (conv=>whnf)
    all_goals first
     |exact⟨i+1,[0,1],by omega,by omega,by rw [hnx,if_neg (by omega)];(exact aL)⟩
     |exact⟨i+1,[0,1],by omega,by omega,by rw [hnx,if_pos ⟨by omega, .inl rfl⟩];(exact aL)⟩
     |trace_state
   ·have hnx2:=hnx
    simp only [Bool.true_eq_false,false_or]at hnx2
    (repeat' (conv=>whnf);first|refine⟨i,_,rfl,hg,?_⟩|refine aC ?_ ?_<;>intro<;>try omega|refine z2_T1 ?_|(refine aK [] cE ?_)|fail);all_goals try (conv=>whnf)
    all_goals first
     |exact⟨i+1,[0,1],by omega,by omega,by rw [hnx2,if_neg (by omega)];(exact aL)⟩
     |exact⟨i+1,[0,1],by omega,by omega,by rw [hnx2,if_pos ⟨by omega,by omega⟩];(exact aL)⟩
     |trace_state
 ·obtain rfl:i=p.length:=by omega
  (repeat' (conv=>whnf);first|refine aC ?_ ?_<;>intro<;>try omega|refine z2_T1 ?_|fail);all_goals try (conv=>whnf)
  exact⟨rfl,rfl⟩
end
section
open Go.Sx Go.Cv Go.Gd Go.Np Go.Pk Go.St Go.Mc
structure Atk where
 p:List Pk
 f:Int
 a:Int
 d:Int
abbrev at0:Atk:=⟨[],0,0,0⟩
abbrev atw (x:Atk):SV:= .agg [.psl 3 (pks x.p),i64 x.f,i64 x.a,i64 x.d]
noncomputable def plG (n:Nt) (f:Int) (os cs:List Int):Atk×Int:=
 if f<0∨(n.fl.length:Int)≤f then(at0,2)else if(bldG n os cs).2 ≠0 then(at0,(bldG n os cs).2)else
 if(rnG n (bldG n os cs).1 1000).2 ≠0 then(at0,(rnG n (bldG n os cs).1 1000).2)else
 if(worF n (bldG n os cs).1 (dR (rnG n (bldG n os cs).1 1000).1) f (bldG n os cs).1.length).b =false then(at0,5)else
 (⟨(bldG n os cs).1,f,(worF n (bldG n os cs).1 (dR (rnG n (bldG n os cs).1 1000).1) f (bldG n os cs).1.length).a,(worF n (bldG n os cs).1 (dR (rnG n (bldG n os cs).1 1000).1) f (bldG n os cs).1.length).d⟩,0)
theorem bldG_len (n:Nt) (os cs:List Int):(bldG n os cs).1.length ≤60:=by
 unfold bldG
 split
 ·simp
 ·split
  ·simp
  ·split
   ·simp
   ·split
    ·simp
    ·simp only [srt_len];omega
theorem rnG_ok0 {n:Nt} {p:List Pk} {k:Int} (h:(rnG n p k).2 =0):SkP n p∧0≤k∧k≤2000∧rnG n p k=(trR (toF n p) (liN n) k.toNat,0):=by
 by_cases hs:SkP n p
 ·by_cases hk:k<0∨2000<k
  ·unfold rnG at h
   rw [if_neg (by rw [sck_zero.2 hs];simp),if_pos hk]at h
   cases h
  ·exact⟨hs,by omega,by omega,rnG_in hs (by omega) (by omega)⟩
 ·have h2:sck n p≠0:=fun c=>hs (sck_zero.1 c)
  unfold rnG at h
  rw [if_pos h2]at h
  exact absurd h h2
theorem Play_ok (n:Nt) (hn:NL n) (f:Int) (os cs:List Int) (hos:os.length≤1000000) (hcs:cs.length≤1000000):
  Ctr Tryz.prog 22 [ntv n,i64 f, .psl 1 (ints os), .psl 1 (ints cs)] [] (fun r o=>o=[]∧r= .tup [atw (plG n f os cs).1,i64 (plG n f os cs).2]):=by
 refine Ctr.imp ?_
 refine fI 0 Tryz.func22 ?_
 have hfl:=fll n.fl
 have hnf:=hn.fl
 have cB:=Build_ok n hn os cs hos hcs
 unfold plG
 by_cases hf:f<0∨(n.fl.length:Int)≤f
 ·rw [if_pos hf]
  (repeat' (conv=>whnf);first|refine aC ?_ ?_<;>intro<;>try omega|refine z2_T11 ?_|fail);all_goals try (conv=>whnf)
  all_goals exact⟨rfl,Imp.tup ⟨Imp.agg ⟨Imp.nil _,Imp.refl _,Imp.refl _,Imp.refl _,trivial⟩,Imp.refl _,trivial⟩⟩
 ·rw [if_neg hf]
  have h60:=bldG_len n os cs
  generalize bldG n os cs=B at*
  obtain⟨p,e⟩:=B
  dsimp only at cB h60⊢
  by_cases he:e=0
  ·subst he
   rw [if_neg (by simp)]
   have cR:=RunG_ok n hn p (by omega) 1000
   have hr:=rnG_ok0 (n:=n) (p:=p) (k:=1000)
   generalize rnG n p 1000=R at*
   obtain⟨T,e⟩:=R
   dsimp only [rnV]at cR hr⊢
   by_cases he:e=0
   ·subst he
    obtain⟨hs,_,_,hT⟩:=hr rfl
    have hT:T=trR (toF n p) (liN n) 1000:=congrArg Prod.fst hT
    subst hT
    have hm:MsL (trR (toF n p) (liN n) 1000):=MsL.of hs (by omega) (trR_sh hs.rts)
    have cW:=OWor_ok n hn p hs _ hm f
    rw [if_neg (by simp)]
    generalize worF n p (dR (trR (toF n p) (liN n) 1000)) f p.length=W at*
    obtain⟨wa,wd,wb⟩:=W
    dsimp only [wrV]at cW⊢
    have hpl:=pks_len p
    cases wb with
    |false=>
     rw [if_pos rfl]
     (repeat' (conv=>whnf);first|refine aC ?_ ?_<;>intro<;>try omega|refine z2_T11 ?_|(refine aK [] (cB) ?_)|(refine aK [] (cR) ?_)|(refine aK [] (cW) ?_)|fail);all_goals try (conv=>whnf)
     exact⟨rfl,Imp.tup ⟨Imp.agg ⟨Imp.nil _,Imp.refl _,Imp.refl _,Imp.refl _,trivial⟩,Imp.refl _,trivial⟩⟩
    |true=>
     rw [if_neg (by simp)]
     (repeat' (conv=>whnf);first|refine aC ?_ ?_<;>intro<;>try omega|refine z2_T11 ?_|(refine aK [] (cB) ?_)|(refine aK [] (cR) ?_)|(refine aK [] (cW) ?_)|fail);all_goals try (conv=>whnf)
     exact⟨rfl,Imp.refl _⟩
   ·rw [if_pos he]
    (repeat' (conv=>whnf);first|refine aC ?_ ?_<;>intro<;>try omega|refine z2_T11 ?_|(refine aK [] (cB) ?_)|(refine aK [] (cR) ?_)|fail);all_goals try (conv=>whnf)
    all_goals first
     |exact⟨rfl,Imp.tup ⟨Imp.agg ⟨Imp.nil _,Imp.refl _,Imp.refl _,Imp.refl _,trivial⟩,Imp.refl _,trivial⟩⟩
     |exact absurd (Classical.not_not.1 (by assumption)) he
  ·rw [if_pos he]
   (repeat' (conv=>whnf);first|refine aC ?_ ?_<;>intro<;>try omega|refine z2_T11 ?_|(refine aK [] (cB) ?_)|fail);all_goals try (conv=>whnf)
   all_goals first
    |exact⟨rfl,Imp.tup ⟨Imp.agg ⟨Imp.nil _,Imp.refl _,Imp.refl _,Imp.refl _,trivial⟩,Imp.refl _,trivial⟩⟩
    |exact absurd (Classical.not_not.1 (by assumption)) he
end
end Go.Proofs.YtjhmjiimpmmnhaaGreat
