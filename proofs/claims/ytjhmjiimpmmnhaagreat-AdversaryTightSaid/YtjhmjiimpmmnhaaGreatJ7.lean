/- Lemmas of this seat. Conditions: as stated. -/
import Derived.Test.YtjhmjiimpmmnhaaGreatMtt
import Derived.Test.YtjhmjiimpmmnhaaGreatSo7
set_option linter.unusedVariables false
set_option linter.unusedSimpArgs false
set_option maxHeartbeats 2000000
set_option maxRecDepth 4000
namespace Go.Proofs.YtjhmjiimpmmnhaaGreat
section
open Go.Sx Go.Cv Go.Gd Go.Np Go.Pk Go.St Go.Mc
structure Atk where
 p:List Pk
 f:Int
 a:Int
 d:Int
abbrev at0:Atk:=⟨[],0,0,0⟩
abbrev atw (x:Atk):SV:= .agg [.psl 3 (pks x.p),i64 x.f,i64 x.a,i64 x.d]
noncomputable def plG (n:Nt) (f:Int) (os cs:List Int):Atk×Int:=
 if f<0∨(n.fl.length:Int)≤f then(at0,2)else if(bldG n os cs).2 ≠0 then(at0,(bldG n os cs).2)else
 if(rnG n (bldG n os cs).1 1000).2 ≠0 then(at0,(rnG n (bldG n os cs).1 1000).2)else
 if(worF n (bldG n os cs).1 (dR (rnG n (bldG n os cs).1 1000).1) f (bldG n os cs).1.length).b =false then(at0,5)else
 (⟨(bldG n os cs).1,f,(worF n (bldG n os cs).1 (dR (rnG n (bldG n os cs).1 1000).1) f (bldG n os cs).1.length).a,(worF n (bldG n os cs).1 (dR (rnG n (bldG n os cs).1 1000).1) f (bldG n os cs).1.length).d⟩,0)
theorem bldG_len (n:Nt) (os cs:List Int):(bldG n os cs).1.length ≤60:=by
 unfold bldG
 split
 ·simp
 ·split
  ·simp
  ·split
   ·simp
   ·split
    ·simp
    ·simp only [srt_len];omega
theorem rnG_ok0 {n:Nt} {p:List Pk} {k:Int} (h:(rnG n p k).2 =0):SkP n p∧0≤k∧k≤2000∧rnG n p k=(trR (toF n p) (liN n) k.toNat,0):=by
 by_cases hs:SkP n p
 ·by_cases hk:k<0∨2000<k
  ·unfold rnG at h
   rw [if_neg (by rw [sck_zero.2 hs];simp),if_pos hk]at h
   cases h
  ·exact⟨hs,by omega,by omega,rnG_in hs (by omega) (by omega)⟩
 ·have h2:sck n p≠0:=fun c=>hs (sck_zero.1 c)
  unfold rnG at h
  rw [if_pos h2]at h
  exact absurd h h2
theorem Play_ok (n:Nt) (hn:NL n) (f:Int) (os cs:List Int) (hos:os.length≤1000000) (hcs:cs.length≤1000000):
  Ctr Tryz.prog 22 [ntv n,i64 f, .psl 1 (ints os), .psl 1 (ints cs)] [] (fun r o=>o=[]∧r= .tup [atw (plG n f os cs).1,i64 (plG n f os cs).2]):=by
 refine Ctr.imp ?_
 refine fI 0 Tryz.func22 ?_
 have hfl:=fll n.fl
 have hnf:=hn.fl
 have cB:=Build_ok n hn os cs hos hcs
 unfold plG
 by_cases hf:f<0∨(n.fl.length:Int)≤f
 ·rw [if_pos hf]
  (repeat' (conv=>whnf);first|refine aC ?_ ?_<;>intro<;>try omega|refine z2_T11 ?_|fail);all_goals try (conv=>whnf)
  all_goals exact⟨rfl,Imp.tup ⟨Imp.agg ⟨Imp.nil _,Imp.refl _,Imp.refl _,Imp.refl _,trivial⟩,Imp.refl _,trivial⟩⟩
 ·rw [if_neg hf]
  have h60:=bldG_len n os cs
  generalize bldG n os cs=B at*
  obtain⟨p,e⟩:=B
  dsimp only at cB h60⊢
  by_cases he:e=0
  ·subst he
   rw [if_neg (by simp)]
   have cR:=RunG_ok n hn p (by omega) 1000
   have hr:=rnG_ok0 (n:=n) (p:=p) (k:=1000)
   generalize rnG n p 1000=R at*
   obtain⟨T,e⟩:=R
   dsimp only [rnV]at cR hr⊢
   by_cases he:e=0
   ·subst he
    obtain⟨hs,_,_,hT⟩:=hr rfl
    have hT:T=trR (toF n p) (liN n) 1000:=congrArg Prod.fst hT
    subst hT
    have hm:MsL (trR (toF n p) (liN n) 1000):=MsL.of hs (by omega) (trR_sh hs.rts)
    have cW:=OWor_ok n hn p hs _ hm f
    rw [if_neg (by simp)]
    generalize worF n p (dR (trR (toF n p) (liN n) 1000)) f p.length=W at*
    obtain⟨wa,wd,wb⟩:=W
    dsimp only [wrV]at cW⊢
    have hpl:=pks_len p
    cases wb with
    |false=>
     rw [if_pos rfl]
     (repeat' (conv=>whnf);first|refine aC ?_ ?_<;>intro<;>try omega|refine z2_T11 ?_|(refine aK [] (cB) ?_)|(refine aK [] (cR) ?_)|(refine aK [] (cW) ?_)|fail);all_goals try (conv=>whnf)
     exact⟨rfl,Imp.tup ⟨Imp.agg ⟨Imp.nil _,Imp.refl _,Imp.refl _,Imp.refl _,trivial⟩,Imp.refl _,trivial⟩⟩
    |true=>
     rw [if_neg (by simp)]
     (repeat' (conv=>whnf);first|refine aC ?_ ?_<;>intro<;>try omega|refine z2_T11 ?_|(refine aK [] (cB) ?_)|(refine aK [] (cR) ?_)|(refine aK [] (cW) ?_)|fail);all_goals try (conv=>whnf)
     exact⟨rfl,Imp.refl _⟩
   ·rw [if_pos he]
    (repeat' (conv=>whnf);first|refine aC ?_ ?_<;>intro<;>try omega|refine z2_T11 ?_|(refine aK [] (cB) ?_)|(refine aK [] (cR) ?_)|fail);all_goals try (conv=>whnf)
    all_goals first
     |exact⟨rfl,Imp.tup ⟨Imp.agg ⟨Imp.nil _,Imp.refl _,Imp.refl _,Imp.refl _,trivial⟩,Imp.refl _,trivial⟩⟩
     |exact absurd (Classical.not_not.1 (by assumption)) he
  ·rw [if_pos he]
   (repeat' (conv=>whnf);first|refine aC ?_ ?_<;>intro<;>try omega|refine z2_T11 ?_|(refine aK [] (cB) ?_)|fail);all_goals try (conv=>whnf)
   all_goals first
    |exact⟨rfl,Imp.tup ⟨Imp.agg ⟨Imp.nil _,Imp.refl _,Imp.refl _,Imp.refl _,trivial⟩,Imp.refl _,trivial⟩⟩
    |exact absurd (Classical.not_not.1 (by assumption)) he
end
section
open Go.Sx Go.Cv Go.Gd Go.Np Go.Pk Go.St Go.Mc
theorem BuildV_ok (n:Nt) (hn:NL n) (os cs:List Int) (hos:os.length≤1000000) (hcs:cs.length≤1000000):
  Ctr Tryz.prog 19 [ntv n, .vec 0, .psl 1 (ints cs)] [.vec 1 (ints os)] (fun r o=>o=[.vec 1 (ints os)]∧r= .tup [.psl 3 (pks (bldG n os cs).1),i64 (bldG n os cs).2]):=by
 refine Ctr.imp ?_
 refine fI 1 Tryz.func19 ?_
 have hol:=ints_len os
 have hcl:=ints_len cs
 have hfl:=fll n.fl
 have hnf:=hn.fl
 have cK:=Check_ok n hn
 unfold bldG
 by_cases hc:chkN n=0
 ·rw [if_neg (by simpa using hc)]
  rw [hc]at cK
  by_cases hl:os.length≠n.fl.length∨cs.length≠n.fl.length
  ·rw [if_pos hl]
   (repeat' (conv=>whnf);first|refine AsgOb.nil ?_|refine aC ?_ ?_<;>intro<;>try omega|refine z2_J5 ?_|(refine aK [] (cK) ?_)|fail);all_goals try (conv=>whnf)
   all_goals exact⟨rfl,Imp.tup ⟨Imp.nil _,Imp.refl _,trivial⟩⟩
  ·rw [if_neg hl]
   have h10:=chk_n hc
   (repeat' (conv=>whnf);first|refine aC ?_ ?_<;>intro<;>try omega|refine z2_J5 ?_|(refine aK [] (cK) ?_)|fail);all_goals try (conv=>whnf)
   refine LoopOb.mk (Y:=Nat) (st:=fun i=>⟨[(35,i64 i),(34,i64 (fls n.fl).length),(33, .psl 8 (fls n.fl)),(8, .vec 2),(3, .ptr 1 0),(1, .vec 0),(2, .psl 1 (ints cs))],[.vec 1 (ints os), .box [.psl 1 (strs n.nm), .psl 5 (lns n.ln), .psl 8 (fls n.fl)], .vec 3 (pks (bldL n os cs i))]⟩)
    (inv:=fun i=>i≤n.fl.length∧bldE n os cs i=0) (fun i=>n.fl.length-i) 0 [0,1,3] ⟨by omega,rfl⟩ (by(exact aL)) ?_
   rintro i ⟨hi,he⟩
   by_cases hil:i<n.fl.length
   ·have hfg:=flg (l:=n.fl) (i:=i) hil
    have hog:=ints_get (l:=os) (j:=i) (by omega)
    have hcg:=ints_get (l:=cs) (j:=i) (by omega)
    have hll:=bldL_len n os cs i
    have hE:bldE n os cs (i+1)=(greG (n.fl.getD i fl0).v (n.fl.getD i fl0).p (n.fl.getD i fl0).q (n.fl.getD i fl0).hi (os.getD i 0) (cs.getD i 0)).2 :=by simp only [bldE];rw [if_neg (by omega)]
    have hL:bldL n os cs (i+1)=bldL n os cs i++bldF (n.fl.getD i fl0) i (os.getD i 0) (cs.getD i 0):=rfl
    have hge:=fun h=>bldE_ge (n:=n) (os:=os) (cs:=cs) (i:=i+1) h n.fl.length hil
    generalize n.fl.getD i fl0=f at*
    generalize os.getD i 0=o at*
    generalize cs.getD i 0=c at*
    have cG:=Greedy_ok f.v f.p f.q f.hi o c
    have hgl:=greG_len f.v f.p f.q f.hi o c
    have hbf:bldF f i o c=(greG f.v f.p f.q f.hi o c).1.map fun t=>⟨i,t,f.hi⟩:=rfl
    rw [hbf]at hL
    generalize greG f.v f.p f.q f.hi o c=G at*
    obtain⟨T,e⟩:=G
    dsimp only at*
    by_cases he0:e=0
    ·subst he0
     (repeat' (conv=>whnf);first|refine⟨i,_,rfl,hcg,?_⟩|refine⟨_,hog,?_⟩|refine⟨i,rfl,by omega,?_⟩|refine⟨i,_,rfl,hfg,?_⟩|refine aC ?_ ?_<;>intro<;>try omega|refine z2_J5 ?_|(refine aK [] (cG) ?_)|fail);all_goals try (conv=>whnf)
     have htl:=ints_len T
     refine LoopOb.mk (Y:=Nat) (st:=fun k=>⟨[(62,i64 k),(61,i64 (ints T).length),(60, .psl 1 (ints T)),(9,i64 i),(10, .ptr 3 0),(35,i64 i),(34,i64 (fls n.fl).length),(33, .psl 8 (fls n.fl)),(8, .vec 2),(3, .ptr 1 0),(1, .vec 0),(2, .psl 1 (ints cs))],[.vec 1 (ints os), .box [.psl 1 (strs n.nm), .psl 5 (lns n.ln), .psl 8 (fls n.fl)], .vec 3 (pks (bldL n os cs i++(T.take k).map fun t=>⟨i,t,f.hi⟩)), .box (flv f)]⟩)
      (inv:=fun k=>k≤T.length) (fun k=>T.length-k) 0 [0,1,2,3] (by omega) (by rw [List.take_zero,List.map_nil,List.append_nil];(exact aL)) ?_
     rintro k hk
     by_cases hkl:k<T.length
     ·have hg:=ints_get (l:=T) (j:=k) hkl
      have hnx:pks (bldL n os cs i++(T.take (k+1)).map fun t=>(⟨i,t,f.hi⟩:Pk))=pks (bldL n os cs i++(T.take k).map fun t=>⟨i,t,f.hi⟩)++[[i64 i,i64 (T.getD k 0),i64 f.hi]]:=by
       rw [List.take_succ_eq_append_getElem hkl,show T.getD k 0=T[k]by rw [List.getD_eq_getElem?_getD,List.getElem?_eq_getElem hkl];rfl]
       simp only [pks,List.map_append,List.map_cons,List.map_nil,List.append_assoc]
      have hml:(bldL n os cs i++(T.take k).map fun t=>(⟨i,t,f.hi⟩:Pk)).length ≤660:=by simp only [List.length_append,List.length_map,List.length_take];omega
      generalize bldL n os cs i++(T.take k).map (fun t=>(⟨i,t,f.hi⟩:Pk))=L at*
      generalize T.getD k 0=t at*
      have hLl:=pks_len L
      (repeat' (conv=>whnf);first|refine⟨k,_,rfl,hg,?_⟩|refine aC ?_ ?_<;>intro<;>try omega|refine z2_J5 ?_|fail);all_goals try (conv=>whnf)
      exact⟨k+1,[0,1,5,3],by omega,by omega,by rw [hnx];(exact aL)⟩
     ·obtain rfl:k=T.length:=by omega
      rw [List.take_length,←hL]
      (repeat' (conv=>whnf);first|refine aC ?_ ?_<;>intro<;>try omega|refine z2_J5 ?_|fail);all_goals try (conv=>whnf)
      exact⟨i+1,[0,1,2],⟨by omega,hE⟩,by omega,by(exact aL)⟩
    ·have he1:=hge (by rw [hE];exact he0)
     rw [hE]at he1
     rw [he1,if_pos he0]
     (repeat' (conv=>whnf);first|refine⟨i,_,rfl,hcg,?_⟩|refine⟨_,hog,?_⟩|refine⟨i,rfl,by omega,?_⟩|refine⟨i,_,rfl,hfg,?_⟩|refine AsgOb.nil ?_|refine aC ?_ ?_<;>intro<;>try omega|refine z2_J5 ?_|(refine aK [] (cG) ?_)|fail);all_goals try (conv=>whnf)
     exact⟨rfl,Imp.tup ⟨Imp.nil _,Imp.refl _,trivial⟩⟩
   ·obtain rfl:i=n.fl.length:=by omega
    rw [he,if_neg (by simp)]
    have hll:=bldL_len n os cs n.fl.length
    generalize bldL n os cs n.fl.length=L at*
    have hLl:=pks_len L
    by_cases h60:60<L.length
    ·rw [if_pos h60]
     (repeat' (conv=>whnf);first|refine AsgOb.nil ?_|refine aC ?_ ?_<;>intro<;>try omega|refine z2_J5 ?_|fail);all_goals try (conv=>whnf)
     exact⟨rfl,Imp.tup ⟨Imp.nil _,Imp.refl _,trivial⟩⟩
    ·rw [if_neg h60]
     have cS:=SortStableN_ok _ _ bldC_ok L (by omega)
     (repeat' (conv=>whnf);first|refine aC ?_ ?_<;>intro<;>try omega|refine z3_J5 ?_|(refine Gh.mk [] ?_;(conv=>whnf);refine aK [2] cS ?_)|fail);all_goals try (conv=>whnf)
     refine .mk [.fz 2] ?_
     (repeat' (conv=>whnf);first|refine aC ?_ ?_<;>intro<;>try omega|refine z2_J5 ?_|fail);all_goals try (conv=>whnf)
     exact⟨rfl,Imp.refl _⟩
 ·rw [if_pos hc]
  (repeat' (conv=>whnf);first|refine AsgOb.nil ?_|refine aC ?_ ?_<;>intro<;>try omega|refine z2_J5 ?_|(refine aK [] (cK) ?_)|fail);all_goals try (conv=>whnf)
  all_goals first
   |exact⟨rfl,Imp.tup ⟨Imp.nil _,Imp.refl _,trivial⟩⟩
   |exact absurd (by assumption) hc
end
section
open Go.Sx Go.Cv Go.Gd Go.Np Go.Pk Go.St Go.Mc
theorem PlayV_ok (n:Nt) (hn:NL n) (f:Int) (os cs:List Int) (hos:os.length≤1000000) (hcs:cs.length≤1000000):
  Ctr Tryz.prog 22 [ntv n,i64 f, .vec 0, .psl 1 (ints cs)] [.vec 1 (ints os)] (fun r o=>o=[.vec 1 (ints os)]∧r= .tup [atw (plG n f os cs).1,i64 (plG n f os cs).2]):=by
 refine Ctr.imp ?_
 refine fI 1 Tryz.func22 ?_
 have hfl:=fll n.fl
 have hnf:=hn.fl
 have cB:=BuildV_ok n hn os cs hos hcs
 unfold plG
 by_cases hf:f<0∨(n.fl.length:Int)≤f
 ·rw [if_pos hf]
  (repeat' (conv=>whnf);first|refine aC ?_ ?_<;>intro<;>try omega|refine z2_T11 ?_|fail);all_goals try (conv=>whnf)
  all_goals exact⟨rfl,Imp.tup ⟨Imp.agg ⟨Imp.nil _,Imp.refl _,Imp.refl _,Imp.refl _,trivial⟩,Imp.refl _,trivial⟩⟩
 ·rw [if_neg hf]
  have h60:=bldG_len n os cs
  generalize bldG n os cs=B at*
  obtain⟨p,e⟩:=B
  dsimp only at cB h60⊢
  by_cases he:e=0
  ·subst he
   rw [if_neg (by simp)]
   have cR:=RunG_ok n hn p (by omega) 1000
   have hr:=rnG_ok0 (n:=n) (p:=p) (k:=1000)
   generalize rnG n p 1000=R at*
   obtain⟨T,e⟩:=R
   dsimp only [rnV]at cR hr⊢
   by_cases he:e=0
   ·subst he
    obtain⟨hs,_,_,hT⟩:=hr rfl
    have hT:T=trR (toF n p) (liN n) 1000:=congrArg Prod.fst hT
    subst hT
    have hm:MsL (trR (toF n p) (liN n) 1000):=MsL.of hs (by omega) (trR_sh hs.rts)
    have cW:=OWor_ok n hn p hs _ hm f
    rw [if_neg (by simp)]
    generalize worF n p (dR (trR (toF n p) (liN n) 1000)) f p.length=W at*
    obtain⟨wa,wd,wb⟩:=W
    dsimp only [wrV]at cW⊢
    have hpl:=pks_len p
    cases wb with
    |false=>
     rw [if_pos rfl]
     (repeat' (conv=>whnf);first|refine aC ?_ ?_<;>intro<;>try omega|refine z2_T11 ?_|(refine aK [0] cB ?_)|(refine aK [] (cR) ?_)|(refine aK [] (cW) ?_)|fail);all_goals try (conv=>whnf)
     exact⟨rfl,Imp.tup ⟨Imp.agg ⟨Imp.nil _,Imp.refl _,Imp.refl _,Imp.refl _,trivial⟩,Imp.refl _,trivial⟩⟩
    |true=>
     rw [if_neg (by simp)]
     (repeat' (conv=>whnf);first|refine aC ?_ ?_<;>intro<;>try omega|refine z2_T11 ?_|(refine aK [0] cB ?_)|(refine aK [] (cR) ?_)|(refine aK [] (cW) ?_)|fail);all_goals try (conv=>whnf)
     exact⟨rfl,Imp.refl _⟩
   ·rw [if_pos he]
    (repeat' (conv=>whnf);first|refine aC ?_ ?_<;>intro<;>try omega|refine z2_T11 ?_|(refine aK [0] cB ?_)|(refine aK [] (cR) ?_)|fail);all_goals try (conv=>whnf)
    all_goals first
     |exact⟨rfl,Imp.tup ⟨Imp.agg ⟨Imp.nil _,Imp.refl _,Imp.refl _,Imp.refl _,trivial⟩,Imp.refl _,trivial⟩⟩
     |exact absurd (Classical.not_not.1 (by assumption)) he
  ·rw [if_pos he]
   (repeat' (conv=>whnf);first|refine aC ?_ ?_<;>intro<;>try omega|refine z2_T11 ?_|(refine aK [0] cB ?_)|fail);all_goals try (conv=>whnf)
   all_goals first
    |exact⟨rfl,Imp.tup ⟨Imp.agg ⟨Imp.nil _,Imp.refl _,Imp.refl _,Imp.refl _,trivial⟩,Imp.refl _,trivial⟩⟩
    |exact absurd (Classical.not_not.1 (by assumption)) he
end
end Go.Proofs.YtjhmjiimpmmnhaaGreat
