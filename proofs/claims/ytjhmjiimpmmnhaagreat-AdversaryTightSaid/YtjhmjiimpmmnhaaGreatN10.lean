/- Lemmas of this seat. Conditions: as stated. -/
import Derived.Test.YtjhmjiimpmmnhaaGreatS1
import Derived.Test.YtjhmjiimpmmnhaaGreatN8
import Derived.Test.YtjhmjiimpmmnhaaGreatS6
import Derived.Test.YtjhmjiimpmmnhaaGreatMn
import Derived.Test.YtjhmjiimpmmnhaaGreatSrt
set_option linter.unusedVariables false
set_option linter.unusedSimpArgs false
set_option maxHeartbeats 2000000
set_option maxRecDepth 4000
namespace Go.Proofs.YtjhmjiimpmmnhaaGreat
section
open Go.Sx Go.Np Go.Cv
theorem idx_at {r:List Int} {l:Int}:∀{i:Nat},(∀j<i,¬r.getD j 0=l)→i<r.length→r.getD i 0=l→l∈r∧r.idxOf l=i:=by
 intro i hv hi e
 have hm:l∈r:=by rw [←e];exact getD_in hi
 refine⟨hm,?_⟩
 have h1:=List.idxOf_lt_length_of_mem hm
 have h2:r[r.idxOf l]=l:=List.getElem_idxOf h1
 have h3:r.getD (r.idxOf l) 0=l:=by rw [List.getD_eq_getElem?_getD,List.getElem?_eq_getElem h1,Option.getD_some];exact h2
 rcases Nat.lt_trichotomy (r.idxOf l) i with h|h|h
 ·exact absurd h3 (hv _ h)
 ·exact h
 ·have h4:r[i]=l:=by rw [←e,List.getD_eq_getElem?_getD,List.getElem?_eq_getElem hi,Option.getD_some]
  have:=List.not_of_lt_findIdx (p:=(· ==l)) (xs:=r) (i:=i) h
  simp [h4]at this
theorem Hop_ok (n:Nt) (hn:NL n) (f l:Int):Ctr Tryz.prog 107 [ntv n,i64 f,i64 l] [] (fun r o=>o=[]∧r=i64 (hop n f l)):=by
 refine fI 0 Tryz.func107 ?_
 have hfl:=fll n.fl
 have h3:=hn.fl
 (repeat' (conv=>whnf);first|refine aC ?_ ?_<;>intro<;>try omega|refine z1_R1 ?_|fail);all_goals try (conv=>whnf)
 ·exact⟨rfl,by unfold hop;rw [if_pos (by omega)];rfl⟩
 ·exact⟨rfl,by unfold hop;rw [if_pos (by omega)];rfl⟩
 have hil:f.toNat<n.fl.length:=by omega
 have hg:=flg hil
 have hL:=(hn.flat hil).rt
 have hE:hop n f l=if l∈(n.fl.getD f.toNat fl0).rt then(((n.fl.getD f.toNat fl0).rt.idxOf l:Nat):Int)else-1:=by unfold hop;rw [if_neg (by omega)]
 generalize hop n f l=E at*
 generalize n.fl.getD f.toNat fl0=g at*
 have hrl:=ints_len g.rt
 (repeat' (conv=>whnf);first|refine aC ?_ ?_<;>intro<;>try omega|refine z1_R1 ?_|refine⟨f.toNat,_,by omega,hg,?_⟩|fail);all_goals try (conv=>whnf)
 refine LoopOb.mk (Y:=Nat) (st:=fun i=>⟨[(25,i64 i),(24,i64 (ints g.rt).length),(23, .psl 1 (ints g.rt)),(2,i64 l)],[.box [.psl 1 (strs n.nm), .psl 5 (lns n.ln), .psl 8 (fls n.fl)]]⟩)
  (inv:=fun i=>i≤g.rt.length∧∀j<i,¬g.rt.getD j 0=l) (fun i=>g.rt.length-i) 0 [0] ⟨by omega,by omega⟩ (by(exact aL)) ?_
 rintro i ⟨hi,hv⟩
 (repeat' (conv=>whnf);first|refine z1_R1 ?_|refine⟨f.toNat,_,by omega,hg,?_⟩|fail);all_goals try (conv=>whnf)
 refine CondOb.mk (fun hlt=>?_) (fun hlt=>?_)
 ·have hst:¬g.rt.getD i 0=l→∀j<i+1,¬g.rt.getD j 0=l:=fun h j hj=>by
   by_cases e:j=i
   ·rw [e];exact h
   ·exact hv j (by omega)
  (repeat' (conv=>whnf);first|refine aC ?_ ?_<;>intro<;>try omega|refine z1_R1 ?_|refine⟨f.toNat,_,by omega,hg,?_⟩|fail);all_goals try (conv=>whnf)
  ·obtain⟨h1,h2⟩:=idx_at hv (by omega) (by assumption)
   exact⟨rfl,by rw [hE,if_pos h1,h2];rfl⟩
  ·exact⟨i+1,[0],⟨by omega,hst (by assumption)⟩,by omega,by(exact aL)⟩
 ·(repeat' (conv=>whnf);first|refine aC ?_ ?_<;>intro<;>try omega|refine z1_R1 ?_|fail);all_goals try (conv=>whnf)
  exact⟨rfl,by rw [hE,if_neg (idx_no fun j hj=>hv j (by omega))];rfl⟩
theorem rHop_ok (n:Nt) (hn:NL n) (f l:Int):Ctr Tryz.prog 81 [ntv n,i64 f,i64 l] [] (fun r o=>o=[]∧r=i64 (hop n f l)):=by
 refine fI 0 Tryz.func81 ?_
 have hfl:=fll n.fl
 have h3:=hn.fl
 (repeat' (conv=>whnf);first|refine aC ?_ ?_<;>intro<;>try omega|refine z1_R1 ?_|fail);all_goals try (conv=>whnf)
 ·exact⟨rfl,by unfold hop;rw [if_pos (by omega)];rfl⟩
 ·exact⟨rfl,by unfold hop;rw [if_pos (by omega)];rfl⟩
 have hil:f.toNat<n.fl.length:=by omega
 have hg:=flg hil
 have hL:=(hn.flat hil).rt
 have hE:hop n f l=if l∈(n.fl.getD f.toNat fl0).rt then(((n.fl.getD f.toNat fl0).rt.idxOf l:Nat):Int)else-1:=by unfold hop;rw [if_neg (by omega)]
 generalize hop n f l=E at*
 generalize n.fl.getD f.toNat fl0=g at*
 have hrl:=ints_len g.rt
 refine LoopOb.mk (Y:=Nat) (st:=fun i=>⟨[(7,i64 i),(3, .ptr 0 0),(1,i64 f),(2,i64 l)],[.box [.psl 1 (strs n.nm), .psl 5 (lns n.ln), .psl 8 (fls n.fl)]]⟩)
  (inv:=fun i=>i≤g.rt.length∧∀j<i,¬g.rt.getD j 0=l) (fun i=>g.rt.length-i) 0 [0] ⟨by omega,by omega⟩ (by(exact aL)) ?_
 rintro i ⟨hi,hv⟩
 (repeat' (conv=>whnf);first|refine z1_R1 ?_|refine⟨f.toNat,_,by omega,hg,?_⟩|fail);all_goals try (conv=>whnf)
 refine CondOb.mk (fun hlt=>?_) (fun hlt=>?_)
 ·have hst:¬g.rt.getD i 0=l→∀j<i+1,¬g.rt.getD j 0=l:=fun h j hj=>by
   by_cases e:j=i
   ·rw [e];exact h
   ·exact hv j (by omega)
  (repeat' (conv=>whnf);first|refine aC ?_ ?_<;>intro<;>try omega|refine z1_R1 ?_|refine⟨f.toNat,_,by omega,hg,?_⟩|fail);all_goals try (conv=>whnf)
  ·obtain⟨h1,h2⟩:=idx_at hv (by omega) (by assumption)
   exact⟨rfl,by rw [hE,if_pos h1,h2];rfl⟩
  ·exact⟨i+1,[0],⟨by omega,hst (by assumption)⟩,by omega,by(exact aL)⟩
 ·(repeat' (conv=>whnf);first|refine aC ?_ ?_<;>intro<;>try omega|refine z1_R1 ?_|fail);all_goals try (conv=>whnf)
  exact⟨rfl,by rw [hE,if_neg (idx_no fun j hj=>hv j (by omega))];rfl⟩
theorem rUsers_ok (n:Nt) (hn:NL n) (hb:n.fl.length≤1000) (l:Int):Ctr Tryz.prog 114 [ntv n,i64 l] [] (fun r o=>o=[]∧r= .psl 1 (ints (users n l))):=by
 refine Ctr.imp ?_
 refine fI 0 Tryz.func114 ?_
 have hfl:=fll n.fl
 have h3:=hn.fl
 (repeat' (conv=>whnf);first|refine aC ?_ ?_<;>intro<;>try omega|refine z1_R1 ?_|fail);all_goals try (conv=>whnf)
 refine LoopOb.mk (Y:=Nat) (st:=fun i=>⟨[(6,i64 i),(5, .vec 1),(2, .ptr 0 0),(1,i64 l)],[.box [.psl 1 (strs n.nm), .psl 5 (lns n.ln), .psl 8 (fls n.fl)], .vec 1 (ints (usr n l i))]⟩)
  (inv:=fun i=>i≤n.fl.length) (fun i=>n.fl.length-i) 0 [0,2] (by omega) (by(exact aL)) ?_
 intro i hi
 have hul:=ints_len (usr n l i)
 have hub:=usr_len (n:=n) (l:=l) (i:=i)
 (repeat' (conv=>whnf);first|refine z1_R1 ?_|fail);all_goals try (conv=>whnf)
 refine CondOb.mk (fun hlt=>?_) (fun hlt=>?_)
 ·have hs:usr n l (i+1)=if 0≤hop n i l then usr n l i++[(i:Int)]else usr n l i:=rfl
  have cH:=rHop_ok n hn i l
  generalize hop n i l=h at*
  generalize usr n l i=u at*
  (repeat' (conv=>whnf);first|refine aC ?_ ?_<;>intro<;>try omega|refine z1_R1 ?_|(refine aK [] cH ?_)|fail);all_goals try (conv=>whnf)
  ·rw [if_pos (by omega)]at hs
   exact⟨i+1,[0,3],by omega,by omega,by rw [hs,ints_app];(exact aL)⟩
  ·rw [if_neg (by omega)]at hs
   exact⟨i+1,[0,1],by omega,by omega,by rw [hs];(exact aL)⟩
 ·have e:i=n.fl.length:=by omega
  subst e
  (repeat' (conv=>whnf);first|refine aC ?_ ?_<;>intro _|refine z2_J3 ?_|fail);all_goals try (conv=>whnf)
  refine .mk [.fz 1] ?_
  (repeat' (conv=>whnf);first|refine aC ?_ ?_<;>intro _|refine z1_R1 ?_|fail);all_goals try (conv=>whnf)
  exact⟨rfl,Imp.refl _⟩
theorem z4_N10 {G H:Prop} (k:H) (h:H→G:=by first|exact fun r=>aS r|exact fun r=>aG r|exact fun r=>aD r|exact fun r=>aP_R1 r|exact fun r=>aI r|exact fun r=>aJ r|exact fun r=>aW (.qs [0,1,2,3,4,5,6,7,8,9,10] .nil) r):G:=h k
theorem rMembers_ok (n:Nt) (hn:NL n) (hb:n.fl.length≤1000) (l c:Int):Ctr Tryz.prog 89 [ntv n,i64 l,i64 c] [] (fun r o=>o=[]∧r= .psl 1 (ints (members n l c))):=by
 refine Ctr.imp ?_
 refine fI 0 Tryz.func89 ?_
 have hfl:=fll n.fl
 have h3:=hn.fl
 (repeat' (conv=>whnf);first|refine aC ?_ ?_<;>intro<;>try omega|refine z1_N9 ?_|(refine aK [] (rUsers_ok n hn hb l) ?_)|fail);all_goals try (conv=>whnf)
 have hul:=ints_len (users n l)
 have hub:=usr_len (n:=n) (l:=l) (i:=n.fl.length)
 have hub:(users n l).length ≤n.fl.length:=hub
 have hbd:∀x∈users n l,0≤x∧x<n.fl.length:=fun x hx=>users_bd hx
 generalize hue:users n l=u at*
 refine LoopOb.mk (Y:=Nat) (st:=fun i=>⟨[(9,i64 i),(8, .psl 1 (ints u)),(7, .vec 1),(3, .ptr 0 0),(2,i64 c)],[.box [.psl 1 (strs n.nm), .psl 5 (lns n.ln), .psl 8 (fls n.fl)], .vec 1 (ints (mbr n c (u.take i)))]⟩)
  (inv:=fun i=>i≤u.length) (fun i=>u.length-i) 0 [0,2] (by omega) (by(exact aL)) ?_
 intro i hi
 have hml:=ints_len (mbr n c (u.take i))
 have hmb:=mbr_len (n:=n) (c:=c) (a:=u.take i)
 have htl:(u.take i).length ≤i:=by rw [List.length_take];omega
 (repeat' (conv=>whnf);first|refine z1_N9 ?_|fail);all_goals try (conv=>whnf)
 refine CondOb.mk (fun hlt=>?_) (fun hlt=>?_)
 ·have hil:i<u.length:=by omega
  have hs:=mbr_step (n:=n) (c:=c) hil
  have hx:=hbd _ (getD_in (d:=0) hil)
  have hg:=flg (l:=n.fl) (i:=(u.getD i 0).toNat) (by omega)
  generalize n.fl.getD (u.getD i 0).toNat fl0=g at*
  generalize mbr n c (u.take i)=m at*
  (repeat' (conv=>whnf);first|refine aC ?_ ?_<;>intro<;>try omega|refine z1_N9 ?_|refine⟨(u.getD i 0).toNat,_,by omega,hg,?_⟩|fail);all_goals try (conv=>whnf)
  ·rw [if_pos (by omega)]at hs
   exact⟨i+1,[0,3],by omega,by omega,by rw [hs,ints_app];(exact aL)⟩
  ·rw [if_neg (by omega)]at hs
   exact⟨i+1,[0,1],by omega,by omega,by rw [hs];(exact aL)⟩
 ·have e:members n l c=mbr n c (u.take i):=by unfold members;rw [hue,List.take_of_length_le (by omega)]
  rw [e]
  (repeat' (conv=>whnf);first|refine aC ?_ ?_<;>intro _|refine z4_N10 ?_|fail);all_goals try (conv=>whnf)
  refine .mk [.fz 1] ?_
  (repeat' (conv=>whnf);first|refine aC ?_ ?_<;>intro _|refine z1_N9 ?_|fail);all_goals try (conv=>whnf)
  exact⟨rfl,Imp.refl _⟩
end
section
open Go.Sx Go.Pk Go.Mc Go.Np
abbrev ixs (q:List Wt):List Int:=q.map fun x=>(x.i:Int)
theorem ixs_len (q:List Wt):(ixs q).length =q.length:=by simp [ixs]
def QuR (F:Tf) (q:List Wt) (r:SV) (o:List Chunk):Prop:=r= .tup [.vec 0, .vec 1]∧o=[.vec 3 (pks (pkq F q)), .vec 1 (ints (ixs q))]
end
section
open Go.Sx Go.Pk Go.Mc Go.Np
abbrev wrs (F:Tf) (q:List Wt):List (List SV):=q.map (sRow (wcl F))
theorem wrs_len (F:Tf) (q:List Wt):(wrs F q).length =q.length:=by simp [wrs]
theorem z3_So2 {G H:Prop} (k:H) (h:H→G:=by first|exact fun r=>aS r|exact fun r=>aG r|exact fun r=>aD r|exact fun r=>aP_R1 r|exact fun r=>aI r|exact fun r=>aJ r|exact fun r=>aW (.qs [0,1,2,3,4,5,6,7] (.l 8 [2,0] (.l 9 [] (.qs [10,11,12,13,14] .nil) .no) .no)) r|exact fun r=>aW (.qs [0,1,2,3,4,5,6,7,8,9,10,11,12,13,14,15] (.l 16 [] (.l 17 [] (.qs [18] .nil) .no) .no)) r):G:=h k
theorem z2_So2 {G H:Prop} (k:H) (h:H→G:=by first|exact fun r=>aS r|exact fun r=>aG r|exact fun r=>aD r|exact fun r=>aH r|exact fun r=>aP_R1 r|exact fun r=>aI r|exact fun r=>aJ r|exact fun r=>aW (.qs [0,1,2,3,4,5,6,7] (.l 8 [2,0] (.l 9 [] (.qs [10,11,12,13,14] .nil) .no) .no)) r|exact fun r=>aW (.qs [0,1,2,3,4,5,6,7,8,9,10,11,12,13,14,15] (.l 16 [] (.l 17 [] (.qs [18] .nil) .no) .no)) r|exact fun r=>aW (.qs [0,1,2,5,6,7] (.l 3 [7] (.l 4 [7] (.l 8 [] (.l 9 [] (.qs [10,11] .nil) .no) .no) (.l 8 [] (.l 4 [] (.l 9 [] (.qs [10,11] .nil) .no) .no) .no)) (.l 8 [2] (.l 3 [] (.l 4 [] (.l 9 [] (.qs [10,11] .nil) .no) .no) .no) .no))) r):G:=h k
theorem z1_So2 {G H:Prop} (k:H) (h:H→G:=by first|exact fun r=>aS r|exact fun r=>aG r|exact fun r=>aD r|exact fun r=>aH r|exact fun r=>aP_R1 r|exact fun r=>aI r|exact fun r=>aJ r|exact fun r=>aW (.qs [0,1,2,3,4,5,6,7] (.l 8 [2,0] (.l 9 [] (.qs [10,11,12,13,14] .nil) .no) .no)) r|exact fun r=>aW (.qs [0,1,2,3,4,5,6,7,8,9,10,11,12,13,14,15] (.l 16 [] (.l 17 [] (.qs [18] .nil) .no) .no)) r):G:=h k
theorem PQu_ok (n:Nt) (hn:NL n) (p:List Pk) (hp:p.length≤60) (hR:RtP n p) (ms:List (List Int)) (hm:MsL ms) (l:Int):Ctr Tryz.prog 103 [ntv n, .psl 3 (pks p), .agg [.psl 1 (trs ms)],i64 l] [] (QuR (toF n p) (quL n p (dR ms) l p.length)):=by
 refine fI 0 Tryz.func103 ?_
 have hpl:=pks_len p
 have hfl:=fll n.fl
 (repeat' (conv=>whnf);first|refine aC ?_ ?_<;>intro<;>try omega|refine z1_So2 ?_|fail);all_goals try (conv=>whnf)
 refine LoopOb.mk (Y:=Nat) (st:=fun i=>⟨[(19,i64 i),(18,i64 (pks p).length),(17, .psl 3 (pks p)),(10, .vec 4),(9, .vec 3),(8, .vec 2),(6, .ptr 1 0),(4, .ptr 0 0),(1, .psl 3 (pks p)),(3,i64 l)],[nbx n, .box [.psl 1 (trs ms)], .vec 3 [], .vec 1 [], .vec 5 (wrs (toF n p) (arQ n p (dR ms) l i))]⟩)
  (inv:=fun i=>i≤p.length) (fun i=>p.length-i) 0 [0,1,2,3,4] (by omega) (by(exact aL)) ?_
 rintro i hi
 have hq1:=arQ_len (n:=n) (p:=p) (D:=dR ms) (l:=l) i
 have hwl:=wrs_len (toF n p) (arQ n p (dR ms) l i)
 by_cases hil:i<p.length
 ·have hnx:arQ n p (dR ms) l (i+1)=match arL n p (dR ms) l i with
   |none=>arQ n p (dR ms) l i
   |some a=>arQ n p (dR ms) l i++[⟨a,(p.getD i pk0).f,i⟩]:=rfl
  have hpx:∀a,wcl (toF n p) ⟨a,(p.getD i pk0).f,i⟩=[(pfl n (p.getD i pk0)).cl,a,(p.getD i pk0).s,(p.getD i pk0).f,(i:Int)]:=fun _=>rfl
  generalize arQ n p (dR ms) l i=q at*
  have hg:=pks_get hil
  have haO:=arO_arL (D:=dR ms) (l:=l) hR hil
  obtain⟨f1,f2⟩:=hR.f i hil
  have hfg:=flg (l:=n.fl) (i:=(p.getD i pk0).f.toNat) (by omega)
  unfold pfl at hpx
  obtain⟨x,hx⟩:∃x,p.getD i pk0=x:=⟨_,rfl⟩
  rw [hx]at hg haO hnx hpx f1 f2 hfg
  (repeat' (conv=>whnf);first|refine⟨i,_,rfl,hg,?_⟩|refine aC ?_ ?_<;>intro<;>try omega|refine z1_So2 ?_|fail);all_goals try (conv=>whnf)
  refine aK [] (Hop_ok n hn x.f l) ?_
  (repeat' (conv=>whnf);first|refine aC ?_ ?_<;>intro<;>try omega|refine z1_So2 ?_|fail);all_goals try (conv=>whnf)
  refine aK [] (Arr_ok n hn p (by omega) ms hm i (hop n x.f l)) ?_
  rw [haO]
  clear haO
  cases ha:arL n p (dR ms) l i with
  |none=>
   rw [ha]at hnx
   dsimp only at hnx
   simp only [arrT]
   (repeat' (conv=>whnf);first|refine aC ?_ ?_<;>intro<;>try omega|refine z1_So2 ?_|fail);all_goals try (conv=>whnf)
   exact⟨i+1,[0,1,2,3,4],by omega,by omega,by rw [hnx];(exact aL)⟩
  |some a=>
   rw [ha]at hnx
   dsimp only at hnx
   simp only [arrT]
   have hpx:=hpx a
   obtain⟨w,hw⟩:∃w,n.fl.getD x.f.toNat fl0=w:=⟨_,rfl⟩
   rw [hw]at hfg hpx
   have hrow:wrs (toF n p) q++[[i64 w.cl,i64 a,i64 x.s,i64 x.f,i64 (i:Int)]]=wrs (toF n p) (arQ n p (dR ms) l (i+1)):=by
    rw [hnx];unfold wrs sRow;rw [List.map_append,List.map_singleton,hpx];rfl
   (repeat' (conv=>whnf);first|refine⟨x.f.toNat,_,by omega,hfg,?_⟩|refine aC ?_ ?_<;>intro<;>try omega|refine z1_So2 ?_|fail);all_goals try (conv=>whnf)
   exact⟨i+1,[0,1,2,3,7],by omega,by omega,by rw [←hrow];(exact aL)⟩
 ·obtain rfl:i=p.length:=by omega
  (repeat' (conv=>whnf);first|refine aC ?_ ?_<;>intro<;>try omega|refine z1_So2 ?_|fail);all_goals try (conv=>whnf)
  refine aM [4] (sortW_ok (toF n p) (arQ n p (dR ms) l p.length) (by omega)) rfl rfl ?_
  rintro _ _ ⟨rfl,q',hpm,hso,rfl⟩
  have hq:=sort_quL hpm hso
  subst hq
  generalize hqq:quL n p (dR ms) l p.length=q at*
  have hql:q.length≤p.length:=by rw [←hqq];exact quL_len p.length
  have hwl2:=wrs_len (toF n p) q
  (repeat' (conv=>whnf);first|refine aC ?_ ?_<;>intro<;>try omega|refine z1_So2 ?_|fail);all_goals try (conv=>whnf)
  refine LoopOb.mk (Y:=Nat) (st:=fun k=>⟨[(61,i64 k),(60,i64 (wrs (toF n p) q).length),(59, .vec 4),(9, .vec 3),(8, .vec 2)],[nbx n, .box [.psl 1 (trs ms)], .vec 3 (pks ((pkq (toF n p) q).take k)), .vec 1 (ints ((ixs q).take k)), .vec 5 (wrs (toF n p) q)]⟩)
   (inv:=fun k=>k≤q.length) (fun k=>q.length-k) 0 [0,1,2,3,4] (by omega) (by(exact aL)) ?_
  rintro k hk
  have hpk:=pks_len ((pkq (toF n p) q).take k)
  have hpk2:((pkq (toF n p) q).take k).length =k:=by rw [List.length_take,pkq_len];omega
  have hik:=ints_len ((ixs q).take k)
  have hik2:((ixs q).take k).length =k:=by rw [List.length_take,ixs_len];omega
  by_cases hkl:k<q.length
  ·obtain⟨x,hx⟩:∃x:Wt,q[k]=x:=⟨_,rfl⟩
   have gw:(wrs (toF n p) q)[k]? =some [i64 ((toF n p).cs x.i),i64 x.a,i64 ((toF n p).s x.i),i64 x.f,i64 (x.i:Int)]:=by simp [wrs,hkl,hx]
   have hnx:pks ((pkq (toF n p) q).take k)++[[i64 ((toF n p).cs x.i),i64 x.a,i64 ((toF n p).s x.i)]]=pks ((pkq (toF n p) q).take (k+1)):=by
    rw [List.take_succ_eq_append_getElem (by rw [pkq_len];exact hkl)]
    simp [pks,pkq,hx,pkw]
   have hnx2:ints ((ixs q).take k)++[[i64 (x.i:Int)]]=ints ((ixs q).take (k+1)):=by
    rw [List.take_succ_eq_append_getElem (by rw [ixs_len];exact hkl)]
    simp [ints,hx]
   (repeat' (conv=>whnf);first|refine aC ?_ ?_<;>intro<;>try omega|refine z1_So2 ?_|refine⟨k,rfl,by omega,?_⟩|refine⟨_,gw,?_⟩|fail);all_goals try (conv=>whnf)
   refine DrawOb.cut [] (.qs [0,1,2,5,6,7] (.l 3 [7] (.l 4 [7] (.l 8 [] (.l 9 [] (.qs [10,11] .nil) .no) .no) (.l 8 [] (.l 4 [] (.l 9 [] (.qs [10,11] .nil) .no) .no) .no)) (.l 8 [2] (.l 3 [] (.l 4 [] (.l 9 [] (.qs [10,11] .nil) .no) .no) .no) .no))) (Y:=Unit) (st:=fun _=>⟨[(61,i64 k),(60,i64 (wrs (toF n p) q).length),(59, .vec 4),(9, .vec 3),(8, .vec 2)],[nbx n, .box [.psl 1 (trs ms)], .vec 3 (pks ((pkq (toF n p) q).take (k+1))), .vec 1 (ints ((ixs q).take (k+1))), .vec 5 (wrs (toF n p) q)]⟩) (inv:=fun _=>True) (by decide+kernel) ?_ ?_
   ·(repeat' (conv=>whnf);first|refine aC ?_ ?_<;>intro<;>try omega|refine z2_So2 ?_|refine And.intro ?_ ?_|refine And.intro ?_ ?_|fail);all_goals try (conv=>whnf)
    ·exact⟨(),[0,1,7,9,4],trivial,by rw [←hnx,←hnx2];(exact aL)⟩
    ·exact⟨(),[0,1,8,9,4],trivial,by rw [←hnx,←hnx2];(exact aL)⟩
    ·exact⟨(),[0,1,8,9,4],trivial,by rw [←hnx,←hnx2];(exact aL)⟩
   ·rintro⟨⟩ _
    (repeat' (conv=>whnf);first|refine aC ?_ ?_<;>intro<;>try omega|refine z1_So2 ?_|fail);all_goals try (conv=>whnf)
    exact⟨k+1,[0,1,2,3,4],by omega,by omega,by(exact aL)⟩
  ·obtain rfl:k=q.length:=by omega
   have e:(pkq (toF n p) q).take q.length=pkq (toF n p) q:=List.take_of_length_le (by rw [pkq_len];omega)
   have e2:(ixs q).take q.length=ixs q:=List.take_of_length_le (by rw [ixs_len];omega)
   rw [e,e2]
   (repeat' (conv=>whnf);first|refine aC ?_ ?_<;>intro<;>try omega|refine z3_So2 ?_|fail);all_goals try (conv=>whnf)
   refine .mk [.wk [2,3] ⟨[(8, .vec 0),(9, .vec 1)],[.vec 3 (pks (pkq (toF n p) q)), .vec 1 (ints (ixs q))]⟩] ?_
   refine⟨by(exact aL),?_⟩
   (repeat' (conv=>whnf);first|refine aC ?_ ?_<;>intro<;>try omega|refine z3_So2 ?_|fail);all_goals try (conv=>whnf)
   exact⟨rfl,rfl⟩
end
end Go.Proofs.YtjhmjiimpmmnhaaGreat
