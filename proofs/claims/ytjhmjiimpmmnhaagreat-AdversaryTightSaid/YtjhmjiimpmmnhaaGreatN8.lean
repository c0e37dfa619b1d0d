/- Lemmas of this seat. Conditions: as stated. -/
import Derived.Test.YtjhmjiimpmmnhaaGreatN6
set_option linter.unusedVariables false
set_option linter.unusedSimpArgs false
set_option maxHeartbeats 2000000
set_option maxRecDepth 4000
namespace Go.Proofs.YtjhmjiimpmmnhaaGreat
section
open Go.Sx Go.Np Go.Cv
theorem mem_map_take {l:List Fl} {i:Nat} {s:ByteArray} (hi:i≤l.length):s∈(l.take i).map (·.nm)↔∃j,j<i∧(l.getD j fl0).nm =s:=by
 constructor
 ·intro h
  obtain⟨x,hx,e⟩:=List.mem_map.1 h
  obtain⟨j,h1,h2,e2⟩:=mem_take (d:=fl0) hx
  exact⟨j,h1,by rw [←e2];exact e⟩
 ·rintro⟨j,h1,h2⟩
  refine List.mem_map.2 ⟨l.getD j fl0,?_,h2⟩
  refine List.mem_iff_getElem.2 ⟨j,by rw [List.length_take];omega,?_⟩
  rw [List.getElem_take];simp [List.getD_eq_getElem?_getD,show j<l.length by omega]
theorem mem_take_i {l:List Int} {i:Nat} {s:Int} (hi:i≤l.length):s∈l.take i↔∃j,j<i∧l.getD j 0=s:=by
 constructor
 ·intro h
  obtain⟨j,h1,h2,e2⟩:=mem_take (d:=0) h
  exact⟨j,h1,e2.symm⟩
 ·rintro⟨j,h1,h2⟩
  refine List.mem_iff_getElem.2 ⟨j,by rw [List.length_take];omega,?_⟩
  rw [List.getElem_take,←h2];simp [List.getD_eq_getElem?_getD,show j<l.length by omega]
theorem nm4 {met:List ByteArray} {s:ByteArray} (h:¬WordP s):nmErr met s=4:=by unfold nmErr;rw [if_pos h]
theorem nm60 {met:List ByteArray} {s:ByteArray} (h:WordP s) (hm:s∈met):nmErr met s=60:=by unfold nmErr;rw [if_neg (fun k=>k h),if_pos hm]
theorem z1_N8 {G H:Prop} (k:H) (h:H→G:=by first|exact fun r=>aS r|exact fun r=>aG r|exact fun r=>aD r|exact fun r=>aH r|exact fun r=>aP_R1 r|exact fun r=>aI r|exact fun r=>aJ r|exact fun r=>aW (.qs [0,1,2,3,4,5,6,7,8] .nil) r|exact fun r=>aW (.qs [0,1,2,3,4,5,6,7,8,9,10,11,12,13] .nil) r):G:=h k
theorem rflow_ok (n:Nt) (hn:NL n) (i:Nat) (hil:i<n.fl.length):Ctr Tryz.prog 73 [ntv n,i64 i] [] (fun r o=>o=[]∧r=i64 (flowE n i)):=by
 refine fI 0 Tryz.func73 ?_
 have h2:=hn.ln
 have h3:=hn.fl
 have hll:=lnl n.ln
 have hfl:=fll n.fl
 have hE:=flowE_eq n i
 generalize flowE n i=E at*
 have hg:=flg hil
 have hL:=hn.flat hil
 have hmem:=mem_map_take (l:=n.fl) (i:=i) (s:=(n.fl.getD i fl0).nm) (by omega)
 generalize hfe:n.fl.getD i fl0=f at*
 have n4:=nm4 (met:=(n.fl.take i).map (·.nm)) (s:=f.nm)
 have n60:=nm60 (met:=(n.fl.take i).map (·.nm)) (s:=f.nm)
 have n0:=nm_fresh (met:=(n.fl.take i).map (·.nm)) (s:=f.nm)
 generalize nmErr ((n.fl.take i).map (·.nm)) f.nm=e1 at*
 have hrl:=ints_len f.rt
 have hvl:=ints_len f.v
 (repeat' (conv=>whnf);first|refine aC ?_ ?_<;>intro<;>try omega|refine z1_N8 ?_|refine⟨i,_,rfl,hg,?_⟩|(refine aK [] (rWord_ok f.nm hL.nm) ?_)|fail);all_goals try (conv=>whnf)
 ·have e:=n4 (by assumption)
  exact⟨rfl,by rw [hE,if_pos (by omega),e];rfl⟩
 have hw:=Classical.not_not.1 ‹¬¬WordP f.nm›
 clear n4
 have n60:=n60 hw
 have n0:=n0 hw
 refine LoopOb.mk (Y:=Nat) (st:=fun k=>⟨[(6,i64 k),(5, .ptr 1 0),(2, .ptr 0 0),(1,i64 i)],[.box [.psl 1 (strs n.nm), .psl 5 (lns n.ln), .psl 8 (fls n.fl)], .box [.str f.nm, .psl 1 (ints f.rt),i64 f.cl,i64 f.lo,i64 f.hi, .psl 1 (ints f.v),i64 f.p,i64 f.q]]⟩)
  (inv:=fun k=>k≤i∧∀j<k,¬(n.fl.getD j fl0).nm =f.nm) (fun k=>i-k) 0 [0,1] ⟨by omega,by omega⟩ (by(exact aL)) ?_
 rintro k ⟨hk,hv⟩
 (repeat' (conv=>whnf);first|refine z1_N8 ?_|fail);all_goals try (conv=>whnf)
 refine CondOb.mk (fun hlt=>?_) (fun hlt=>?_)
 ·have hkl:k<n.fl.length:=by omega
  have hgk:=flg hkl
  have hst:¬(n.fl.getD k fl0).nm =f.nm→∀j<k+1,¬(n.fl.getD j fl0).nm =f.nm:=fun h j hj=>by
   by_cases e:j=k
   ·rw [e];exact h
   ·exact hv j (by omega)
  have hin:(n.fl.getD k fl0).nm =f.nm→e1=60:=fun h=>n60 (hmem.2 ⟨k,by omega,h⟩)
  generalize n.fl.getD k fl0=g at*
  (repeat' (conv=>whnf);first|refine aC ?_ ?_<;>intro<;>try omega|refine z1_N8 ?_|refine⟨k,_,rfl,hgk,?_⟩|fail);all_goals try (conv=>whnf)
  ·have e:=hin (by assumption)
   exact⟨rfl,by rw [hE,if_pos (by omega),e];rfl⟩
  ·exact⟨k+1,[0,1],⟨by omega,hst (by assumption)⟩,by omega,by(exact aL)⟩
 have he1:e1=0:=n0 fun h=>by
  obtain⟨j,hj,e⟩:=hmem.1 h
  exact hv j (by omega) e
 rw [if_neg (by omega)]at hE
 clear hmem n60 n0
 have hRe:routeE n.ln f=if f.rt.length=0 then 5 else if 4<f.rt.length then 3 else firstE (hopE n.ln f) f.rt.length:=rfl
 (repeat' (conv=>whnf);first|refine aC ?_ ?_<;>intro<;>try omega|refine z1_N8 ?_|fail);all_goals try (conv=>whnf)
 ·rw [if_pos (by omega)]at hRe
  exact⟨rfl,by rw [hE,hRe];rfl⟩
 ·rw [if_neg (by omega),if_pos (by omega)]at hRe
  exact⟨rfl,by rw [hE,hRe];rfl⟩
 rw [if_neg (by omega),if_neg (by omega)]at hRe
 refine LoopOb.mk (Y:=Nat) (st:=fun k=>⟨[(7,i64 k),(5, .ptr 1 0),(2, .ptr 0 0)],[.box [.psl 1 (strs n.nm), .psl 5 (lns n.ln), .psl 8 (fls n.fl)], .box [.str f.nm, .psl 1 (ints f.rt),i64 f.cl,i64 f.lo,i64 f.hi, .psl 1 (ints f.v),i64 f.p,i64 f.q]]⟩)
  (inv:=fun k=>k≤f.rt.length∧∀j<k,hopE n.ln f j=0) (fun k=>f.rt.length-k) 0 [0,1] ⟨by omega,by omega⟩ (by(exact aL)) ?_
 clear hv hlt hk k
 rintro k ⟨hk,hv⟩
 (repeat' (conv=>whnf);first|refine z1_N8 ?_|fail);all_goals try (conv=>whnf)
 refine CondOb.mk (fun hlt=>?_) (fun hlt=>?_)
 ·have hkl:k<f.rt.length:=by omega
  have hH:hopE n.ln f k=if f.rt.getD k 0<0∨(n.ln.length:Int)≤f.rt.getD k 0 then 2 else if f.rt.getD k 0∈f.rt.take k then 60 else if f.cl<0∨(n.ln.getD (f.rt.getD k 0).toNat ln0).n ≤f.cl then 2 else 0:=rfl
  have hst:hopE n.ln f k=0→∀j<k+1,hopE n.ln f j=0:=fun h j hj=>by
   by_cases e:j=k
   ·rw [e];exact h
   ·exact hv j (by omega)
  have hat:hopE n.ln f k≠0→E=hopE n.ln f k:=fun h=>by rw [hE,hRe,firstE_at hkl hv h,if_pos h]
  have hm:=mem_take_i (l:=f.rt) (i:=k) (s:=f.rt.getD k 0) (by omega)
  generalize hopE n.ln f k=H at*
  (repeat' (conv=>whnf);first|refine aC ?_ ?_<;>intro<;>try omega|refine z1_N8 ?_|fail);all_goals try (conv=>whnf)
  ·rw [if_pos (by omega)]at hH
   exact⟨rfl,by rw [hat (by omega),hH];rfl⟩
  ·rw [if_pos (by omega)]at hH
   exact⟨rfl,by rw [hat (by omega),hH];rfl⟩
  rw [if_neg (by omega)]at hH
  have hxl:(f.rt.getD k 0).toNat <n.ln.length:=by omega
  have hgl:=lng hxl
  generalize n.ln.getD (f.rt.getD k 0).toNat ln0=l at*
  refine LoopOb.mk (Y:=Nat) (st:=fun j=>⟨[(9,i64 j),(8,i64 (f.rt.getD k 0)),(7,i64 k),(5, .ptr 1 0),(2, .ptr 0 0)],[.box [.psl 1 (strs n.nm), .psl 5 (lns n.ln), .psl 8 (fls n.fl)], .box [.str f.nm, .psl 1 (ints f.rt),i64 f.cl,i64 f.lo,i64 f.hi, .psl 1 (ints f.v),i64 f.p,i64 f.q]]⟩)
   (inv:=fun j=>j≤k∧∀a<j,¬f.rt.getD a 0=f.rt.getD k 0) (fun j=>k-j) 0 [0,1] ⟨by omega,by omega⟩ (by(exact aL)) ?_
  rintro j ⟨hj,hw2⟩
  (repeat' (conv=>whnf);first|refine z1_N8 ?_|fail);all_goals try (conv=>whnf)
  refine CondOb.mk (fun hlt2=>?_) (fun hlt2=>?_)
  ·(repeat' (conv=>whnf);first|refine aC ?_ ?_<;>intro<;>try omega|refine z1_N8 ?_|fail);all_goals try (conv=>whnf)
   ·rw [if_pos (hm.2 ⟨j,by omega,by assumption⟩)]at hH
    exact⟨rfl,by rw [hat (by omega),hH];rfl⟩
   ·refine⟨j+1,[0,1],⟨by omega,fun a ha=>?_⟩,by omega,by(exact aL)⟩
    by_cases e:a=j
    ·rw [e];assumption
    ·exact hw2 a (by omega)
  ·rw [if_neg (fun h=>by obtain⟨a,ha,e⟩:=hm.1 h;exact hw2 a (by omega) e)]at hH
   (repeat' (conv=>whnf);first|refine aC ?_ ?_<;>intro<;>try omega|refine z1_N8 ?_|refine⟨(f.rt.getD k 0).toNat,_,by omega,hgl,?_⟩|fail);all_goals try (conv=>whnf)
   ·rw [if_pos (by omega)]at hH
    exact⟨rfl,by rw [hat (by omega),hH];rfl⟩
   ·rw [if_pos (by omega)]at hH
    exact⟨rfl,by rw [hat (by omega),hH];rfl⟩
   ·rw [if_neg (by omega)]at hH
    exact⟨k+1,[0,1],⟨by omega,hst hH⟩,by omega,by(exact aL)⟩
 have hz:routeE n.ln f=0:=by rw [hRe];exact firstE_all fun j hj=>hv j (by omega)
 rw [hz,if_neg (by omega),trf_eq]at hE
 (repeat' (conv=>whnf);first|refine aC ?_ ?_<;>intro<;>try omega|refine z1_N8 ?_|fail);all_goals try (conv=>whnf)
 ·exact⟨rfl,by rw [hE,if_pos (by omega)];rfl⟩
 ·exact⟨rfl,by rw [hE,if_pos (by omega)];rfl⟩
 ·exact⟨rfl,by rw [hE,if_pos (by omega)];rfl⟩
 rw [if_neg (by omega)]at hE
 refine aK [] (rCurve_ok f.v f.p f.q) ?_
 (repeat' (conv=>whnf);first|refine z1_N8 ?_|fail);all_goals try (conv=>whnf)
 refine CondOb.mk (fun h1=>?_) (fun h1=>?_)
 ·(repeat' (conv=>whnf);first|refine aC ?_ ?_<;>intro<;>try omega|refine z1_N8 ?_|fail);all_goals try (conv=>whnf)
  exact⟨rfl,by rw [hE,if_pos h1];rfl⟩
 rw [if_neg h1]at hE
 have hvv:=Classical.not_not.1 h1
 have hv1:=hvv.1
 (repeat' (conv=>whnf);first|refine aC ?_ ?_<;>intro<;>try omega|refine z1_N8 ?_|fail);all_goals try (conv=>whnf)
 ·exact⟨rfl,by rw [hE,if_pos (by assumption)];rfl⟩
 rw [if_neg (by assumption)]at hE
 refine aK [] (rFinite_ok f.v f.p f.q) ?_
 (repeat' (conv=>whnf);first|refine z1_N8 ?_|fail);all_goals try (conv=>whnf)
 refine CondOb.mk (fun h2=>?_) (fun h2=>?_)
 ·(repeat' (conv=>whnf);first|refine aC ?_ ?_<;>intro<;>try omega|refine z1_N8 ?_|fail);all_goals try (conv=>whnf)
  exact⟨rfl,by rw [hE,if_pos (fun h=>h2 ⟨hvv,h⟩)];rfl⟩
 ·(repeat' (conv=>whnf);first|refine aC ?_ ?_<;>intro<;>try omega|refine z1_N8 ?_|fail);all_goals try (conv=>whnf)
  exact⟨rfl,by rw [hE,if_neg (fun h=>h2 fun k=>h k.2)];rfl⟩
end
section
open Go.Sx Go.Np Go.Cv
theorem mem_take_s {l:List ByteArray} {i:Nat} {s:ByteArray} (hi:i≤l.length):s∈l.take i↔∃j,j<i∧l.getD j bs0=s:=by
 constructor
 ·intro h
  obtain⟨j,h1,h2,e2⟩:=mem_take (d:=bs0) h
  exact⟨j,h1,e2.symm⟩
 ·rintro⟨j,h1,h2⟩
  refine List.mem_iff_getElem.2 ⟨j,by rw [List.length_take];omega,?_⟩
  rw [List.getElem_take,←h2];simp [List.getD_eq_getElem?_getD,show j<l.length by omega]
theorem z1_N9 {G H:Prop} (k:H) (h:H→G:=by first|exact fun r=>aS r|exact fun r=>aG r|exact fun r=>aD r|exact fun r=>aH r|exact fun r=>aP_R1 r|exact fun r=>aI r|exact fun r=>aJ r|exact fun r=>aW (.qs [0,1,2,3,4,5,6,7,8,9,10] .nil) r):G:=h k
theorem rCheck_ok (n:Nt) (hn:NL n):Ctr Tryz.prog 49 [ntv n] [] (fun r o=>o=[]∧r=i64 (chkN n)):=by
 refine fI 0 Tryz.func49 ?_
 have h1:=hn.nm
 have h2:=hn.ln
 have h3:=hn.fl
 have hs:=stl n.nm
 have hll:=lnl n.ln
 have hfl:=fll n.fl
 (repeat' (conv=>whnf);first|refine aC ?_ ?_<;>intro<;>try omega|refine z1_N9 ?_|fail);all_goals try (conv=>whnf)
 ·exact⟨rfl,by unfold chkN;rw [if_pos (by omega)];rfl⟩
 ·exact⟨rfl,by unfold chkN;rw [if_pos (by omega)];rfl⟩
 ·exact⟨rfl,by unfold chkN;rw [if_pos (by omega)];rfl⟩
 ·exact⟨rfl,by unfold chkN;rw [if_neg (by omega),if_pos (by omega)];rfl⟩
 have g1:¬(n.ln.length=0∨8<n.ln.length∨10<n.fl.length):=by omega
 have g2:n.nm.length=n.ln.length:=by omega
 refine LoopOb.mk (Y:=Nat) (st:=fun i=>⟨[(3,i64 i),(1, .ptr 0 0)],[.box [.psl 1 (strs n.nm), .psl 5 (lns n.ln), .psl 8 (fls n.fl)]]⟩)
  (inv:=fun i=>i≤n.ln.length∧∀j<i,lineE n j=0) (fun i=>n.ln.length-i) 0 [0] ⟨by omega,by omega⟩ (by(exact aL)) ?_
 rintro i ⟨hi,hv⟩
 (repeat' (conv=>whnf);first|refine z1_N9 ?_|fail);all_goals try (conv=>whnf)
 refine CondOb.mk (fun hlt=>?_) (fun hlt=>?_)
 ·have hil:i<n.ln.length:=by omega
  have hE:lineE n i=if nmErr (n.nm.take i) (n.nm.getD i bs0)≠0 then nmErr (n.nm.take i) (n.nm.getD i bs0)else lnErr (n.ln.getD i ln0):=rfl
  have hst:lineE n i=0→∀j<i+1,lineE n j=0:=fun h j hj=>by
   by_cases e:j=i
   ·rw [e];exact h
   ·exact hv j (by omega)
  have hat:lineE n i≠0→chkN n=lineE n i:=fun h=>chkN_line g1 g2 hil hv h
  have hg:=lng hil
  have hsg:=stg (l:=n.nm) (i:=i) (by omega)
  have hL:=hn.lnat hil
  have hS:=hn.ns _ (getD_in (d:=bs0) (show i<n.nm.length by omega))
  have n4:=nm4 (met:=n.nm.take i) (s:=n.nm.getD i bs0)
  have n60:=nm60 (met:=n.nm.take i) (s:=n.nm.getD i bs0)
  have n0:=nm_fresh (met:=n.nm.take i) (s:=n.nm.getD i bs0)
  have hmem:=mem_take_s (l:=n.nm) (i:=i) (s:=n.nm.getD i bs0) (by omega)
  generalize n.ln.getD i ln0=l at*
  have cL:=rlCheck_ok l hL
  generalize hse:n.nm.getD i bs0=s at*
  generalize nmErr (n.nm.take i) s=e1 at*
  generalize lnErr l=e2 at*
  generalize lineE n i=E at*
  (repeat' (conv=>whnf);first|refine aC ?_ ?_<;>intro<;>try omega|refine z1_N9 ?_|refine⟨i,_,rfl,hsg,?_⟩|(refine aK [] (rWord_ok s hS) ?_)|fail);all_goals try (conv=>whnf)
  ·have e:=n4 (by assumption)
   rw [if_pos (by omega)]at hE
   exact⟨rfl,by rw [hat (by omega),hE,e];rfl⟩
  have hw:=Classical.not_not.1 ‹¬¬WordP s›
  have n60:=n60 hw
  have n0:=n0 hw
  clear n4
  refine LoopOb.mk (Y:=Nat) (st:=fun k=>⟨[(4,i64 k),(3,i64 i),(1, .ptr 0 0)],[.box [.psl 1 (strs n.nm), .psl 5 (lns n.ln), .psl 8 (fls n.fl)]]⟩)
   (inv:=fun k=>k≤i∧∀j<k,¬n.nm.getD j bs0=s) (fun k=>i-k) 0 [0] ⟨by omega,by omega⟩ (by(exact aL)) ?_
  rintro k ⟨hk,hv2⟩
  (repeat' (conv=>whnf);first|refine z1_N9 ?_|fail);all_goals try (conv=>whnf)
  refine CondOb.mk (fun hlt2=>?_) (fun hlt2=>?_)
  ·have hgk:=stg (l:=n.nm) (i:=k) (by omega)
   have hst2:¬n.nm.getD k bs0=s→∀j<k+1,¬n.nm.getD j bs0=s:=fun h j hj=>by
    by_cases e:j=k
    ·rw [e];exact h
    ·exact hv2 j (by omega)
   have hin:n.nm.getD k bs0=s→e1=60:=fun h=>n60 (hmem.2 ⟨k,by omega,h⟩)
   generalize n.nm.getD k bs0=g at*
   (repeat' (conv=>whnf);first|refine aC ?_ ?_<;>intro<;>try omega|refine z1_N9 ?_|refine⟨k,_,rfl,hgk,?_⟩|refine⟨i,_,rfl,hsg,?_⟩|fail);all_goals try (conv=>whnf)
   ·have e:=hin (by assumption)
    rw [if_pos (by omega)]at hE
    exact⟨rfl,by rw [hat (by omega),hE,e];rfl⟩
   ·exact⟨k+1,[0],⟨by omega,hst2 (by assumption)⟩,by omega,by(exact aL)⟩
  have he1:e1=0:=n0 fun h=>by
   obtain⟨j,hj,e⟩:=hmem.1 h
   exact hv2 j (by omega) e
  rw [if_neg (by omega)]at hE
  (repeat' (conv=>whnf);first|refine aC ?_ ?_<;>intro<;>try omega|refine z1_N9 ?_|refine⟨i,_,rfl,hg,?_⟩|(refine aK [] cL ?_)|fail);all_goals try (conv=>whnf)
  ·exact⟨rfl,by rw [hat (by omega),hE];rfl⟩
  ·exact⟨i+1,[0],⟨by omega,hst (by omega)⟩,by omega,by(exact aL)⟩
 have hln:∀j<n.ln.length,lineE n j=0:=fun j hj=>hv j (by omega)
 (repeat' (conv=>whnf);first|refine aC ?_ ?_<;>intro<;>try omega|refine z1_N9 ?_|fail);all_goals try (conv=>whnf)
 refine LoopOb.mk (Y:=Nat) (st:=fun i=>⟨[(6,i64 i),(1, .ptr 0 0)],[.box [.psl 1 (strs n.nm), .psl 5 (lns n.ln), .psl 8 (fls n.fl)]]⟩)
  (inv:=fun i=>i≤n.fl.length∧∀j<i,flowE n j=0) (fun i=>n.fl.length-i) 0 [0] ⟨by omega,by omega⟩ (by(exact aL)) ?_
 clear hv hlt hi i
 rintro i ⟨hi,hv⟩
 (repeat' (conv=>whnf);first|refine z1_N9 ?_|fail);all_goals try (conv=>whnf)
 refine CondOb.mk (fun hlt=>?_) (fun hlt=>?_)
 ·have hil:i<n.fl.length:=by omega
  have hst:flowE n i=0→∀j<i+1,flowE n j=0:=fun h j hj=>by
   by_cases e:j=i
   ·rw [e];exact h
   ·exact hv j (by omega)
  have hat:flowE n i≠0→chkN n=flowE n i:=fun h=>chkN_flow g1 g2 hln hil hv h
  have cF:=rflow_ok n hn i hil
  generalize flowE n i=E at*
  (repeat' (conv=>whnf);first|refine aC ?_ ?_<;>intro<;>try omega|refine z1_N9 ?_|(refine aK [] cF ?_)|fail);all_goals try (conv=>whnf)
  ·exact⟨rfl,by rw [hat (by omega)];rfl⟩
  ·exact⟨i+1,[0],⟨by omega,hst (by omega)⟩,by omega,by(exact aL)⟩
 ·(repeat' (conv=>whnf);first|refine aC ?_ ?_<;>intro<;>try omega|refine z1_N9 ?_|fail);all_goals try (conv=>whnf)
  exact⟨rfl,by rw [chkN_ok g1 g2 hln (fun j hj=>hv j (by omega))];rfl⟩
end
end Go.Proofs.YtjhmjiimpmmnhaaGreat
