/- Lemmas of this seat. Conditions: as stated. -/
import Derived.Test.YtaomhdljcdadaaaGreatCn5
import Derived.Test.YtaomhdljcdadaaaGreatSo4
import Derived.Test.YtaomhdljcdadaaaGreatTy
import Derived.Shelf.SlLaysF0
import Derived.Shelf.SlLaysC2
import Derived.Shelf.Lays
import Derived.Test.YtaomhdljcdadaaaGreatS8
import Derived.Shelf.Bits.Mul64
import Derived.Shelf.Spec.SlicesInsert
import Derived.Sort.WalkB12
import Derived.Laws.IdiomCopy
import Derived.Tactics
import Derived.Test.YtaomhdljcdadaaaGreatN9
import Derived.Shelf.SlSortCmp.NoneTotal
import Derived.Test.YtaomhdljcdadaaaGreatC2
import Derived.Test.YtaomhdljcdadaaaGreatNd
import Derived.Test.YtaomhdljcdadaaaGreatSxC
import Derived.Test.YtaomhdljcdadaaaGreatO5
import Derived.Test.YtaomhdljcdadaaaGreatO11
import Derived.Test.YtaomhdljcdadaaaGreatS13
set_option linter.unusedVariables false
set_option linter.unusedSimpArgs false
set_option maxHeartbeats 2000000
set_option maxRecDepth 8000
namespace Go.Proofs.YtaomhdljcdadaaaGreat
section
open Go.Sx Go.Pk Go.Mc Go.Np Go.Tp
theorem wild36_ok (ms:List (List Int)) (hl:ms.length≤9223372036854775807) (hr:∀i,(ms.getD i []).length ≤9223372036854775807):
  Ctr Tryz.prog 23 [.agg [.psl 1 (trs ms)]] [] (fun r o=>o=[]∧∃b:Bool,(b=false→VB ms)∧r= .bl b):=by
 refine fI 0 Tryz.func23 ?_
 have htl:=trs_len ms
 (repeat' (conv=>whnf);first|refine aC ?_ ?_<;>intro<;>try omega|refine z2_T1 ?_|fail);all_goals try (conv=>whnf)
 refine LoopOb.mk (Y:=Nat) (st:=fun i=>⟨[(10,i64 i),(9,i64 (trs ms).length),(8, .psl 1 (trs ms)),(2, .bl false),(1, .ptr 0 0)],[.box [.psl 1 (trs ms)]]⟩)
  (inv:=fun i=>i≤ms.length∧∀j k,j<i→k<(ms.getD j []).length →-1073741824≤(ms.getD j []).getD k 0∧(ms.getD j []).getD k 0≤1073741824) (fun i=>ms.length-i) 0 [0] ⟨by omega,fun j k hj=>by omega⟩ (by(exact aL)) ?_
 rintro i ⟨hi,hv⟩
 by_cases hil:i<ms.length
 ·have hgt:=trs_get (ms:=ms) hil
  have hri:=hr i
  have hst:(∀k,k<(ms.getD i []).length →-1073741824≤(ms.getD i []).getD k 0∧(ms.getD i []).getD k 0≤1073741824)→∀j k,j<i+1→k<(ms.getD j []).length →-1073741824≤(ms.getD j []).getD k 0∧(ms.getD j []).getD k 0≤1073741824:=fun hq j k hj hk=>by
   rcases Nat.lt_succ_iff_lt_or_eq.1 hj with h|h
   ·exact hv j k h hk
   ·subst h;exact hq k hk
  clear hv
  generalize ms.getD i []=row at*
  have hrl:=ints_len row
  (repeat' (conv=>whnf);first|refine⟨i,_,rfl,hgt,?_⟩|refine aC ?_ ?_<;>intro<;>try omega|refine z2_T1 ?_|fail);all_goals try (conv=>whnf)
  refine LoopOb.mk (Y:=Nat) (st:=fun k=>⟨[(16,i64 k),(15,i64 (ints row).length),(14, .psl 1 (ints row)),(10,i64 i),(9,i64 (trs ms).length),(8, .psl 1 (trs ms)),(2, .bl false),(1, .ptr 0 0)],[.box [.psl 1 (trs ms)]]⟩)
   (inv:=fun k=>k≤row.length∧∀j,j<k→-1073741824≤row.getD j 0∧row.getD j 0≤1073741824) (fun k=>row.length-k) 0 [0] ⟨by omega,fun j hj=>by omega⟩ (by(exact aL)) ?_
  rintro k ⟨hk,hq⟩
  by_cases hkl:k<row.length
  ·have hg:=ints_get hkl
   have hsk: -1073741824≤row.getD k 0∧row.getD k 0≤1073741824→∀j,j<k+1→-1073741824≤row.getD j 0∧row.getD j 0≤1073741824:=fun h2 j hj=>by
    rcases Nat.lt_succ_iff_lt_or_eq.1 hj with h|h
    ·exact hq j h
    ·subst h;exact h2
   clear hq hst
   generalize row.getD k 0=x at*
   (repeat' (conv=>whnf);first|refine⟨k,_,rfl,hg,?_⟩|refine aC ?_ ?_<;>intro<;>try omega|refine z2_T1 ?_|fail);all_goals try (conv=>whnf)
   all_goals first
    |exact⟨k+1,[0],⟨by omega,hsk ⟨by omega,by omega⟩⟩,by omega,by(exact aL)⟩
    |exact⟨rfl,true,fun e=>(by cases e),rfl⟩
    |trace_state
  ·obtain rfl:k=row.length:=by omega
   have:=hst hq
   (repeat' (conv=>whnf);first|refine aC ?_ ?_<;>intro<;>try omega|refine z2_T1 ?_|fail);all_goals try (conv=>whnf)
   exact⟨i+1,[0],⟨by omega,this⟩,by omega,by(exact aL)⟩
 ·obtain rfl:i=ms.length:=by omega
  (repeat' (conv=>whnf);first|refine aC ?_ ?_<;>intro<;>try omega|refine z2_T1 ?_|fail);all_goals try (conv=>whnf)
  refine⟨rfl,false,fun _ i j=>?_,rfl⟩
  by_cases hj:j<(ms.getD i []).length
  ·have hi:i<ms.length:=by
    refine Classical.byContradiction fun c=>?_
    rw [List.getD_eq_getElem?_getD (l:=ms),List.getElem?_eq_none (by omega)]at hj;simp at hj
   have:=hv i j hi hj
   rw [show(ms.getD i []).getD j 0=dR ms i j from getD_dflt hj]at this;omega
  ·unfold dR
   rw [List.getD_eq_getElem?_getD,List.getElem?_eq_none (by omega)];decide
theorem OVioN_ok (n:Nt) (hn:NL n) (d:List (List Int)) (hd:DL d) (hS:¬ShapeP n d) (p:List Pk) (h:SkP n p) (ms:List (List Int)):
  Ctr Tryz.prog 38 [ntv n, .psl 1 (dls d), .psl 3 (pks p), .agg [.psl 1 (trs ms)]] [] (fun r o=>o=[]∧r= .psl 3 (vis [])):=by
 refine Ctr.imp ?_
 refine fn_introR (E:=env 0) tys_ok rfl rfl rfl Tryz.func38 (by kernel_rfl) rfl (by kernel_rfl) ?_
 (repeat' (conv=>whnf);first|refine AsgOb.nil ?_|refine aC ?_ ?_<;>intro<;>try omega|refine z1_O5 ?_|(refine Gh.mk [] ?_;(conv=>whnf);refine aK [] (Shape_ok n hn d hd) ?_)|fail);all_goals try (conv=>whnf)
 ·refine Gh.mk [] ?_
  (repeat' (conv=>whnf);first|refine aC ?_ ?_<;>intro<;>try omega|refine z3_W3 ?_|fail);all_goals try (conv=>whnf)
  exact⟨rfl,Imp.nil 3⟩
 ·exact absurd (by assumption) (fun c:¬¬ShapeP n d=>c hS)
theorem RVioN_ok (n:Nt) (hn:NL n) (d:List (List Int)) (hd:DL d) (hS:¬ShapeP n d) (p:List Pk) (h:SkP n p) (ms:List (List Int)):
  Ctr Tryz.prog 39 [ntv n, .psl 1 (dls d), .psl 3 (pks p), .agg [.psl 1 (trs ms)]] [] (fun r o=>o=[]∧r= .psl 3 (vis [])):=by
 refine Ctr.imp ?_
 refine fI 0 Tryz.func39 ?_
 (repeat' (conv=>whnf);first|refine AsgOb.nil ?_|refine aC ?_ ?_<;>intro<;>try omega|refine z3_O11 ?_|fail);all_goals try (conv=>whnf)
 refine aK [] (rShape_ok n hn d hd) ?_
 (repeat' (conv=>whnf);first|refine AsgOb.nil ?_|refine aC ?_ ?_<;>intro<;>try omega|refine z3_O11 ?_|fail);all_goals try (conv=>whnf)
 ·exact⟨rfl,Imp.nil 3⟩
 ·exact absurd (by assumption) (fun c:¬¬ShapeP n d=>c hS)
end
section
open Go.Sx Go.Pk Go.Cv
inductive ChkR (p:List Pk) (flow:Int) (V:Prop) (e:Int):Prop
 |vld (h:vld p≠0) (he:e=Go.Pk.vld p)
 |flow (h:Go.Pk.vld p=0) (hf:flow< -1) (he:e=2)
 |curve (h:Go.Pk.vld p=0) (hf: -1≤flow) (hv:¬V) (he:e=1)
 |ok (h:Go.Pk.vld p=0) (hf: -1≤flow) (hv:V) (he:e=0)
theorem ChkR.uniq {p:List Pk} {flow:Int} {V:Prop} {e e':Int} (h:ChkR p flow V e) (h':ChkR p flow V e'):e=e':=by
 cases h<;>cases h'<;>first|omega|contradiction
theorem checkG_ok (p:List Pk) (hp:p.length≤1000000) (flow:Int) (vs:List Int) (q i:Int) (hv:vs.length≤1000000):Ctr Tryz.prog 128 [.psl 3 (pks p),i64 flow,crv vs q i] [] (fun r o=>∃e:Int,ChkR p flow (ValidP vs q i) e∧o=[]∧r=i64 e):=by
 refine Ctr.impE (Q:=fun e=>ChkR p flow (ValidP vs q i) e) (s:=fun e=>i64 e) (ow:=fun _=>[]) ?_
 refine fI 0 Tryz.func128 ?_
 have cV:=Validate_ok p (by omega)
 have hw:∀e,e=vld p→e≠0→ChkR p flow (ValidP vs q i) e:=fun e h1 h2=> .vld (by omega) h1
 generalize hvp:vld p=v at*
 (repeat' (conv=>whnf);first|refine aC ?_ ?_<;>intro<;>try omega|refine z1_C1 ?_|(refine aK [] cV ?_)|(refine aK [] (CValid_ok vs q i (by omega)) ?_)|fail);all_goals try (conv=>whnf)
 all_goals first
  |exact⟨v,hw v rfl (by omega),rfl,Imp.refl _⟩
  |exact⟨2, .flow (by omega) (by omega) rfl,rfl,Imp.refl _⟩
  |exact⟨1, .curve (by omega) (by omega) (by assumption) rfl,rfl,Imp.refl _⟩
  |exact⟨0, .ok (by omega) (by omega) (Classical.not_not.1 (by assumption)) rfl,rfl,Imp.refl _⟩
  |trace_state
theorem rbadG_ok (p:List Pk) (hp:p.length≤1000000) (flow:Int) (vs:List Int) (q i:Int) (hv:vs.length≤1000000):Ctr Tryz.prog 178 [.psl 3 (pks p),i64 flow,crv vs q i] [] (fun r o=>∃e:Int,ChkR p flow (ValidP vs q i) e∧o=[]∧r=i64 e):=by
 refine Ctr.impE (Q:=fun e=>ChkR p flow (ValidP vs q i) e) (s:=fun e=>i64 e) (ow:=fun _=>[]) ?_
 refine fI 0 Tryz.func178 ?_
 have cV:=rVal13_ok p (by omega)
 have hw:∀e,e=vld p→e≠0→ChkR p flow (ValidP vs q i) e:=fun e h1 h2=> .vld (by omega) h1
 generalize hvp:vld p=v at*
 (repeat' (conv=>whnf);first|refine aC ?_ ?_<;>intro<;>try omega|refine z1_C1 ?_|(refine aK [] cV ?_)|(refine aK [] (Valid_ok vs q i) ?_)|fail);all_goals try (conv=>whnf)
 all_goals first
  |exact⟨v,hw v rfl (by omega),rfl,Imp.refl _⟩
  |exact⟨2, .flow (by omega) (by omega) rfl,rfl,Imp.refl _⟩
  |exact⟨1, .curve (by omega) (by omega) (by assumption) rfl,rfl,Imp.refl _⟩
  |exact⟨0, .ok (by omega) (by omega) (Classical.not_not.1 (by assumption)) rfl,rfl,Imp.refl _⟩
  |trace_state
end
section
open Go.Sx Go.Pk Go.Cv Go.St
def enI (p:List Pk):Nat→Int
 |0=>0
 |i+1=>(p.getD i pk0).t +1
theorem enI_step {p:List Pk} (hv:Vld p) {i:Nat} (hi:i<p.length):max (enI p i) ((p.getD i pk0).t +1)=enI p (i+1):=by
 have h1:=hv.o i hi
 have h2:=hv.g i hi
 unfold bad at h2
 show _=(p.getD i pk0).t +1
 cases i with
 |zero=>show max 0 _=_;omega
 |succ i=>show max ((p.getD i pk0).t +1) _=_;simp only [Go.Pk.lst]at h1;omega
theorem enI_bd {p:List Pk} (hv:Vld p) {i:Nat} (hi:i≤p.length):0≤enI p i∧enI p i≤2001:=by
 cases i with
 |zero=>simp [enI]
 |succ i=>have:=hv.g i (by omega);unfold bad at this;simp only [enI];omega
theorem enI_end {p:List Pk} (hv:Vld p):enI p p.length=endN p:=by
 unfold endN
 cases h:p.length with
 |zero=>rfl
 |succ i=>have:=hv.g i (by omega);unfold bad at this;simp only [enI];omega
theorem rend14_ok (p:List Pk) (hv:Vld p):Ctr Tryz.prog 202 [.psl 3 (pks p)] [] (fun r o=>o=[]∧r=i64 (endN p)):=by
 refine fI 0 Tryz.func202 ?_
 have hpl:=pks_len p
 have hl:=hv.l
 (repeat' (conv=>whnf);first|refine aC ?_ ?_<;>intro<;>try omega|refine z1_C1 ?_|fail);all_goals try (conv=>whnf)
 refine LoopOb.mk (Y:=Nat) (st:=fun i=>⟨[(4,i64 i),(3,i64 (enI p i)),(0, .psl 3 (pks p))],[]⟩)
  (inv:=fun i=>i≤p.length) (fun i=>p.length-i) 0 [] (by omega) (by(exact aL)) ?_
 intro i hi
 have b0:=enI_bd hv hi
 (repeat' (conv=>whnf);first|refine z1_C1 ?_|fail);all_goals try (conv=>whnf)
 refine CondOb.mk (fun hlt=>?_) (fun hlt=>?_)
 ·have hil:i<p.length:=by omega
  have hg:=pks_get hil
  have e:=enI_step hv hil
  have b1:=enI_bd hv hi
  have b2:=hv.g i hil
  unfold bad at b2
  generalize p.getD i pk0=x at*
  (repeat' (conv=>whnf);first|refine⟨i,_,rfl,hg,?_⟩|refine aC ?_ ?_<;>intro<;>try omega|refine z1_C1 ?_|fail);all_goals try (conv=>whnf)
  exact⟨i+1,[],by omega,by omega,by rw [←e];(exact aL)⟩
 ·have e:i=p.length:=by omega
  subst e
  rw [enI_end hv]
  (repeat' (conv=>whnf);first|refine aC ?_ ?_<;>intro<;>try omega|refine z1_C1 ?_|fail);all_goals try (conv=>whnf)
  all_goals first
   |exact⟨rfl,rfl⟩
   |trace_state
abbrev icS (p:List Pk) (flow:Int) (i u:Nat):Int:=incL (u:Int) (selN p flow i)
theorem icS_sel {p:List Pk} {flow:Int} {i:Nat} (hs:sel flow (p.getD i pk0)) (u:Nat):icS p flow (i+1) u=if(p.getD i pk0).t +1=u then icS p flow i u+(p.getD i pk0).s else icS p flow i u:=by
 unfold icS
 rw [(selN_step p flow i).1 hs,incL_app]
 simp only [incL]
 split<;>omega
abbrev cuS (A I:Nat→Int) (t u:Nat):Int:=if u<t then A u else I u
theorem z3_D3 {G H:Prop} (k:H) (h:H→G:=by first|exact fun r=>aS r|exact fun r=>aG r|exact fun r=>aD r|exact fun r=>aP_C1 r|exact fun r=>aI r|exact fun r=>aJ r|exact fun r=>aW (.qs [0,1,2,3,4,5,6,7,8,9,10,11,12,13,14,15,16,17,18,19,20,21,22] (.l 23 [] .nil .no)) r|exact fun r=>aW (.qs [0,1,2,3,4,5,6,7,8,9,10,11,12] (.l 13 [] .nil .no)) r):G:=h k
theorem z2_D3 {G H:Prop} (k:H) (h:H→G:=by first|exact fun r=>aS r|exact fun r=>aG r|exact fun r=>aD r|exact fun r=>aH r|exact fun r=>aP_C1 r|exact fun r=>aI r|exact fun r=>aJ r|exact fun r=>aW (.qs [0,1,2,3,4,5,6,7,8,9,10,11,12,13,14,15,16,17,18,19,20,21,22] (.l 23 [] .nil .no)) r|exact fun r=>aW (.qs [0,1,2,3,4,5,6,7,8,9,10,11,12] (.l 13 [] .nil .no)) r):G:=h k
theorem rsums14_ok (p:List Pk) (hv:Vld p) (flow:Int) (hf: -1≤flow):Ctr Tryz.prog 196 [.psl 3 (pks p),i64 flow] [] (fun r o=>o=[]∧r= .psl 1 (ints (vals (csm p flow) (endN p+1)))):=by
 refine Ctr.imp ?_
 refine fI 0 Tryz.func196 ?_
 have hpl:=pks_len p
 have hl:=hv.l
 have hN:=endN_le hv
 have hE:=end_lt hv
 have cE:=rend14_ok p hv
 have hib:∀i,i≤p.length→∀u,0≤icS p flow i u∧icS p flow i u≤60000000:=fun i hi u=>by
  have h1:=incL_bd (u:=(u:Int)) (l:=selN p flow i) fun x hx=>hv.sml _ (selN_mem hi x hx).2.2
  have h2:=selN_len p flow i
  unfold icS;omega
 have hcb:∀t,0≤csm p flow t∧csm p flow t≤60000000:=fun t=>by
  have h1:=sel_bd (flow:=flow) (t:=(t:Int)) hv.sml (selN p flow p.length).length
  rw [List.take_length]at h1
  show 0≤bysL _ _∧bysL _ _≤_
  omega
 have hinc:∀t,csm p flow (t+1)=csm p flow t+icS p flow p.length (t+1):=fun t=>by
  show bysL _ _=bysL _ _+incL _ _
  push_cast
  exact bysL_inc _ _
 have hz:=bysL_zero (l:=selN p flow p.length) fun x hx=>(hE _ (selN_mem (Nat.le_refl _) x hx).2.2).1
 have hz1:csm p flow 0=0:=hz.1
 have hz2:icS p flow p.length 0=0:=hz.2
 generalize hNn:endN p=N at*
 have hrep:List.replicate (N+1) ([i64 0]:List SV)=ints (vals (icS p flow 0) (N+1)):=by
  show _=ints (vals (fun _=>0) (N+1))
  simp [ints,vals,List.map_const']
 (repeat' (conv=>whnf);first|refine⟨N+1,N+1,by omega,by omega,Nat.le_refl _,⟨by(simp only;omega),by omega⟩,?_⟩|refine aC ?_ ?_<;>intro<;>try omega|refine aS ?_|refine aG ?_|refine aD ?_|refine aH ?_|refine aP_C1 ?_|refine aI ?_|refine aJ ?_|refine⟨_,_,rfl,rfl,Nat.le_refl _,⟨by(simp only;omega),by omega⟩,?_⟩|refine aW (.qs [0,1,2,3,4,5,6,7,8,9,10,11,12,13,14,15,16,17,18,19,20,21,22] (.l 23 [] .nil .no)) ?_|refine aW (.qs [0,1,2,3,4,5,6,7,8,9,10,11,12] (.l 13 [] .nil .no)) ?_|(refine aK [] cE ?_)|fail);all_goals try (conv=>whnf)
 refine LoopOb.mk (Y:=Nat) (st:=fun i=>⟨[(6,i64 i),(5, .vec 0),(0, .psl 3 (pks p)),(1,i64 flow)],[.vec 1 (ints (vals (icS p flow i) (N+1)))]⟩)
  (inv:=fun i=>i≤p.length) (fun i=>p.length-i) 0 [1] (by omega) (by rw [←hrep];(exact aL)) ?_
 intro i hi
 have lV:(ints (vals (icS p flow i) (N+1))).length =N+1:=by rw [ints_len,vals_len]
 (repeat' (conv=>whnf);first|refine z2_D3 ?_|fail);all_goals try (conv=>whnf)
 refine CondOb.mk (fun hlt=>?_) (fun hlt=>?_)
 ·have hil:i<p.length:=by omega
  have hg:=pks_get hil
  have hx:=hE _ (getD_memP hil)
  have hb:=hv.g i hil
  unfold bad at hb
  have hsel:sel flow (p.getD i pk0)↔flow= -1∨(p.getD i pk0).f =flow:=by unfold sel;omega
  obtain⟨T,hT⟩:∃T:Nat,(p.getD i pk0).t +1=T:=⟨((p.getD i pk0).t +1).toNat,by omega⟩
  have hget:=(ints_get (l:=vals (icS p flow i) (N+1)) (j:=T) (by rw [vals_len];omega)).trans (by rw [vals_get (by omega)])
  have hbd:=hib i hi T
  have hset:sel flow (p.getD i pk0)→(ints (vals (icS p flow i) (N+1))).set T [i64 (icS p flow i T+(p.getD i pk0).s)]=ints (vals (icS p flow (i+1)) (N+1)):=fun h=>by
   have e:(ints (vals (icS p flow i) (N+1))).set T [i64 (icS p flow i T+(p.getD i pk0).s)]=ints ((vals (icS p flow i) (N+1)).set T (icS p flow i T+(p.getD i pk0).s)):=by simp [ints,List.map_set]
   rw [e,vals_set (by omega)]
   congr 1
   refine vals_congr fun u hu=>?_
   rw [icS_sel h]
   by_cases h1:u=T
   ·subst h1;rw [if_pos rfl,if_pos (by omega)]
   ·rw [if_neg h1,if_neg (by omega)]
  have hno:¬sel flow (p.getD i pk0)→vals (icS p flow (i+1)) (N+1)=vals (icS p flow i) (N+1):=fun h=>vals_congr fun u hu=>by unfold icS;rw [(selN_step p flow i).2 h]
  generalize p.getD i pk0=x at*
  generalize icS p flow i T=w at*
  generalize vals (icS p flow i) (N+1)=V at*
  (repeat' (conv=>whnf);first|refine⟨_,hget,?_⟩|refine⟨T,by omega,by omega,?_⟩|refine⟨i,_,rfl,hg,?_⟩|refine aC ?_ ?_<;>intro<;>try omega|refine z2_D3 ?_|fail);all_goals try (conv=>whnf)
  all_goals first
   |(refine⟨i+1,[0],by omega,by omega,?_⟩;rw [←hset (hsel.2 (by omega))];(exact aL);done)
   |(refine⟨i+1,[0],by omega,by omega,?_⟩;rw [hno (fun h=>by have:=hsel.1 h;omega)];(exact aL);done)
   |trace_state
 ·have e:i=p.length:=by omega
  subst e
  clear hlt hi
  (repeat' (conv=>whnf);first|refine aC ?_ ?_<;>intro<;>try omega|refine z2_D3 ?_|fail);all_goals try (conv=>whnf)
  refine LoopOb.mk (Y:=Nat) (st:=fun t=>⟨[(7,i64 t),(5, .vec 0),(0, .psl 3 (pks p)),(1,i64 flow)],[.vec 1 (ints (vals (cuS (csm p flow) (icS p flow p.length) t) (N+1)))]⟩)
   (inv:=fun t=>1≤t∧t≤N+1) (fun t=>N+1-t) 1 [0] (by omega) ?_ ?_
  ·have e:vals (icS p flow p.length) (N+1)=vals (cuS (csm p flow) (icS p flow p.length) 1) (N+1):=vals_congr fun u hu=>by
    unfold cuS
    by_cases h:u<1
    ·rw [if_pos h,show u=0 by omega,hz1,hz2]
    ·rw [if_neg h]
   rw [e];(exact aL)
  intro t ht
  have lW:(ints (vals (cuS (csm p flow) (icS p flow p.length) t) (N+1))).length =N+1:=by rw [ints_len,vals_len]
  (repeat' (conv=>whnf);first|refine z2_D3 ?_|fail);all_goals try (conv=>whnf)
  refine CondOb.mk (fun hlt=>?_) (fun hlt=>?_)
  ·have htl:t<N+1:=by omega
   obtain⟨t0,rfl⟩:∃t0,t=t0+1:=⟨t-1,by omega⟩
   have g1:=(ints_get (l:=vals (cuS (csm p flow) (icS p flow p.length) (t0+1)) (N+1)) (j:=t0+1) (by rw [vals_len];omega)).trans (by rw [vals_get htl,cuS,if_neg (by omega)])
   have g2:=(ints_get (l:=vals (cuS (csm p flow) (icS p flow p.length) (t0+1)) (N+1)) (j:=t0) (by rw [vals_len];omega)).trans (by rw [vals_get (by omega),cuS,if_pos (by omega)])
   have hset:(ints (vals (cuS (csm p flow) (icS p flow p.length) (t0+1)) (N+1))).set (t0+1) [i64 (icS p flow p.length (t0+1)+csm p flow t0)]=ints (vals (cuS (csm p flow) (icS p flow p.length) (t0+1+1)) (N+1)):=by
    have e:(ints (vals (cuS (csm p flow) (icS p flow p.length) (t0+1)) (N+1))).set (t0+1) [i64 (icS p flow p.length (t0+1)+csm p flow t0)]=ints ((vals (cuS (csm p flow) (icS p flow p.length) (t0+1)) (N+1)).set (t0+1) (icS p flow p.length (t0+1)+csm p flow t0)):=by simp [ints,List.map_set]
    rw [e,vals_set htl]
    congr 1
    refine vals_congr fun u hu=>?_
    by_cases h1:u=t0+1
    ·subst h1;rw [if_pos rfl];unfold cuS;rw [if_pos (by omega),hinc];omega
    ·rw [if_neg h1];unfold cuS
     by_cases h2:u<t0+1
     ·rw [if_pos h2,if_pos (by omega)]
     ·rw [if_neg h2,if_neg (by omega)]
   have b1:=hib p.length (Nat.le_refl _) (t0+1)
   have b2:=hcb t0
   generalize icS p flow p.length (t0+1)=x at g1 b1 hset
   generalize csm p flow t0=y at g2 b2 hset
   (repeat' (conv=>whnf);first|refine⟨_,g2,?_⟩|refine⟨_,g1,?_⟩|refine⟨t0,by omega,by omega,?_⟩|refine⟨t0+1,by omega,by(first|omega|(simp only [List.length_set];omega)),?_⟩|refine aC ?_ ?_<;>intro<;>try omega|refine z2_D3 ?_|fail);all_goals try (conv=>whnf)
   exact⟨t0+1+1,[0],by omega,by omega,by rw [←hset];(exact aL)⟩
  ·have e:t=N+1:=by omega
   subst e
   have e:vals (cuS (csm p flow) (icS p flow p.length) (N+1)) (N+1)=vals (csm p flow) (N+1):=vals_congr fun u hu=>by unfold cuS;rw [if_pos hu]
   rw [e]
   (repeat' (conv=>whnf);first|refine aC ?_ ?_<;>intro<;>try omega|refine z3_D3 ?_|fail);all_goals try (conv=>whnf)
   refine .mk [.fz 0] ?_
   (repeat' (conv=>whnf);first|refine aC ?_ ?_<;>intro<;>try omega|refine z2_D3 ?_|fail);all_goals try (conv=>whnf)
   exact⟨rfl,Imp.refl _⟩
end
end Go.Proofs.YtaomhdljcdadaaaGreat
