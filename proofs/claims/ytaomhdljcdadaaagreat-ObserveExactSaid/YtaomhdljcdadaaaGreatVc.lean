/- Lemmas of this seat. Conditions: as stated. -/
import Derived.Test.YtaomhdljcdadaaaGreatNd
import Derived.Test.YtaomhdljcdadaaaGreatPl
import Derived.Test.YtaomhdljcdadaaaGreatN13
set_option linter.unusedVariables false
set_option linter.unusedSimpArgs false
set_option maxHeartbeats 2000000
set_option maxRecDepth 4000
namespace Go.Proofs.YtaomhdljcdadaaaGreat
section
open Go.Sx Go.Np Go.Cv
theorem z1_Vc {G H:Prop} (k:H) (h:H→G:=by first|exact fun r=>aS r|exact fun r=>aG r|exact fun r=>aD r|exact fun r=>aH r|exact fun r=>aP_Kn r|exact fun r=>aI r|exact fun r=>aJ r|exact fun r=>aW (.qs [0,1,2,3,4,5,6,7,8,9,10,11,12,13,14,15,16,17,18,19,20,21,22,23,24,25,26,27,28,29,30,31,32,33,34,35,36,37,38,39] .nil) r|exact fun r=>aW (.qs [0,1,2,3,4,5,6,7,8,9,10,11,12,13,14,15,16,17,18] .nil) r):G:=h k
theorem rCurve_ok (vs:List Int) (p i:Int):
  Ctr Tryz.prog 133 [crv vs p i] [] (fun r o=>o=[]∧r= .bp (ValidP vs p i)):=by
 refine Ctr.imp ?_
 refine fI 0 Tryz.func133 ?_
 (repeat' (conv=>whnf);first|refine aC ?_ ?_<;>intro _|refine z1_Vc ?_|fail);all_goals try (conv=>whnf)
 all_goals try (refine And.intro rfl (Imp.bl ⟨fun h=>(by cases h),fun h=>?_⟩);simp only [ints_len]at*;simp only [ValidP]at h;omega)
 rename_i h1 h2 h3 h4 h5 h6 h7
 simp only [ints_len]at h1 h2 h3 h4 h5 h6 h7
 refine LoopOb.mk (Y:=Nat) (st:=fun j=>⟨[(1, .ptr 0 0),(3, .num .i64 vs.length),(4, .num .i64 j)],[.box [.psl 1 (ints vs), .num .i64 p, .num .i64 i]]⟩)
  (inv:=fun j=>j≤vs.length∧(∀k<j,vs.getD k 0=4611686018427387904∨0≤vs.getD k 0∧vs.getD k 0≤1073741824)∧(∀k,k+1<j→vs.getD k 0≤vs.getD (k+1) 0)) (fun j=>vs.length-j) 0 [0] ?_ ?_ ?_
 ·simp
 ·(exact aL)
 ·rintro j ⟨hj,hv,hm⟩
  (repeat' (conv=>whnf);first|refine aC ?_ ?_<;>intro _|refine z1_Vc ?_|fail);all_goals try (conv=>whnf)
  all_goals try rw [show(↑j-1:Int).toNat =j-1 by omega]at*
  all_goals try (
   refine And.intro rfl (Imp.bl ⟨fun h=>(by cases h),fun h=>?_⟩)
   obtain⟨_,_,_,_,_,_,_,q1,q2,q3,_⟩:=h
   have q1:=q1 j
   have q2:=q2 (j-1)
   try rw [show j-1+1=j by omega]at q2
   try rw [show(vs.length-1:Int).toNat =vs.length-1 by omega]at*
   omega)
  all_goals try (
   refine⟨j+1,[0],⟨by omega,fun k hk=>?_,fun k hk=>?_⟩,by omega,?_⟩
   ·by_cases hkj:k=j
    ·subst hkj;omega
    ·exact hv k (by omega)
   ·by_cases hkj:k+1=j
    ·subst hkj;first|omega|(simp only [Nat.add_sub_cancel]at*;omega)
    ·exact hm k (by omega)
   ·(exact aL))
  all_goals have hjl:j=vs.length:=by omega
  all_goals subst hjl
  all_goals rw [show(vs.length-1:Int).toNat =vs.length-1 by omega]at*
  ·have hx2:vs.getD (vs.length-1) 0=4611686018427387904:=by assumption
   have hp:p=1:=by assumption
   exact⟨rfl,Imp.bp ⟨fun h=>⟨by omega,by omega,by omega,by omega,by omega,by omega,by omega,hv,hm,fun _=>⟨hp,h⟩,fun h'=>absurd hx2 h'⟩,fun h=>by obtain⟨_,_,_,_,_,_,_,_,_,q3,_⟩:=h;exact(q3 hx2).2⟩⟩
  ·have hx2:¬vs.getD (vs.length-1) 0=4611686018427387904:=by assumption
   have hq:=hv (vs.length-p).toNat (by omega)
   refine ArOb.fits (by omega) ?_
   (repeat' (conv=>whnf);first|refine aC ?_ ?_<;>intro _|refine z1_Vc ?_|fail);all_goals try (conv=>whnf)
   rw [show(vs.length-1:Int).toNat =vs.length-1 by omega]at*
   rw [show(vs.length-p:Int).toNat =vs.length-p.toNat by omega]at*
   exact⟨rfl,Imp.bp ⟨fun h=>⟨by omega,by omega,by omega,by omega,by omega,by omega,by omega,hv,hm,fun h'=>absurd h' hx2,fun _=>h⟩,fun h=>by obtain⟨_,_,_,_,_,_,_,_,_,_,q4⟩:=h;exact q4 hx2⟩⟩
theorem z2_Vc {G H:Prop} (k:H) (h:H→G:=by first|exact fun r=>aS r|exact fun r=>aG r|exact fun r=>aD r|exact fun r=>aH r|exact fun r=>aP_Kn r|exact fun r=>aI r|exact fun r=>aJ r|exact fun r=>aW (.qs [0,1,2,3,4,5,6,7,8,9,10,11,12,13] .nil) r):G:=h k
theorem curve_ok (vs:List Int) (p i:Int):
  Ctr Tryz.prog 147 [crv vs p i] [] (fun r o=>o=[]∧r= .bp (ValidP vs p i)):=by
 refine Ctr.imp ?_
 refine fI 0 Tryz.func147 ?_
 (repeat' (conv=>whnf);first|refine aC ?_ ?_<;>intro _|refine z2_Vc ?_|fail);all_goals try (conv=>whnf)
 all_goals try (refine And.intro rfl (Imp.bl ⟨fun h=>(by cases h),fun h=>?_⟩);simp only [ints_len]at*;simp only [ValidP]at h;omega)
 rename_i h1 h2 h3 h4 h5 h6 h7
 simp only [ints_len]at*
 have bd:∀j,j<vs.length→(∀k<j+1,vs.getD k 0=INF∨0≤vs.getD k 0∧vs.getD k 0≤1073741824)→True:=fun _ _ _=>trivial
 refine LoopOb.mk (Y:=Nat) (st:=fun j=>⟨[(45,i64 j),(44,i64 vs.length),(43, .psl 1 (ints vs)),(4,i64 (if j=0 then 0 else vs.getD (j-1) 0)),(3,i64 vs.length),(1, .ptr 0 0)],[.box [.psl 1 (ints vs), .num .i64 p, .num .i64 i]]⟩)
  (inv:=fun j=>j≤vs.length∧(∀k<j,vs.getD k 0=4611686018427387904∨0≤vs.getD k 0∧vs.getD k 0≤1073741824)∧(∀k,k+1<j→vs.getD k 0≤vs.getD (k+1) 0)) (fun j=>vs.length-j) 0 [0] ⟨by omega,fun k hk=>by omega,fun k hk=>by omega⟩ (by(exact aL)) ?_
 rintro j ⟨hj,hv,hm⟩
 have hlast:j≠0→vs.getD (j-1) 0=4611686018427387904∨0≤vs.getD (j-1) 0∧vs.getD (j-1) 0≤1073741824:=fun h=>hv (j-1) (by omega)
 (repeat' (conv=>whnf);first|refine aC ?_ ?_<;>intro _|refine z2_Vc ?_|fail);all_goals try (conv=>whnf)
 all_goals try (
  refine And.intro rfl (Imp.bl ⟨fun h=>(by cases h),fun h=>?_⟩)
  obtain⟨_,_,_,_,_,_,_,q1,q2,q3,_⟩:=h
  have q1:=q1 j
  have q2:=q2 (j-1)
  rcases Nat.eq_zero_or_pos j with h0|h0
  ·subst h0;simp only [if_true,Nat.zero_sub]at*;omega
  ·try rw [if_neg (show¬j=0 by omega)]at*
   rw [show j-1+1=j by omega]at q2
   omega)
 all_goals try (
  refine⟨j+1,[0],⟨by omega,fun k hk=>?_,fun k hk=>?_⟩,by omega,?_⟩
  ·by_cases hkj:k=j
   ·subst hkj
    rcases Nat.eq_zero_or_pos k with h0|h0
    ·subst h0;simp only [if_true]at*;omega
    ·rw [if_neg (show¬k=0 by omega)]at*;omega
   ·exact hv k (by omega)
  ·by_cases hkj:k+1=j
   ·subst hkj;rw [if_neg (show¬k+1=0 by omega)]at*;simp only [Nat.add_sub_cancel]at*;omega
   ·exact hm k (by omega)
  ·refine Le.mk (by kernel_rfl) ?_ ?_<;>repeat' (first|exact True.intro|refine And.intro ?_ ?_|exact Imp.refl _|exact Imp.any _|exact Imp.num (by omega)|exact rfl|exact Imp.num (by simp)))
 all_goals have hjl:j=vs.length:=by omega
 all_goals subst hjl
 all_goals rw [if_neg (show¬vs.length=0 by omega)]at*
 ·have hx2:vs.getD (vs.length-1) 0=4611686018427387904:=by assumption
  have hp:p=1:=by assumption
  exact⟨rfl,Imp.bp ⟨fun h=>⟨by omega,by omega,by omega,by omega,by omega,by omega,by omega,hv,hm,fun _=>⟨hp,h⟩,fun h'=>absurd hx2 h'⟩,fun h=>by obtain⟨_,_,_,_,_,_,_,_,_,q3,_⟩:=h;exact(q3 hx2).2⟩⟩
 ·have hx2:vs.getD (vs.length-1) 0=4611686018427387904:=by assumption
  refine⟨rfl,Imp.bl ⟨fun h=>(by cases h),fun h=>?_⟩⟩
  obtain⟨_,_,_,_,_,_,_,_,_,q3,_⟩:=h
  have:=(q3 hx2).1
  omega
 ·have hx2:¬vs.getD (vs.length-1) 0=4611686018427387904:=by assumption
  have hq:=hv (vs.length-p).toNat (by omega)
  refine ArOb.fits (by omega) ?_
  (repeat' (conv=>whnf);first|refine aC ?_ ?_<;>intro _|refine z2_Vc ?_|fail);all_goals try (conv=>whnf)
  rw [show(vs.length-p:Int).toNat =vs.length-p.toNat by omega]at*
  exact⟨rfl,Imp.bp ⟨fun h=>⟨by omega,by omega,by omega,by omega,by omega,by omega,by omega,hv,hm,fun h'=>absurd h' hx2,fun _=>h⟩,fun h=>by obtain⟨_,_,_,_,_,_,_,_,_,_,q4⟩:=h;exact q4 hx2⟩⟩
theorem rFinite_ok (vs:List Int) (p q:Int):Ctr Tryz.prog 134 [crv vs p q] [] (fun r o=>o=[]∧r= .bp (ValidP vs p q∧FinP vs)):=by
 refine Ctr.imp ?_
 refine fI 0 Tryz.func134 ?_
 (repeat' (conv=>whnf);first|refine aC ?_ ?_<;>intro _|refine z1_Kn ?_|fail);all_goals try (conv=>whnf)
 refine aK [] (rCurve_ok vs p q) ?_
 (repeat' (conv=>whnf);first|refine aC ?_ ?_<;>intro _|refine z1_Kn ?_|fail);all_goals try (conv=>whnf)
 ·have hv:ValidP vs p q:=by assumption
  have h1:=hv.1
  have h2:=hv.2.1
  (repeat' (conv=>whnf);first|refine aC ?_ ?_<;>intro _|refine z1_Kn ?_|fail);all_goals try (conv=>whnf)
  simp only [ints_len]
  rw [show((vs.length:Int)-1).toNat =vs.length-1 by omega]
  exact⟨by trivial,Imp.bp ⟨fun h=>⟨hv,h⟩,fun h=>h.2⟩⟩
 ·have hv:¬ValidP vs p q:=by assumption
  exact⟨rfl,Imp.bl ⟨fun h=>(by cases h),fun h=>absurd h.1 hv⟩⟩
theorem wFinite_ok (vs:List Int) (p q:Int) (h1:1≤vs.length) (h2:vs.length≤1000000):Ctr Tryz.prog 186 [crv vs p q] [] (fun r o=>o=[]∧r= .bp (FinP vs)):=by
 refine fI 0 Tryz.func186 ?_
 (repeat' (conv=>whnf);first|refine aC ?_ ?_<;>intro _|refine z1_Kn ?_|fail);all_goals try (conv=>whnf)
 simp only [ints_len]
 rw [show((vs.length:Int)-1).toNat =vs.length-1 by omega]
 exact⟨by trivial,rfl⟩
end
section
open Go.Sx Go.Np Go.Cv
theorem cFinite_ok (vs:List Int) (p q:Int):Ctr Tryz.prog 148 [crv vs p q] [] (fun r o=>o=[]∧r= .bp (ValidP vs p q∧FinP vs)):=by
 refine Ctr.imp ?_
 refine fI 0 Tryz.func148 ?_
 (repeat' (conv=>whnf);first|refine aC ?_ ?_<;>intro _|refine z1_Kn ?_|fail);all_goals try (conv=>whnf)
 refine aK [] (curve_ok vs p q) ?_
 (repeat' (conv=>whnf);first|refine aC ?_ ?_<;>intro _|refine z1_Kn ?_|fail);all_goals try (conv=>whnf)
 ·have hv:ValidP vs p q:=by assumption
  have h1:=hv.1
  have h2:=hv.2.1
  refine aK [] (wFinite_ok vs p q h1 (by omega)) ?_
  (repeat' (conv=>whnf);first|refine aC ?_ ?_<;>intro _|refine z1_Kn ?_|fail);all_goals try (conv=>whnf)
  exact⟨rfl,Imp.bp ⟨fun h=>⟨hv,h⟩,fun h=>h.2⟩⟩
 ·exact⟨rfl,Imp.bl ⟨fun h=>(by cases h),fun h=>absurd h.1 (by assumption)⟩⟩
def mts (met:List ByteArray):List (ByteArray×SV):=met.map fun s=>(s, .bl true)
theorem mts_some {met:List ByteArray} {s:ByteArray} {v:SV} (h:(mts met).lookup s=some v):v= .bl true∧s∈met:=by
 induction met with
 |nil=>simp [mts]at h
 |cons a r ih=>
  simp only [mts,List.map_cons,List.lookup]at h
  split at h
  ·rename_i e
   have:=eq_of_beq e
   subst this
   injection h with h
   exact⟨h.symm,by simp⟩
  ·have:=ih h
   exact⟨this.1,by simp [this.2]⟩
theorem mts_none {met:List ByteArray} {s:ByteArray} (h:(mts met).lookup s=none):s∉met:=by
 induction met with
 |nil=>simp
 |cons a r ih=>
  simp only [mts,List.map_cons,List.lookup]at h
  split at h
  ·cases h
  ·rename_i e
   have h2:=ih h
   simp only [List.mem_cons,not_or]
   refine⟨fun e2=>?_,h2⟩
   subst e2
   rw [beq_self_eq_true]at e;cases e
theorem mts_append {a:List ByteArray} {s:ByteArray}:mts a++[(s, .bl true)]=mts (a++[s]):=by simp [mts]
noncomputable def mtw (met:List ByteArray) (s:ByteArray):List ByteArray:=if nmErr met s=0 then met++[s]else met
theorem fresh_ok (met:List ByteArray) (s:ByteArray) (hs:s.size≤9223372036854775807):Ctr Tryz.prog 111 [.mp 0, .str s] [.mapS (mts met)] (fun r o=>o=[.mapS (mts (mtw met s))]∧r=i64 (nmErr met s)):=by
 refine fI 1 Tryz.func111 ?_
 (repeat' (conv=>whnf);first|refine aC ?_ ?_<;>intro _|refine z1_Kn ?_|(refine aK [] (Word_ok s hs) ?_)|fail);all_goals try (conv=>whnf)
 ·have hw:¬WordP s:=by assumption
  have e:nmErr met s=4:=by unfold nmErr;rw [if_pos hw]
  exact⟨by unfold mtw;rw [e,if_neg (by decide)],by rw [e];rfl⟩
 have hw:=Classical.not_not.1 ‹¬¬WordP s›
 refine MapOb.mk (fun v hv=>?_) (fun hv=>?_)
 ·obtain⟨rfl,hm⟩:=mts_some hv
  (repeat' (conv=>whnf);first|refine aC ?_ ?_<;>intro _|refine z1_Kn ?_|fail);all_goals try (conv=>whnf)
  have e:nmErr met s=60:=by unfold nmErr;rw [if_neg (fun h=>h hw),if_pos hm]
  exact⟨by unfold mtw;rw [e,if_neg (by decide)],by rw [e];rfl⟩
 ·have hm:=mts_none hv
  have e:nmErr met s=0:=by unfold nmErr;rw [if_neg (fun h=>h hw),if_neg hm]
  (repeat' (conv=>whnf);first|refine aC ?_ ?_<;>intro _|refine z1_Kn ?_|fail);all_goals try (conv=>whnf)
  refine PutOb.mk (fun h=>absurd hv h) (fun _=>?_)
  (repeat' (conv=>whnf);first|refine aC ?_ ?_<;>intro _|refine z1_Kn ?_|fail);all_goals try (conv=>whnf)
  exact⟨by unfold mtw;rw [e,if_pos rfl,←mts_append],by rw [e];rfl⟩
def mti (met:List Int):List (Int×SV):=met.map fun s=>(s, .bl true)
theorem mti_some {met:List Int} {s:Int} {v:SV} (h:(mti met).lookup s=some v):v= .bl true∧s∈met:=by
 induction met with
 |nil=>simp [mti]at h
 |cons a r ih=>
  simp only [mti,List.map_cons,List.lookup]at h
  split at h
  ·rename_i e
   have:=eq_of_beq e
   subst this
   injection h with h
   exact⟨h.symm,by simp⟩
  ·have:=ih h
   exact⟨this.1,by simp [this.2]⟩
theorem mti_none {met:List Int} {s:Int} (h:(mti met).lookup s=none):s∉met:=by
 induction met with
 |nil=>simp
 |cons a r ih=>
  simp only [mti,List.map_cons,List.lookup]at h
  split at h
  ·cases h
  ·rename_i e
   have h2:=ih h
   simp only [List.mem_cons,not_or]
   refine⟨fun e2=>?_,h2⟩
   subst e2
   rw [beq_self_eq_true]at e;cases e
theorem mti_append {a:List Int} {s:Int}:mti a++[(s, .bl true)]=mti (a++[s]):=by simp [mti]
theorem take_succ' {α:Type} {l:List α} {d:α} {i:Nat} (h:i<l.length):l.take (i+1)=l.take i++[l.getD i d]:=by
 rw [List.take_succ_eq_append_getElem h];simp [List.getD_eq_getElem?_getD,h]
structure FL (f:Fl):Prop where
 nm:f.nm.size≤9223372036854775807
 rt:f.rt.length≤9223372036854775807
 v:f.v.length≤9223372036854775807
abbrev fv (f:Fl):SV:= .agg [.str f.nm, .psl 1 (ints f.rt),i64 f.cl,i64 f.lo,i64 f.hi, .psl 1 (ints f.v),i64 f.p,i64 f.q]
theorem route_ok (n:Nt) (hn:n.ln.length≤9223372036854775807) (f:Fl) (hf:FL f):Ctr Tryz.prog 113 [ntv n,fv f] [] (fun r o=>o=[]∧r=i64 (routeE n.ln f)):=by
 refine fI 0 Tryz.func113 ?_
 have hrl:=ints_len f.rt
 have hll:=lnl n.ln
 have hf2:=hf.rt
 (repeat' (conv=>whnf);first|refine aC ?_ ?_<;>intro<;>try omega|refine z2_Vc ?_|fail);all_goals try (conv=>whnf)
 ·exact⟨rfl,by unfold routeE;rw [if_pos (by omega)];rfl⟩
 ·exact⟨rfl,by unfold routeE;rw [if_neg (by omega),if_pos (by omega)];rfl⟩
 have hrt:routeE n.ln f=firstE (hopE n.ln f) f.rt.length:=by unfold routeE;rw [if_neg (by omega),if_neg (by omega)]
 refine LoopOb.mk (Y:=Nat) (st:=fun i=>⟨[(20,i64 i),(19,i64 (ints f.rt).length),(18, .psl 1 (ints f.rt)),(5, .mp 2),(3, .ptr 1 0),(2, .ptr 0 0)],[.box [.psl 1 (strs n.nm), .psl 5 (lns n.ln), .psl 8 (fls n.fl)], .box [.str f.nm, .psl 1 (ints f.rt),i64 f.cl,i64 f.lo,i64 f.hi, .psl 1 (ints f.v),i64 f.p,i64 f.q], .mapI (mti (f.rt.take i))]⟩)
  (inv:=fun i=>i≤f.rt.length∧∀j<i,hopE n.ln f j=0) (fun i=>f.rt.length-i) 0 [0,1,2] ⟨by omega,by omega⟩ (by rw [List.take_zero];(exact aL)) ?_
 rintro i ⟨hi,hv⟩
 (repeat' (conv=>whnf);first|refine z2_Vc ?_|fail);all_goals try (conv=>whnf)
 refine CondOb.mk (fun hlt=>?_) (fun hlt=>?_)
 ·have hil:i<f.rt.length:=by omega
  have hE:hopE n.ln f i=hopE n.ln f i:=rfl
  conv at hE=>rhs;unfold hopE
  have hst:hopE n.ln f i=0→∀j<i+1,hopE n.ln f j=0:=fun h j hj=>by
   by_cases e:j=i
   ·rw [e];exact h
   ·exact hv j (by omega)
  have hat:hopE n.ln f i≠0→routeE n.ln f=hopE n.ln f i:=fun h=>by rw [hrt];exact firstE_at hil hv h
  have ht:=take_succ' (d:=0) hil
  generalize hopE n.ln f i=E at*
  generalize f.rt.take i=met at*
  (repeat' (conv=>whnf);first|refine aC ?_ ?_<;>intro<;>try omega|refine z2_Vc ?_|fail);all_goals try (conv=>whnf)
  ·have e:E=2:=by rw [hE,if_pos (by omega)]
   exact⟨rfl,by rw [hat (by omega),e];rfl⟩
  ·have e:E=2:=by rw [hE,if_pos (by omega)]
   exact⟨rfl,by rw [hat (by omega),e];rfl⟩
  have hxl:(f.rt.getD i 0).toNat <n.ln.length:=by omega
  rw [if_neg (by omega)]at hE
  have hg:=lng hxl
  generalize n.ln.getD (f.rt.getD i 0).toNat ln0=l at*
  refine MapOb.mk (fun v hv=>?_) (fun hv=>?_)
  ·obtain⟨rfl,hm⟩:=mti_some hv
   rw [if_pos hm]at hE
   (repeat' (conv=>whnf);first|refine aC ?_ ?_<;>intro<;>try omega|refine z2_Vc ?_|fail);all_goals try (conv=>whnf)
   exact⟨rfl,by rw [hat (by omega),hE];rfl⟩
  ·have hm:=mti_none hv
   rw [if_neg hm]at hE
   (repeat' (conv=>whnf);first|refine aC ?_ ?_<;>intro<;>try omega|refine z2_Vc ?_|refine PutOb.mk (fun h=>absurd hv h) (fun _=>?_)|refine⟨(f.rt.getD i 0).toNat,_,by omega,hg,?_⟩|fail);all_goals try (conv=>whnf)
   ·rw [if_pos (by omega)]at hE
    exact⟨rfl,by rw [hat (by omega),hE];rfl⟩
   ·rw [if_pos (by omega)]at hE
    exact⟨rfl,by rw [hat (by omega),hE];rfl⟩
   ·rw [if_neg (by omega)]at hE
    exact⟨i+1,[0,1,2],⟨by omega,hst hE⟩,by omega,by rw [ht,←mti_append];(exact aL)⟩
 ·(repeat' (conv=>whnf);first|refine aC ?_ ?_<;>intro _|refine z2_Vc ?_|fail);all_goals try (conv=>whnf)
  exact⟨rfl,by rw [hrt,firstE_all (fun j hj=>hv j (by omega))];rfl⟩
open Classical in
noncomputable def trf (f:Fl):Int:=trafE (ValidP f.v f.p f.q) (FinP f.v) f
open Classical in
theorem trf_eq (f:Fl):trf f=if f.lo<1∨f.hi<f.lo∨1500<f.hi then 2 else if¬ValidP f.v f.p f.q then 1 else if f.v.getD 0 0≠0 then 6 else if¬FinP f.v then 2 else 0:=by
 unfold trf trafE;rfl
theorem traffic_ok (f:Fl) (hf:FL f):Ctr Tryz.prog 114 [fv f] [] (fun r o=>o=[]∧r=i64 (trf f)):=by
 refine fI 0 Tryz.func114 ?_
 have hvl:=ints_len f.v
 have hE:=trf_eq f
 generalize trf f=E at*
 (repeat' (conv=>whnf);first|refine aC ?_ ?_<;>intro<;>try omega|refine z1_Kn ?_|fail);all_goals try (conv=>whnf)
 ·exact⟨rfl,by rw [hE,if_pos (by omega)];rfl⟩
 ·exact⟨rfl,by rw [hE,if_pos (by omega)];rfl⟩
 ·exact⟨rfl,by rw [hE,if_pos (by omega)];rfl⟩
 rw [if_neg (by omega)]at hE
 refine aK [] (curve_ok f.v f.p f.q) ?_
 (repeat' (conv=>whnf);first|refine z1_Kn ?_|fail);all_goals try (conv=>whnf)
 refine CondOb.mk (fun h1=>?_) (fun h1=>?_)
 ·(repeat' (conv=>whnf);first|refine aC ?_ ?_<;>intro<;>try omega|refine z1_Kn ?_|fail);all_goals try (conv=>whnf)
  exact⟨rfl,by rw [hE,if_pos h1];rfl⟩
 rw [if_neg h1]at hE
 have hv:=Classical.not_not.1 h1
 have hv1:=hv.1
 (repeat' (conv=>whnf);first|refine aC ?_ ?_<;>intro<;>try omega|refine z1_Kn ?_|fail);all_goals try (conv=>whnf)
 ·exact⟨rfl,by rw [hE,if_pos (by assumption)];rfl⟩
 rw [if_neg (by assumption)]at hE
 refine aK [] (cFinite_ok f.v f.p f.q) ?_
 (repeat' (conv=>whnf);first|refine z1_Kn ?_|fail);all_goals try (conv=>whnf)
 refine CondOb.mk (fun h2=>?_) (fun h2=>?_)
 ·(repeat' (conv=>whnf);first|refine aC ?_ ?_<;>intro<;>try omega|refine z1_Kn ?_|fail);all_goals try (conv=>whnf)
  exact⟨rfl,by rw [hE,if_pos (fun h=>h2 ⟨hv,h⟩)];rfl⟩
 ·(repeat' (conv=>whnf);first|refine aC ?_ ?_<;>intro<;>try omega|refine z1_Kn ?_|fail);all_goals try (conv=>whnf)
  exact⟨rfl,by rw [hE,if_neg (fun h=>h2 fun k=>h k.2)];rfl⟩
end
end Go.Proofs.YtaomhdljcdadaaaGreat
