/- Lemmas of this seat. Conditions: as stated. -/
import Derived.Test.YtbcjojomkibgeaaGreatN3
import Derived.Test.YtbcjojomkibgeaaGreatVc
set_option linter.unusedVariables false
set_option linter.unusedSimpArgs false
set_option maxHeartbeats 2000000
set_option maxRecDepth 4000
namespace Go.Proofs.YtbcjojomkibgeaaGreat
open Go.Sx Go.Np Go.Cv
theorem cFinite_ok (vs:List Int) (p q:Int):Ctr Tryz.prog 126 [crv vs p q] [] (fun r o=>o=[]∧r= .bp (ValidP vs p q∧FinP vs)):=by
 refine Ctr.imp ?_
 refine fI 0 Tryz.func126 ?_
 (repeat' (conv=>whnf);first|refine aC ?_ ?_<;>intro _|refine z1_Ks ?_|fail);all_goals try (conv=>whnf)
 refine aK [] (curve_ok vs p q) ?_
 (repeat' (conv=>whnf);first|refine aC ?_ ?_<;>intro _|refine z1_Ks ?_|fail);all_goals try (conv=>whnf)
 ·have hv:ValidP vs p q:=by assumption
  have h1:=hv.1
  have h2:=hv.2.1
  refine aK [] (wFinite_ok vs p q h1 (by omega)) ?_
  (repeat' (conv=>whnf);first|refine aC ?_ ?_<;>intro _|refine z1_Ks ?_|fail);all_goals try (conv=>whnf)
  exact⟨rfl,Imp.bp ⟨fun h=>⟨hv,h⟩,fun h=>h.2⟩⟩
 ·exact⟨rfl,Imp.bl ⟨fun h=>(by cases h),fun h=>absurd h.1 (by assumption)⟩⟩
def mtn (met:List ByteArray):List (ByteArray×SV):=met.map fun s=>(s, .bl true)
theorem mts_some {met:List ByteArray} {s:ByteArray} {v:SV} (h:(mtn met).lookup s=some v):v= .bl true∧s∈met:=by
 induction met with
 |nil=>simp [mtn]at h
 |cons a r ih=>
  simp only [mtn,List.map_cons,List.lookup]at h
  split at h
  ·rename_i e
   have:=eq_of_beq e
   subst this
   injection h with h
   exact⟨h.symm,by simp⟩
  ·have:=ih h
   exact⟨this.1,by simp [this.2]⟩
theorem mts_none {met:List ByteArray} {s:ByteArray} (h:(mtn met).lookup s=none):s∉met:=by
 induction met with
 |nil=>simp
 |cons a r ih=>
  simp only [mtn,List.map_cons,List.lookup]at h
  split at h
  ·cases h
  ·rename_i e
   have h2:=ih h
   simp only [List.mem_cons,not_or]
   refine⟨fun e2=>?_,h2⟩
   subst e2
   rw [beq_self_eq_true]at e;cases e
theorem mts_append {a:List ByteArray} {s:ByteArray}:mtn a++[(s, .bl true)]=mtn (a++[s]):=by simp [mtn]
noncomputable def mtw (met:List ByteArray) (s:ByteArray):List ByteArray:=if nmErr met s=0 then met++[s]else met
theorem fresh_ok (met:List ByteArray) (s:ByteArray) (hs:s.size≤9223372036854775807):Ctr Tryz.prog 83 [.mp 0, .str s] [.mapS (mtn met)] (fun r o=>o=[.mapS (mtn (mtw met s))]∧r=i64 (nmErr met s)):=by
 refine fI 1 Tryz.func83 ?_
 (repeat' (conv=>whnf);first|refine aC ?_ ?_<;>intro _|refine z1_Ks ?_|(refine aK [] (Word_ok s hs) ?_)|fail);all_goals try (conv=>whnf)
 ·have hw:¬WordP s:=by assumption
  have e:nmErr met s=4:=by unfold nmErr;rw [if_pos hw]
  exact⟨by unfold mtw;rw [e,if_neg (by decide)],by rw [e];rfl⟩
 have hw:=Classical.not_not.1 ‹¬¬WordP s›
 refine MapOb.mk (fun v hv=>?_) (fun hv=>?_)
 ·obtain⟨rfl,hm⟩:=mts_some hv
  (repeat' (conv=>whnf);first|refine aC ?_ ?_<;>intro _|refine z1_Ks ?_|fail);all_goals try (conv=>whnf)
  have e:nmErr met s=60:=by unfold nmErr;rw [if_neg (fun h=>h hw),if_pos hm]
  exact⟨by unfold mtw;rw [e,if_neg (by decide)],by rw [e];rfl⟩
 ·have hm:=mts_none hv
  have e:nmErr met s=0:=by unfold nmErr;rw [if_neg (fun h=>h hw),if_neg hm]
  (repeat' (conv=>whnf);first|refine aC ?_ ?_<;>intro _|refine z1_Ks ?_|fail);all_goals try (conv=>whnf)
  refine PutOb.mk (fun h=>absurd hv h) (fun _=>?_)
  (repeat' (conv=>whnf);first|refine aC ?_ ?_<;>intro _|refine z1_Ks ?_|fail);all_goals try (conv=>whnf)
  exact⟨by unfold mtw;rw [e,if_pos rfl,←mts_append],by rw [e];rfl⟩
def mti (met:List Int):List (Int×SV):=met.map fun s=>(s, .bl true)
theorem mti_some {met:List Int} {s:Int} {v:SV} (h:(mti met).lookup s=some v):v= .bl true∧s∈met:=by
 induction met with
 |nil=>simp [mti]at h
 |cons a r ih=>
  simp only [mti,List.map_cons,List.lookup]at h
  split at h
  ·rename_i e
   have:=eq_of_beq e
   subst this
   injection h with h
   exact⟨h.symm,by simp⟩
  ·have:=ih h
   exact⟨this.1,by simp [this.2]⟩
theorem mti_none {met:List Int} {s:Int} (h:(mti met).lookup s=none):s∉met:=by
 induction met with
 |nil=>simp
 |cons a r ih=>
  simp only [mti,List.map_cons,List.lookup]at h
  split at h
  ·cases h
  ·rename_i e
   have h2:=ih h
   simp only [List.mem_cons,not_or]
   refine⟨fun e2=>?_,h2⟩
   subst e2
   rw [beq_self_eq_true]at e;cases e
theorem mti_append {a:List Int} {s:Int}:mti a++[(s, .bl true)]=mti (a++[s]):=by simp [mti]
theorem take_succ' {α:Type} {l:List α} {d:α} {i:Nat} (h:i<l.length):l.take (i+1)=l.take i++[l.getD i d]:=by
 rw [List.take_succ_eq_append_getElem h];simp [List.getD_eq_getElem?_getD,h]
structure FL (f:Fl):Prop where
 nm:f.nm.size≤9223372036854775807
 rt:f.rt.length≤9223372036854775807
 v:f.v.length≤9223372036854775807
abbrev fv (f:Fl):SV:= .agg [.str f.nm, .psl 1 (ints f.rt),i64 f.cl,i64 f.lo,i64 f.hi, .psl 1 (ints f.v),i64 f.p,i64 f.q]
theorem z2_N6 {G H:Prop} (k:H) (h:H→G:=by first|exact fun r=>aS r|exact fun r=>aG r|exact fun r=>aD r|exact fun r=>aH r|exact fun r=>aP_Ks r|exact fun r=>aI r|exact fun r=>aJ r|exact fun r=>aW (.qs [0,1,2,3,4,5,6,7,8,9,10,11,12,13] .nil) r):G:=h k
theorem route_ok (n:Nt) (hn:n.ln.length≤9223372036854775807) (f:Fl) (hf:FL f):Ctr Tryz.prog 85 [ntv n,fv f] [] (fun r o=>o=[]∧r=i64 (routeE n.ln f)):=by
 refine fI 0 Tryz.func85 ?_
 have hrl:=ints_len f.rt
 have hll:=lnl n.ln
 have hf2:=hf.rt
 (repeat' (conv=>whnf);first|refine aC ?_ ?_<;>intro<;>try omega|refine z2_N6 ?_|fail);all_goals try (conv=>whnf)
 ·exact⟨rfl,by unfold routeE;rw [if_pos (by omega)];rfl⟩
 ·exact⟨rfl,by unfold routeE;rw [if_neg (by omega),if_pos (by omega)];rfl⟩
 have hrt:routeE n.ln f=firstE (hopE n.ln f) f.rt.length:=by unfold routeE;rw [if_neg (by omega),if_neg (by omega)]
 refine LoopOb.mk (Y:=Nat) (st:=fun i=>⟨[(20,i64 i),(19,i64 (ints f.rt).length),(18, .psl 1 (ints f.rt)),(5, .mp 2),(3, .ptr 1 0),(2, .ptr 0 0)],[.box [.psl 1 (strs n.nm), .psl 5 (lns n.ln), .psl 8 (fls n.fl)], .box [.str f.nm, .psl 1 (ints f.rt),i64 f.cl,i64 f.lo,i64 f.hi, .psl 1 (ints f.v),i64 f.p,i64 f.q], .mapI (mti (f.rt.take i))]⟩)
  (inv:=fun i=>i≤f.rt.length∧∀j<i,hopE n.ln f j=0) (fun i=>f.rt.length-i) 0 [0,1,2] ⟨by omega,by omega⟩ (by rw [List.take_zero];(exact aL)) ?_
 rintro i ⟨hi,hv⟩
 (repeat' (conv=>whnf);first|refine z2_N6 ?_|fail);all_goals try (conv=>whnf)
 refine CondOb.mk (fun hlt=>?_) (fun hlt=>?_)
 ·have hil:i<f.rt.length:=by omega
  have hE:hopE n.ln f i=hopE n.ln f i:=rfl
  conv at hE=>rhs;unfold hopE
  have hst:hopE n.ln f i=0→∀j<i+1,hopE n.ln f j=0:=fun h j hj=>by
   by_cases e:j=i
   ·rw [e];exact h
   ·exact hv j (by omega)
  have hat:hopE n.ln f i≠0→routeE n.ln f=hopE n.ln f i:=fun h=>by rw [hrt];exact firstE_at hil hv h
  have ht:=take_succ' (d:=0) hil
  generalize hopE n.ln f i=E at*
  generalize f.rt.take i=met at*
  (repeat' (conv=>whnf);first|refine aC ?_ ?_<;>intro<;>try omega|refine z2_N6 ?_|fail);all_goals try (conv=>whnf)
  ·have e:E=2:=by rw [hE,if_pos (by omega)]
   exact⟨rfl,by rw [hat (by omega),e];rfl⟩
  ·have e:E=2:=by rw [hE,if_pos (by omega)]
   exact⟨rfl,by rw [hat (by omega),e];rfl⟩
  have hxl:(f.rt.getD i 0).toNat <n.ln.length:=by omega
  rw [if_neg (by omega)]at hE
  have hg:=lng hxl
  generalize n.ln.getD (f.rt.getD i 0).toNat ln0=l at*
  refine MapOb.mk (fun v hv=>?_) (fun hv=>?_)
  ·obtain⟨rfl,hm⟩:=mti_some hv
   rw [if_pos hm]at hE
   (repeat' (conv=>whnf);first|refine aC ?_ ?_<;>intro<;>try omega|refine z2_N6 ?_|fail);all_goals try (conv=>whnf)
   exact⟨rfl,by rw [hat (by omega),hE];rfl⟩
  ·have hm:=mti_none hv
   rw [if_neg hm]at hE
   (repeat' (conv=>whnf);first|refine aC ?_ ?_<;>intro<;>try omega|refine z2_N6 ?_|refine PutOb.mk (fun h=>absurd hv h) (fun _=>?_)|refine⟨(f.rt.getD i 0).toNat,_,by omega,hg,?_⟩|fail);all_goals try (conv=>whnf)
   ·rw [if_pos (by omega)]at hE
    exact⟨rfl,by rw [hat (by omega),hE];rfl⟩
   ·rw [if_pos (by omega)]at hE
    exact⟨rfl,by rw [hat (by omega),hE];rfl⟩
   ·rw [if_neg (by omega)]at hE
    exact⟨i+1,[0,1,2],⟨by omega,hst hE⟩,by omega,by rw [ht,←mti_append];(exact aL)⟩
 ·(repeat' (conv=>whnf);first|refine aC ?_ ?_<;>intro _|refine z2_N6 ?_|fail);all_goals try (conv=>whnf)
  exact⟨rfl,by rw [hrt,firstE_all (fun j hj=>hv j (by omega))];rfl⟩
open Classical in
noncomputable def trf (f:Fl):Int:=trafE (ValidP f.v f.p f.q) (FinP f.v) f
open Classical in
theorem trf_eq (f:Fl):trf f=if f.lo<1∨f.hi<f.lo∨1500<f.hi then 2 else if¬ValidP f.v f.p f.q then 1 else if f.v.getD 0 0≠0 then 6 else if¬FinP f.v then 2 else 0:=by
 unfold trf trafE;rfl
theorem traffic_ok (f:Fl) (hf:FL f):Ctr Tryz.prog 86 [fv f] [] (fun r o=>o=[]∧r=i64 (trf f)):=by
 refine fI 0 Tryz.func86 ?_
 have hvl:=ints_len f.v
 have hE:=trf_eq f
 generalize trf f=E at*
 (repeat' (conv=>whnf);first|refine aC ?_ ?_<;>intro<;>try omega|refine z1_Ks ?_|fail);all_goals try (conv=>whnf)
 ·exact⟨rfl,by rw [hE,if_pos (by omega)];rfl⟩
 ·exact⟨rfl,by rw [hE,if_pos (by omega)];rfl⟩
 ·exact⟨rfl,by rw [hE,if_pos (by omega)];rfl⟩
 rw [if_neg (by omega)]at hE
 refine aK [] (curve_ok f.v f.p f.q) ?_
 (repeat' (conv=>whnf);first|refine z1_Ks ?_|fail);all_goals try (conv=>whnf)
 refine CondOb.mk (fun h1=>?_) (fun h1=>?_)
 ·(repeat' (conv=>whnf);first|refine aC ?_ ?_<;>intro<;>try omega|refine z1_Ks ?_|fail);all_goals try (conv=>whnf)
  exact⟨rfl,by rw [hE,if_pos h1];rfl⟩
 rw [if_neg h1]at hE
 have hv:=Classical.not_not.1 h1
 have hv1:=hv.1
 (repeat' (conv=>whnf);first|refine aC ?_ ?_<;>intro<;>try omega|refine z1_Ks ?_|fail);all_goals try (conv=>whnf)
 ·exact⟨rfl,by rw [hE,if_pos (by assumption)];rfl⟩
 rw [if_neg (by assumption)]at hE
 refine aK [] (cFinite_ok f.v f.p f.q) ?_
 (repeat' (conv=>whnf);first|refine z1_Ks ?_|fail);all_goals try (conv=>whnf)
 refine CondOb.mk (fun h2=>?_) (fun h2=>?_)
 ·(repeat' (conv=>whnf);first|refine aC ?_ ?_<;>intro<;>try omega|refine z1_Ks ?_|fail);all_goals try (conv=>whnf)
  exact⟨rfl,by rw [hE,if_pos (fun h=>h2 ⟨hv,h⟩)];rfl⟩
 ·(repeat' (conv=>whnf);first|refine aC ?_ ?_<;>intro<;>try omega|refine z1_Ks ?_|fail);all_goals try (conv=>whnf)
  exact⟨rfl,by rw [hE,if_neg (fun h=>h2 fun k=>h k.2)];rfl⟩
end Go.Proofs.YtbcjojomkibgeaaGreat
