/- Lemmas of this seat. Conditions: as stated. -/
import Derived.Test.YtbcjojomkibgeaaGreatQy
import Derived.Test.YtbcjojomkibgeaaGreatPl
set_option linter.unusedVariables false
set_option linter.unusedSimpArgs false
set_option maxHeartbeats 2000000
set_option maxRecDepth 4000
namespace Go.Proofs.YtbcjojomkibgeaaGreat
section
open Go.Sx Go.Np Go.Cv
theorem ints_app (a b:List Int):ints (a++b)=ints a++ints b:=by simp [ints]
theorem idx_no {r:List Int} {l:Int} (h:∀j<r.length,¬r.getD j 0=l):l∉r:=by
 intro hm
 obtain⟨j,hj,e⟩:=List.mem_iff_getElem.1 hm
 exact h j hj (by rw [List.getD_eq_getElem?_getD,List.getElem?_eq_getElem hj,Option.getD_some];exact e)
def stv (b:Int) (p:Nat):List Int:=0::List.replicate p b
theorem stv_len (b:Int) (p:Nat):(stv b p).length =p+1:=by simp [stv]
theorem stv_succ (b:Int) (p:Nat):stv b (p+1)=stv b p++[b]:=by simp [stv,List.replicate_succ']
theorem aP_Ks {A B K:Prop} (k:K) (a:A:=by(simp only [zA,zT,zD,zC,zN,ints_len,zR,Go.Cv.vals_len];omega)) (b:B:=by(simp only [zA,zT,zD,zC,zN,ints_len,zR,Go.Cv.vals_len];omega)):(A∧B)∧K:=⟨⟨a,b⟩,k⟩
theorem z2_Ks {G H:Prop} (k:H) (h:H→G:=by first|exact fun r=>aS r|exact fun r=>aG r|exact fun r=>aD r|exact fun r=>aP_Ks r|exact fun r=>aI r|exact fun r=>aJ r):G:=h k
theorem z1_Ks {G H:Prop} (k:H) (h:H→G:=by first|exact fun r=>aS r|exact fun r=>aG r|exact fun r=>aD r|exact fun r=>aH r|exact fun r=>aP_Ks r|exact fun r=>aI r|exact fun r=>aJ r):G:=h k
theorem Stair_ok (b:Int) (p:Nat) (q:Int) (hp:p≤1000):Ctr Tryz.prog 61 [i64 b,i64 p,i64 q] [] (fun r o=>o=[]∧r=crv (stv b p) p q):=by
 refine Ctr.imp ?_
 refine fI 0 Tryz.func61 ?_
 (repeat' (conv=>whnf);first|refine aC ?_ ?_<;>intro _|refine z1_Ks ?_|fail);all_goals try (conv=>whnf)
 refine LoopOb.mk (Y:=Nat) (st:=fun i=>⟨[(8,i64 i),(7, .ptr 2 0),(6, .ptr 0 0),(0,i64 b),(1,i64 p)],[.box [.nil,i64 0,i64 0], .vec 1 (ints (stv b i)), .box [.vec 1,i64 p,i64 q]]⟩)
  (inv:=fun i=>i≤p) (fun i=>p-i) 0 [0,1,2] (by omega) (by(exact aL)) ?_
 intro i hi
 have hl:=ints_len (stv b i)
 have hs:=stv_len b i
 (repeat' (conv=>whnf);first|refine z1_Ks ?_|fail);all_goals try (conv=>whnf)
 refine CondOb.mk (fun hlt=>?_) (fun hlt=>?_)
 ·(repeat' (conv=>whnf);first|refine aC ?_ ?_<;>intro _|refine z1_Ks ?_|fail);all_goals try (conv=>whnf)
  exact⟨i+1,[0,4,2],by omega,by omega,by rw [stv_succ,ints_app];(exact aL)⟩
 ·have e:i=p:=by omega
  subst e
  (repeat' (conv=>whnf);first|refine aC ?_ ?_<;>intro _|refine z2_Ks ?_|fail);all_goals try (conv=>whnf)
  refine .mk [.fz 1] ?_
  (repeat' (conv=>whnf);first|refine aC ?_ ?_<;>intro _|refine z1_Ks ?_|fail);all_goals try (conv=>whnf)
  exact⟨rfl,Imp.refl _⟩
theorem Range_ok (L:List Int) (k:Nat) (hL:L.length≤2000) (hk:k≤2000) (lo hi:Int) (h1: -1000000≤lo) (h2:lo≤hi) (h3:hi≤1000000):
  Ctr Tryz.prog 29 [.ptr 0 0,i64 lo,i64 hi] [src L k] (fun r o=>∃x:Int×Nat,(lo≤x.1∧x.1≤hi∧x.2≤2000)∧o=[src L x.2]∧r=i64 x.1):=by
 refine fI 1 Tryz.func29 ?_
 (repeat' (conv=>whnf);first|refine aC ?_ ?_<;>intro _|refine z1_Ks ?_|fail);all_goals try (conv=>whnf)
 refine aM [0] (N_ok L k hL hk (hi-lo+1) (by omega) (by omega)) rfl rfl ?_
 rintro _ _ ⟨⟨v,k'⟩,⟨h4,h5,hk'⟩,rfl,rfl⟩
 dsimp only at h4 h5 hk'⊢
 (repeat' (conv=>whnf);first|refine aC ?_ ?_<;>intro _|refine z1_Ks ?_|fail);all_goals try (conv=>whnf)
 exact⟨(lo+v,k'),⟨by simp only;omega,by simp only;omega,hk'⟩,rfl,rfl⟩
def nms (t:Nat):List ByteArray:=(List.range t).map lname
theorem nms_len {t:Nat}:(nms t).length =t:=by simp [nms]
theorem nms_succ {t:Nat}:nms (t+1)=nms t++[lname t]:=by simp [nms,List.range_succ]
theorem nms_get {t i:Nat} (h:i<t):(nms t).getD i bs0=lname i:=by simp [nms,List.getD_eq_getElem?_getD,h]
theorem lns_app (a b:List Ln):lns (a++b)=lns a++lns b:=by simp [lns]
theorem fls_app (a b:List Fl):fls (a++b)=fls a++fls b:=by simp [fls]
theorem strs_app (a b:List ByteArray):strs (a++b)=strs a++strs b:=by simp [strs]
theorem all_app {α:Type} {P:α→Prop} {l:List α} {x:α} (h:∀a∈l,P a) (hx:P x):∀a∈l++[x],P a:=by
 intro a ha
 rcases List.mem_append.1 ha with ha|ha
 ·exact h a ha
 ·rw [List.mem_singleton.1 ha];exact hx
end
section
open Go.Sx Go.Np
theorem Word_ok (s:ByteArray) (hs:s.size≤9223372036854775807):Ctr Tryz.prog 123 [.str s] [] (fun r o=>o=[]∧r= .bp (WordP s)):=by
 refine Ctr.imp ?_
 refine fI 0 Tryz.func123 ?_
 (repeat' (conv=>whnf);first|refine aC ?_ ?_<;>intro<;>try omega|refine z1_Ks ?_|fail);all_goals try (conv=>whnf)
 ·exact⟨rfl,Imp.bl ⟨fun h=>(by cases h),fun h=>by have h1:=h.1;rename_i e;subst e;simp [ByteArray.size]at h1⟩⟩
 ·exact⟨rfl,Imp.bl ⟨fun h=>(by cases h),fun h=>by have h1:=h.2.1;omega⟩⟩
 have h0:=ba_ne ‹¬s=_›
 have e0:bt s 0=((bb s 0).toNat :Int):=rfl
 have hno:¬(97≤bt s 0∧bt s 0≤122)→¬WordP s:=fun h k=>h k.2.2.1
 refine⟨0,_,rfl,bbg h0,?_⟩
 (repeat' (conv=>whnf);first|refine aC ?_ ?_<;>intro<;>try omega|refine z1_Ks ?_|refine⟨0,_,rfl,bbg h0,?_⟩|fail);all_goals try (conv=>whnf)
 ·exact⟨rfl,Imp.bl ⟨fun h=>(by cases h),fun h=>absurd h (hno (by omega))⟩⟩
 ·exact⟨rfl,Imp.bl ⟨fun h=>(by cases h),fun h=>absurd h (hno (by omega))⟩⟩
 have hok0:okC (bt s 0):=by unfold okC;omega
 refine LoopOb.mk (Y:=Nat) (st:=fun i=>⟨[(3,i64 i),(2, .bl false),(0, .str s)],[]⟩)
  (inv:=fun i=>1≤i∧i≤s.size∧∀j,j<i→okC (bt s j)) (fun i=>s.size-i) 1 [] ⟨by omega,by omega,fun j hj=>by rw [show j=0 by omega];exact hok0⟩ (by(exact aL)) ?_
 rintro i ⟨hi1,hi2,hv⟩
 (repeat' (conv=>whnf);first|refine z1_Ks ?_|fail);all_goals try (conv=>whnf)
 refine CondOb.mk (fun hlt=>?_) (fun hlt=>?_)
 ·have hil:i<s.size:=by omega
  have e1:bt s i=((bb s i).toNat :Int):=rfl
  have hno2:¬okC (bt s i)→¬WordP s:=fun h k=>h (k.2.2.2 i hil)
  have hst:okC (bt s i)→∀j,j<i+1→okC (bt s j):=fun h j hj=>by
   by_cases e:j=i
   ·rw [e];exact h
   ·exact hv j (by omega)
  have hk:okC (bt s i)↔(bt s i=45∨(48≤bt s i∧bt s i≤57)∨(97≤bt s i∧bt s i≤122)):=Iff.rfl
  generalize okC (bt s i)=Q at*
  (repeat' (conv=>whnf);first|refine aC ?_ ?_<;>intro<;>try omega|refine z1_Ks ?_|refine⟨i,_,rfl,bbg hil,?_⟩|fail);all_goals try (conv=>whnf)
  all_goals first
   |exact⟨rfl,Imp.bl ⟨fun h=>(by cases h),fun h=>absurd h (hno2 (fun q=>by have:=hk.1 q;omega))⟩⟩
   |exact⟨i+1,[],⟨by omega,by omega,hst (hk.2 (by omega))⟩,by omega,by(exact aL)⟩
   |trace_state
 ·(repeat' (conv=>whnf);first|refine aC ?_ ?_<;>intro<;>try omega|refine z1_Ks ?_|fail);all_goals try (conv=>whnf)
  exact⟨rfl,Imp.bl ⟨fun _=>⟨by omega,by omega,by omega,fun j hj=>hv j (by omega)⟩,fun _=>rfl⟩⟩
end
end Go.Proofs.YtbcjojomkibgeaaGreat
