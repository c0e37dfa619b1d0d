/- Lemmas of this seat. Conditions: as stated. -/
import Derived.Test.YtbcjojomkibgeaaGreatLib
import Derived.Test.YtbcjojomkibgeaaGreatQy
import Derived.Test.YtbcjojomkibgeaaGreatPl
set_option linter.unusedVariables false
set_option linter.unusedSimpArgs false
set_option maxHeartbeats 2000000
set_option maxRecDepth 4000
namespace Go.Proofs.YtbcjojomkibgeaaGreat
section
open Go.Sx
theorem ints_take (l:List Int) (k:Nat):(ints l).take k=ints (l.take k):=by simp [ints,List.map_take]
abbrev src (L:List Int) (k:Nat):Chunk:= .box [.psl 1 (ints L),i64 k]
def md (x n:Int):Int:=if x.tmod n<0 then x.tmod n+n else x.tmod n
theorem md_bd {x n:Int} (hn:1≤n):0≤md x n∧md x n<n:=by
 have h1:=Int.tmod_lt_of_pos x (show 0<n by omega)
 have h2: -n<x.tmod n:=by
  have h3:=Int.tmod_lt_of_pos (-x) (show 0<n by omega)
  rw [Int.neg_tmod]at h3
  omega
 unfold md;split<;>omega
theorem Mod_ok (x n:Int) (hn:1≤n) (hn2:n≤9223372036854775807):Ctr Tryz.prog 32 [i64 x,i64 n] [] (fun r o=>o=[]∧r=i64 (md x n)):=by
 refine fI 0 Tryz.func32 ?_
 have hb:=md_bd (x:=x) hn
 have h1:=Int.tmod_lt_of_pos x (show 0<n by omega)
 unfold md at hb
 (repeat' (conv=>whnf);first|refine aC ?_ ?_<;>intro<;>try omega|refine z1_F1 ?_|fail);all_goals try (conv=>whnf)
 refine⟨by omega,?_⟩
 (repeat' (conv=>whnf);first|refine aC ?_ ?_<;>intro<;>try omega|refine z1_F1 ?_|fail);all_goals try (conv=>whnf)
 ·exact⟨rfl,by simp only [oneS];unfold md;rw [if_pos (by assumption)]⟩
 ·exact⟨rfl,by simp only [oneS];unfold md;rw [if_neg (by assumption)]⟩
theorem z2_Kn {G H:Prop} (k:H) (h:H→G:=by first|exact fun r=>aS r|exact fun r=>aG r|exact fun r=>aD r|exact fun r=>aH r|exact fun r=>aP_F1 r|exact fun r=>aI r|exact fun r=>aJ r|exact fun r=>aW (.qs [0,1,2,3,4,5,6,7,8,9] .nil) r|exact fun r=>aW (.qs [0,1,2,3,4,5,6,7,8,9,10,11] .nil) r):G:=h k
theorem Raw_ok (L:List Int) (k:Nat) (hL:L.length≤2000) (hk:k≤2000):
  Ctr Tryz.prog 33 [.ptr 0 0] [src L k] (fun r o=>∃x:Int×Nat,x.2≤2000∧o=[src L x.2]∧r=i64 x.1):=by
 refine fI 1 Tryz.func33 ?_
 (repeat' (conv=>whnf);first|refine aC ?_ ?_<;>intro _|refine z2_Kn ?_|fail);all_goals try (conv=>whnf)
 ·exact⟨(0,k),hk,rfl,rfl⟩
 ·simp only [ints_len]at*
  exact⟨(_,k+1),by simp only;omega,rfl,rfl⟩
theorem N_ok (L:List Int) (k:Nat) (hL:L.length≤2000) (hk:k≤2000) (n:Int) (hn:1≤n) (hn2:n≤9223372036854775807):
  Ctr Tryz.prog 10 [.ptr 0 0,i64 n] [src L k] (fun r o=>∃x:Int×Nat,(0≤x.1∧x.1<n∧x.2≤2000)∧o=[src L x.2]∧r=i64 x.1):=by
 refine fI 1 Tryz.func10 ?_
 (repeat' (conv=>whnf);first|refine aC ?_ ?_<;>intro _|refine z1_F1 ?_|fail);all_goals try (conv=>whnf)
 refine aM [0] (Raw_ok L k hL hk) rfl rfl ?_
 rintro _ _ ⟨⟨v,k'⟩,hk',rfl,rfl⟩
 (repeat' (conv=>whnf);first|refine aC ?_ ?_<;>intro _|refine z1_F1 ?_|fail);all_goals try (conv=>whnf)
 refine aK [] (Mod_ok v n hn hn2) ?_
 (repeat' (conv=>whnf);first|refine aC ?_ ?_<;>intro _|refine z1_F1 ?_|fail);all_goals try (conv=>whnf)
 exact⟨(md v n,k'),⟨(md_bd hn).1,(md_bd hn).2,hk'⟩,rfl,rfl⟩
theorem getD_mem {l:List Int} {i:Nat} (h:i<l.length):l.getD i 0∈l:=by
 rw [List.getD_eq_getElem?_getD,List.getElem?_eq_getElem h];exact List.getElem_mem h
theorem Pick_ok (L:List Int) (k:Nat) (hL:L.length≤2000) (hk:k≤2000) (l:List Int) (hl:1≤l.length) (hl2:l.length≤1000000):
  Ctr Tryz.prog 11 [.ptr 0 0, .psl 1 (ints l)] [src L k] (fun r o=>∃x:Int×Nat,(x.1∈l∧x.2≤2000)∧o=[src L x.2]∧r=i64 x.1):=by
 refine fI 1 Tryz.func11 ?_
 (repeat' (conv=>whnf);first|refine aC ?_ ?_<;>intro _|refine z1_F1 ?_|fail);all_goals try (conv=>whnf)
 refine aM [0] (N_ok L k hL hk _ (by rw [ints_len];omega) (by rw [ints_len];omega)) rfl rfl ?_
 rintro _ _ ⟨⟨v,k'⟩,⟨h1,h2,hk'⟩,rfl,rfl⟩
 (repeat' (conv=>whnf);first|refine aC ?_ ?_<;>intro _|refine z1_F1 ?_|fail);all_goals try (conv=>whnf)
 refine⟨(l.getD v.toNat 0,k'),⟨getD_mem (by simp only [ints_len]at h2;omega),hk'⟩,rfl,rfl⟩
theorem New_ok (l:List Int) (hl:l.length≤9223372036854775807):
  Ctr Tryz.prog 7 [.psl 1 (ints l)] [] (fun r o=>o=[src (l.take 2000) 0]∧r= .ptr 0 0):=by
 refine fI 0 Tryz.func7 ?_
 (repeat' (conv=>whnf);first|refine aC ?_ ?_<;>intro _|refine z1_F1 ?_|fail);all_goals try (conv=>whnf)
 simp only [ints_len]
 refine⟨min l.length 2000,by omega,⟨by omega,by omega⟩,?_⟩
 (repeat' (conv=>whnf);first|refine aC ?_ ?_<;>intro _|refine z1_F1 ?_|fail);all_goals try (conv=>whnf)
 refine⟨?_,rfl⟩
 have e:l.take (min l.length 2000)=l.take 2000:=by
  by_cases h:l.length≤2000
  ·rw [Nat.min_eq_left h,List.take_of_length_le (Nat.le_refl _),List.take_of_length_le h]
  ·rw [Nat.min_eq_right (by omega)]
 rw [List.drop_zero,ints_take,e]
 rfl
end
section
open Go.Sx Go.Np Go.Cv
theorem ints_app (a b:List Int):ints (a++b)=ints a++ints b:=by simp [ints]
theorem idx_no {r:List Int} {l:Int} (h:∀j<r.length,¬r.getD j 0=l):l∉r:=by
 intro hm
 obtain⟨j,hj,e⟩:=List.mem_iff_getElem.1 hm
 exact h j hj (by rw [List.getD_eq_getElem?_getD,List.getElem?_eq_getElem hj,Option.getD_some];exact e)
def stv (b:Int) (p:Nat):List Int:=0::List.replicate p b
theorem stv_len (b:Int) (p:Nat):(stv b p).length =p+1:=by simp [stv]
theorem stv_succ (b:Int) (p:Nat):stv b (p+1)=stv b p++[b]:=by simp [stv,List.replicate_succ']
theorem aP_Ks {A B K:Prop} (k:K) (a:A:=by(simp only [zA,zT,zD,zC,zN,ints_len,zR,Go.Cv.vals_len];omega)) (b:B:=by(simp only [zA,zT,zD,zC,zN,ints_len,zR,Go.Cv.vals_len];omega)):(A∧B)∧K:=⟨⟨a,b⟩,k⟩
theorem z2_Ks {G H:Prop} (k:H) (h:H→G:=by first|exact fun r=>aS r|exact fun r=>aG r|exact fun r=>aD r|exact fun r=>aP_Ks r|exact fun r=>aI r|exact fun r=>aJ r):G:=h k
theorem z1_Ks {G H:Prop} (k:H) (h:H→G:=by first|exact fun r=>aS r|exact fun r=>aG r|exact fun r=>aD r|exact fun r=>aH r|exact fun r=>aP_Ks r|exact fun r=>aI r|exact fun r=>aJ r):G:=h k
theorem Stair_ok (b:Int) (p:Nat) (q:Int) (hp:p≤1000):Ctr Tryz.prog 61 [i64 b,i64 p,i64 q] [] (fun r o=>o=[]∧r=crv (stv b p) p q):=by
 refine Ctr.imp ?_
 refine fI 0 Tryz.func61 ?_
 (repeat' (conv=>whnf);first|refine aC ?_ ?_<;>intro _|refine z1_Ks ?_|fail);all_goals try (conv=>whnf)
 refine LoopOb.mk (Y:=Nat) (st:=fun i=>⟨[(8,i64 i),(7, .ptr 2 0),(6, .ptr 0 0),(0,i64 b),(1,i64 p)],[.box [.nil,i64 0,i64 0], .vec 1 (ints (stv b i)), .box [.vec 1,i64 p,i64 q]]⟩)
  (inv:=fun i=>i≤p) (fun i=>p-i) 0 [0,1,2] (by omega) (by(exact aL)) ?_
 intro i hi
 have hl:=ints_len (stv b i)
 have hs:=stv_len b i
 (repeat' (conv=>whnf);first|refine z1_Ks ?_|fail);all_goals try (conv=>whnf)
 refine CondOb.mk (fun hlt=>?_) (fun hlt=>?_)
 ·(repeat' (conv=>whnf);first|refine aC ?_ ?_<;>intro _|refine z1_Ks ?_|fail);all_goals try (conv=>whnf)
  exact⟨i+1,[0,4,2],by omega,by omega,by rw [stv_succ,ints_app];(exact aL)⟩
 ·have e:i=p:=by omega
  subst e
  (repeat' (conv=>whnf);first|refine aC ?_ ?_<;>intro _|refine z2_Ks ?_|fail);all_goals try (conv=>whnf)
  refine .mk [.fz 1] ?_
  (repeat' (conv=>whnf);first|refine aC ?_ ?_<;>intro _|refine z1_Ks ?_|fail);all_goals try (conv=>whnf)
  exact⟨rfl,Imp.refl _⟩
theorem Range_ok (L:List Int) (k:Nat) (hL:L.length≤2000) (hk:k≤2000) (lo hi:Int) (h1: -1000000≤lo) (h2:lo≤hi) (h3:hi≤1000000):
  Ctr Tryz.prog 29 [.ptr 0 0,i64 lo,i64 hi] [src L k] (fun r o=>∃x:Int×Nat,(lo≤x.1∧x.1≤hi∧x.2≤2000)∧o=[src L x.2]∧r=i64 x.1):=by
 refine fI 1 Tryz.func29 ?_
 (repeat' (conv=>whnf);first|refine aC ?_ ?_<;>intro _|refine z1_Ks ?_|fail);all_goals try (conv=>whnf)
 refine aM [0] (N_ok L k hL hk (hi-lo+1) (by omega) (by omega)) rfl rfl ?_
 rintro _ _ ⟨⟨v,k'⟩,⟨h4,h5,hk'⟩,rfl,rfl⟩
 dsimp only at h4 h5 hk'⊢
 (repeat' (conv=>whnf);first|refine aC ?_ ?_<;>intro _|refine z1_Ks ?_|fail);all_goals try (conv=>whnf)
 exact⟨(lo+v,k'),⟨by simp only;omega,by simp only;omega,hk'⟩,rfl,rfl⟩
def nms (t:Nat):List ByteArray:=(List.range t).map lname
theorem nms_len {t:Nat}:(nms t).length =t:=by simp [nms]
theorem nms_succ {t:Nat}:nms (t+1)=nms t++[lname t]:=by simp [nms,List.range_succ]
theorem nms_get {t i:Nat} (h:i<t):(nms t).getD i bs0=lname i:=by simp [nms,List.getD_eq_getElem?_getD,h]
theorem lns_app (a b:List Ln):lns (a++b)=lns a++lns b:=by simp [lns]
theorem fls_app (a b:List Fl):fls (a++b)=fls a++fls b:=by simp [fls]
theorem strs_app (a b:List ByteArray):strs (a++b)=strs a++strs b:=by simp [strs]
theorem all_app {α:Type} {P:α→Prop} {l:List α} {x:α} (h:∀a∈l,P a) (hx:P x):∀a∈l++[x],P a:=by
 intro a ha
 rcases List.mem_append.1 ha with ha|ha
 ·exact h a ha
 ·rw [List.mem_singleton.1 ha];exact hx
end
end Go.Proofs.YtbcjojomkibgeaaGreat
