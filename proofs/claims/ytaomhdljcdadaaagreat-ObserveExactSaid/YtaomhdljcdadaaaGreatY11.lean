/- Lemmas of this seat. Conditions: as stated. -/
import Derived.Test.YtaomhdljcdadaaaGreatX1
import Derived.Test.YtaomhdljcdadaaaGreatNd
import Derived.Test.YtaomhdljcdadaaaGreatT1
import Derived.Test.YtaomhdljcdadaaaGreatN9
import Derived.Test.YtaomhdljcdadaaaGreatQrs
import Derived.Test.YtaomhdljcdadaaaGreatMtt
import Derived.Test.YtaomhdljcdadaaaGreatCn5
import Derived.Test.YtaomhdljcdadaaaGreatSo4
import Derived.Test.YtaomhdljcdadaaaGreatTy
import Derived.Shelf.SlLaysF0
import Derived.Shelf.SlLaysC2
import Derived.Shelf.Lays
import Derived.Test.YtaomhdljcdadaaaGreatS8
import Derived.Shelf.Bits.Mul64
import Derived.Shelf.Spec.SlicesInsert
import Derived.Sort.WalkB12
import Derived.Laws.IdiomCopy
import Derived.Tactics
import Derived.Shelf.SlSortCmp.NoneTotal
import Derived.Test.YtaomhdljcdadaaaGreatC2
import Derived.Test.YtaomhdljcdadaaaGreatSxC
import Derived.Test.YtaomhdljcdadaaaGreatS2d
import Derived.Test.YtaomhdljcdadaaaGreatQd
import Derived.Test.YtaomhdljcdadaaaGreatS2
import Derived.Test.YtaomhdljcdadaaaGreatNw
import Derived.Test.YtaomhdljcdadaaaGreatKw
set_option linter.unusedVariables false
set_option linter.unusedSimpArgs false
set_option maxHeartbeats 2000000
set_option maxRecDepth 8000
namespace Go.Proofs.YtaomhdljcdadaaaGreat
section
open Go.Sx Go.Np Go.Cv Go.Tp
structure DS (d:List (List Int)):Prop where
 l:d.length≤100
 r:∀r∈d,r.length≤100
 v:∀r∈d,∀x∈r,-1000≤x∧x≤1000
theorem dls_set {d:List (List Int)} {i:Nat} {r:List Int}:(dls d).set i [.psl 1 (ints r)]=dls (d.set i r):=by simp [dls,List.map_set]
theorem dls_take {d:List (List Int)} {i:Nat}:(dls d).take i=dls (d.take i):=by simp [dls,List.map_take]
theorem DS.dl {d:List (List Int)} (h:DS d):DL d:=⟨by have:=h.l;omega,fun i=>by
 by_cases hi:i<d.length
 ·have:=h.r _ (getD_in (d:=[]) hi);omega
 ·rw [List.getD_eq_getElem?_getD,List.getElem?_eq_none (by omega)];simp⟩
theorem DS.set {d:List (List Int)} (h:DS d) {i:Nat} {r:List Int} (h1:r.length≤101) (h2:∀x∈r,-2000≤x∧x≤2000):DL (d.set i r):=⟨by rw [List.length_set];have:=h.l;omega,fun j=>by
 rw [List.getD_eq_getElem?_getD,List.getElem?_set]
 split
 ·split
  ·simp;omega
  ·simp
 ·rw [←List.getD_eq_getElem?_getD];exact h.dl.r j⟩
theorem DS.take {d:List (List Int)} (h:DS d) {i:Nat}:DL (d.take i):=⟨by rw [List.length_take];have:=h.l;omega,fun j=>by
 by_cases hj:j<(d.take i).length
 ·have:=h.r _ (List.mem_of_mem_take (getD_in (d:=[]) hj));omega
 ·rw [List.getD_eq_getElem?_getD,List.getElem?_eq_none (by omega)];simp⟩
theorem take_set {α:Type} {l:List α} {i:Nat} {a:α}:(l.set i a).take i=l.take i:=by
 rw [List.take_set];exact List.set_eq_of_length_le (by rw [List.length_take];omega)
theorem fst_set {l:List Int} {j:Nat} {a:Int}:ints (l.set j a)=(ints l).set j [i64 a]:=by simp [ints,List.map_set]
theorem fst_app {l:List Int} {a:Int}:ints (l++[a])=ints l++[[i64 a]]:=by simp [ints]
theorem aP_Y11 {A B K:Prop} (k:K) (a:A:=by(simp only [zA,zT,zD,zC,zN,ints_len,zR,dls_len];omega)) (b:B:=by(simp only [zA,zT,zD,zC,zN,ints_len,zR,dls_len];omega)):(A∧B)∧K:=⟨⟨a,b⟩,k⟩
theorem z3_Y11 {G H:Prop} (k:H) (h:H→G:=by first|exact fun r=>aS r|exact fun r=>aG r|exact fun r=>aD r|exact fun r=>aP_Y11 r|exact fun r=>aI r|exact fun r=>aJ r|exact fun r=>aW (.qs [0,1,2,3,4,5,6,7,8,9,11] (.l 10 [3] (.l 12 [3] (.l 13 [3] (.qs [14] (.l 15 [] .nil .no)) .no) .no) (.l 12 [8,3] (.l 10 [3] (.l 13 [3] (.qs [14] (.l 15 [] .nil .no)) .no) .no) .no))) r):G:=h k
theorem z2_Y11 {G H:Prop} (k:H) (h:H→G:=by first|exact fun r=>aS r|exact fun r=>aG r|exact fun r=>aD r|exact fun r=>aH r|exact fun r=>aP_Y11 r|exact fun r=>aI r|exact fun r=>aJ r):G:=h k
theorem z1_Y11 {G H:Prop} (k:H) (h:H→G:=by first|exact fun r=>aS r|exact fun r=>aG r|exact fun r=>aD r|exact fun r=>aP_Y11 r|exact fun r=>aI r|exact fun r=>aJ r):G:=h k
theorem BentD_ok (L:List Int) (k:Nat) (hL:L.length≤2000) (hk:k≤2000) (d:List (List Int)) (hd:DS d):
  Ctr Tryz.prog 37 [.ptr 0 0, .psl 1 (dls d)] [src L k] (fun r o=>∃x:List (List Int)×Nat,(DL x.1∧x.2≤2000)∧o=[src L x.2]∧r= .psl 1 (dls x.1)):=by
 refine Ctr.impE ?_
 refine fI 1 Tryz.func37 ?_
 have hdl:=dls_len d
 have hd1:=hd.l
 by_cases h0:d.length=0
 ·(repeat' (conv=>whnf);first|refine aC ?_ ?_<;>intro<;>try omega|refine z1_Y11 ?_|fail);all_goals try (conv=>whnf)
  refine .mk [.fa] ?_
  (repeat' (conv=>whnf);first|refine aC ?_ ?_<;>intro<;>try omega|refine z2_Y11 ?_|fail);all_goals try (conv=>whnf)
  exact⟨(d,k),⟨hd.dl,hk⟩,rfl,Imp.refl _⟩
 (repeat' (conv=>whnf);first|refine aC ?_ ?_<;>intro<;>try omega|refine z1_Y11 ?_|(refine Gh.mk [] ?_;(conv=>whnf);refine aM [0] (N_ok _ _ hL (by assumption) (dls d).length (by omega) (by omega)) rfl rfl ?_;rintro _ _ ⟨⟨n,k1⟩,⟨n1,n2,hk1⟩,rfl,rfl⟩;dsimp only at n1 n2 hk1⊢)|fail);all_goals try (conv=>whnf)
 obtain⟨i,hie⟩:∃i:Nat,n=i:=⟨n.toNat,by omega⟩
 subst hie
 have hil:i<d.length:=by omega
 refine⟨i,rfl,by omega,?_⟩
 have hgt:=dls_get hil
 have hrl:=hd.r _ (getD_in (d:=[]) hil)
 have hrv:=hd.v _ (getD_in (d:=[]) hil)
 have hset:=fun r=>hd.set (i:=i) (r:=r)
 have htk:=hd.take (i:=i)
 generalize d.getD i []=row at*
 have hlw:=ints_len row
 (repeat' (conv=>whnf);first|refine aC ?_ ?_<;>intro<;>try omega|refine z1_Y11 ?_|fail);all_goals try (conv=>whnf)
 refine⟨_,hgt,?_⟩
 (repeat' (conv=>whnf);first|refine aC ?_ ?_<;>intro<;>try omega|refine z1_Y11 ?_|fail);all_goals try (conv=>whnf)
 refine⟨i,rfl,by omega,?_⟩
 (repeat' (conv=>whnf);first|refine aC ?_ ?_<;>intro<;>try omega|refine z1_Y11 ?_|fail);all_goals try (conv=>whnf)
 refine .mk [.op 2 i] ⟨_,hgt,?_⟩
 refine And.intro rfl ?_
 (repeat' (conv=>whnf);first|refine aC ?_ ?_<;>intro<;>try omega|refine z1_Y11 ?_|fail);all_goals try (conv=>whnf)
 refine .mk [] ?_
 refine aM [0] (N_ok _ _ hL (by assumption) 4 (by omega) (by omega)) rfl rfl ?_
 rintro _ _ ⟨⟨m,k2⟩,⟨m1,m2,hk2⟩,rfl,rfl⟩
 dsimp only at m1 m2 hk2⊢
 obtain rfl|rfl|rfl|rfl:m=0∨m=1∨m=2∨m=3:=by omega
 ·(repeat' (conv=>whnf);first|refine And.intro (rfl:i=i) ?_|refine aC ?_ ?_<;>intro<;>try omega|refine z1_Y11 ?_|refine⟨i,rfl,by omega,?_⟩|fail);all_goals try (conv=>whnf)
  refine .mk [] ?_
  (repeat' (conv=>whnf);first|refine And.intro (rfl:i=i) ?_|refine aC ?_ ?_<;>intro<;>try omega|refine z1_Y11 ?_|fail);all_goals try (conv=>whnf)
  refine .mk [.fa, .cl 2, .fz 2] ?_
  (repeat' (conv=>whnf);first|refine aC ?_ ?_<;>intro<;>try omega|refine z1_Y11 ?_|fail);all_goals try (conv=>whnf)
  refine⟨(d.set i (row++[0]),k2),⟨hset _ (by rw [List.length_append,List.length_singleton];omega) (fun x hx=>?_),hk2⟩,rfl,by rw [←dls_set,fst_app];exact Imp.refl _⟩
  rcases List.mem_append.1 hx with h|h
  ·have:=hrv x h;omega
  ·rw [List.mem_singleton.1 h];omega
 ·(repeat' (conv=>whnf);first|refine And.intro (rfl:i=i) ?_|refine aC ?_ ?_<;>intro<;>try omega|refine z1_Y11 ?_|refine⟨i,rfl,by omega,?_⟩|fail);all_goals try (conv=>whnf)
  refine .mk [.fz 3, .cl 2] ?_
  (repeat' (conv=>whnf);first|refine aC ?_ ?_<;>intro<;>try omega|refine z1_Y11 ?_|fail);all_goals try (conv=>whnf)
  refine⟨i,rfl,⟨by omega,by rw [List.length_set];omega⟩,?_⟩
  (repeat' (conv=>whnf);first|refine aC ?_ ?_<;>intro<;>try omega|refine z1_Y11 ?_|fail);all_goals try (conv=>whnf)
  refine .mk [.fa] ?_
  (repeat' (conv=>whnf);first|refine aC ?_ ?_<;>intro<;>try omega|refine z2_Y11 ?_|fail);all_goals try (conv=>whnf)
  exact⟨(d.take i,k2),⟨htk,hk2⟩,rfl,by rw [←dls_take,take_set];exact Imp.refl _⟩
 ·by_cases h2:row.length=0
  ·(repeat' (conv=>whnf);first|refine And.intro (rfl:i=i) ?_|refine aC ?_ ?_<;>intro<;>try omega|refine z1_Y11 ?_|refine⟨i,rfl,by omega,?_⟩|fail);all_goals try (conv=>whnf)
   refine .mk [.fa, .cl 2, .fz 2] ?_
   (repeat' (conv=>whnf);first|refine aC ?_ ?_<;>intro<;>try omega|refine z1_Y11 ?_|fail);all_goals try (conv=>whnf)
   exact⟨(d.set i row,k2),⟨hset _ (by omega) (fun x hx=>by have:=hrv x hx;omega),hk2⟩,rfl,by rw [←dls_set];exact Imp.refl _⟩
  ·(repeat' (conv=>whnf);first|refine LitOb.ful ?_|refine And.intro (rfl:i=i) ?_|refine aC ?_ ?_<;>intro<;>try omega|refine z3_Y11 ?_|refine⟨i,rfl,by omega,?_⟩|(refine Gh.mk [] ?_;(conv=>whnf);refine aM [0] (N_ok _ _ hL (by assumption) (ints row).length (by omega) (by omega)) rfl rfl ?_;rintro _ _ ⟨⟨n,k3⟩,⟨n1,n2,hk3⟩,rfl,rfl⟩;dsimp only at n1 n2 hk3⊢)|(refine Gh.mk [] ?_;(conv=>whnf);refine CallOb.mk [0] (Pick_ok _ _ hL (by assumption) [-2,-1,400,401] (by simp) (by simp)) rfl ⟨Imp.refl _,Imp.fulp rfl,trivial⟩ rfl rfl ?_;rintro _ _ ⟨⟨x,k4⟩,⟨hx,hk4⟩,rfl,rfl⟩;dsimp only at hx hk4⊢)|refine⟨n.toNat,by omega,by omega,?_⟩|refine⟨_,ints_get (show n.toNat<row.length by omega),?_⟩|refine And.intro ?_ ?_|fail);all_goals try (conv=>whnf)
   all_goals refine .mk [.fa, .cl 2, .fz 2] ?_
   all_goals
    (repeat' (conv=>whnf);first|refine aC ?_ ?_<;>intro<;>try omega|refine z1_Y11 ?_|fail);all_goals try (conv=>whnf)
   all_goals
    have hx2: -2≤x∧x≤401:=by simp only [List.mem_cons,List.not_mem_nil,or_false]at hx;omega
    refine⟨(d.set i (row.set n.toNat x),k4),⟨hset _ (by rw [List.length_set];omega) (fun y hy=>?_),hk4⟩,rfl,by rw [←dls_set,fst_set];exact Imp.refl _⟩
    rcases List.mem_or_eq_of_mem_set hy with h|rfl
    ·have:=hrv y h;omega
    ·omega
 ·by_cases h2:row.length=0
  ·(repeat' (conv=>whnf);first|refine And.intro (rfl:i=i) ?_|refine aC ?_ ?_<;>intro<;>try omega|refine z1_Y11 ?_|refine⟨i,rfl,by omega,?_⟩|fail);all_goals try (conv=>whnf)
   refine .mk [.fa, .cl 2, .fz 2] ?_
   (repeat' (conv=>whnf);first|refine aC ?_ ?_<;>intro<;>try omega|refine z1_Y11 ?_|fail);all_goals try (conv=>whnf)
   exact⟨(d.set i row,k2),⟨hset _ (by omega) (fun x hx=>by have:=hrv x hx;omega),hk2⟩,rfl,by rw [←dls_set];exact Imp.refl _⟩
  ·have hg:=ints_get (l:=row) (j:=0) (by omega)
   have hx:=hrv _ (getD_in (d:=0) (show 0<row.length by omega))
   generalize hxe:row.getD 0 0=x at*
   (repeat' (conv=>whnf);first|refine And.intro (rfl:i=i) ?_|refine aC ?_ ?_<;>intro<;>try omega|refine z1_Y11 ?_|refine⟨i,rfl,by omega,?_⟩|refine⟨0,rfl,by omega,?_⟩|refine⟨_,hg,?_⟩|fail);all_goals try (conv=>whnf)
   refine .mk [.fa, .cl 2, .fz 2] ?_
   (repeat' (conv=>whnf);first|refine aC ?_ ?_<;>intro<;>try omega|refine z1_Y11 ?_|fail);all_goals try (conv=>whnf)
   refine⟨(d.set i (row.set 0 (x-1)),k2),⟨hset _ (by rw [List.length_set];omega) (fun y hy=>?_),hk2⟩,rfl,by rw [←dls_set,fst_set];exact Imp.refl _⟩
   rcases List.mem_or_eq_of_mem_set hy with h|rfl
   ·have:=hrv y h;omega
   ·omega
end
section
open Go.Sx Go.Pk Go.Cv
theorem pks_appB (l:List Pk) (x:Pk):pks (l++[x])=pks l++[pkw x]:=by simp [pks]
theorem BentPk_ok (L:List Int) (k:Nat) (hL:L.length≤2000) (hk:k≤2000) (p:List Pk) (hp:p.length≤60):
  Ctr Tryz.prog 26 [.ptr 0 0, .psl 3 (pks p)] [src L k] (fun r o=>∃x:List Pk×Nat,(x.1.length≤100∧x.2≤2000)∧o=[src L x.2]∧r= .psl 3 (pks x.1)):=by
 refine Ctr.impE ?_
 refine fI 1 Tryz.func26 ?_
 have hpl:=pks_len p
 (repeat' (conv=>whnf);first|refine AsgOb.nil ?_|refine aC ?_ ?_<;>intro<;>try omega|refine z2_C1 ?_|fail);all_goals try (conv=>whnf)
 ·have hp0:p=[]:=List.eq_nil_of_length_eq_zero (by omega)
  subst hp0
  refine .mk [.fz 3] ?_
  (repeat' (conv=>whnf);first|refine aC ?_ ?_<;>intro<;>try omega|refine z1_C1 ?_|fail);all_goals try (conv=>whnf)
  exact⟨([⟨-1,0,1⟩],k),⟨by simp,hk⟩,rfl,Imp.refl _⟩
 have hne:¬((pks p).length :Int)=0:=by assumption
 refine .mk [] ?_
 refine aM [0] (N_ok L k hL hk ((pks p).length :Int) (by omega) (by omega)) rfl rfl ?_
 rintro _ _ ⟨⟨i,k1⟩,⟨hi1,hi2,hk1⟩,rfl,rfl⟩
 dsimp only at hi1 hi2 hk1⊢
 obtain⟨i,rfl⟩:∃n:Nat,i=n:=⟨i.toNat,by omega⟩
 have hil:i<p.length:=by omega
 have hg:(pks p)[i]? =some (pkw (p.getD i pk0)):=pks_get hil
 have hset:∀y:Pk,(pks p).set i (pkw y)=pks (p.set i y):=fun y=>by simp [pks,List.map_set]
 generalize p.getD i pk0=x at*
 (repeat' (conv=>whnf);first|refine aC ?_ ?_<;>intro<;>try omega|refine z2_C1 ?_|fail);all_goals try (conv=>whnf)
 refine⟨i,rfl,by omega,?_⟩
 (repeat' (conv=>whnf);first|refine aC ?_ ?_<;>intro<;>try omega|refine z2_C1 ?_|fail);all_goals try (conv=>whnf)
 refine .mk [] ?_
 refine aM [0] (N_ok L k1 hL hk1 4 (by omega) (by omega)) rfl rfl ?_
 rintro _ _ ⟨⟨w,k2⟩,⟨hw1,hw2,hk2⟩,rfl,rfl⟩
 dsimp only at hw1 hw2 hk2⊢
 (repeat' (conv=>whnf);first|refine aC ?_ ?_<;>intro<;>try omega|refine z2_C1 ?_|fail);all_goals try (conv=>whnf)
 ·refine .mk [] ?_
  refine aM [0] (Range_ok L k2 hL hk2 (-1) 5 (by omega) (by omega) (by omega)) rfl rfl ?_
  rintro _ _ ⟨⟨v,k3⟩,⟨_,_,hk3⟩,rfl,rfl⟩
  dsimp only at hk3⊢
  (repeat' (conv=>whnf);first|refine⟨_,hg,?_⟩|refine⟨i,rfl,(by show i<(pks p).length;omega),?_⟩|refine aC ?_ ?_<;>intro<;>try omega|refine z2_C1 ?_|fail);all_goals try (conv=>whnf)
  refine .mk [.fz 1] ?_
  (repeat' (conv=>whnf);first|refine aC ?_ ?_<;>intro<;>try omega|refine z1_C1 ?_|fail);all_goals try (conv=>whnf)
  exact⟨(p.set i ⟨v,x.t,x.s⟩,k3),⟨by simp only [List.length_set];omega,hk3⟩,rfl,Imp.psl (hset ⟨v,x.t,x.s⟩)⟩
 ·refine .mk [.fz 2] ?_
  refine aM [0] (Pick_ok L k2 hL hk2 [-1,0,380,381] (by decide) (by decide)) rfl rfl ?_
  rintro _ _ ⟨⟨v,k3⟩,⟨_,hk3⟩,rfl,rfl⟩
  dsimp only at hk3⊢
  (repeat' (conv=>whnf);first|refine⟨_,hg,?_⟩|refine⟨i,rfl,(by show i<(pks p).length;omega),?_⟩|refine aC ?_ ?_<;>intro<;>try omega|refine z2_C1 ?_|fail);all_goals try (conv=>whnf)
  refine .mk [.fz 1] ?_
  (repeat' (conv=>whnf);first|refine aC ?_ ?_<;>intro<;>try omega|refine z1_C1 ?_|fail);all_goals try (conv=>whnf)
  exact⟨(p.set i ⟨x.f,v,x.s⟩,k3),⟨by simp only [List.length_set];omega,hk3⟩,rfl,Imp.psl (hset ⟨x.f,v,x.s⟩)⟩
 ·refine .mk [.fz 2] ?_
  refine aM [0] (Pick_ok L k2 hL hk2 [0,1,3,8,9] (by decide) (by decide)) rfl rfl ?_
  rintro _ _ ⟨⟨v,k3⟩,⟨_,hk3⟩,rfl,rfl⟩
  dsimp only at hk3⊢
  (repeat' (conv=>whnf);first|refine⟨_,hg,?_⟩|refine⟨i,rfl,(by show i<(pks p).length;omega),?_⟩|refine aC ?_ ?_<;>intro<;>try omega|refine z2_C1 ?_|fail);all_goals try (conv=>whnf)
  refine .mk [.fz 1] ?_
  (repeat' (conv=>whnf);first|refine aC ?_ ?_<;>intro<;>try omega|refine z1_C1 ?_|fail);all_goals try (conv=>whnf)
  exact⟨(p.set i ⟨x.f,x.t,v⟩,k3),⟨by simp only [List.length_set];omega,hk3⟩,rfl,Imp.psl (hset ⟨x.f,x.t,v⟩)⟩
 ·refine .mk [] ?_
  refine LoopOb.mk (Y:=List Pk) (st:=fun y=>⟨[(5, .vec 1),(0, .ptr 0 0)],[src L k2, .vec 3 (pks y)]⟩)
   (inv:=fun y=>1≤y.length∧y.length≤61) (fun y=>64-y.length) p [0,1] ⟨by omega,by omega⟩ (by(exact aL)) ?_
  rintro o ⟨hl1,hl2⟩
  have hol:=pks_len o
  have hgo:(pks o)[o.length-1]? =some (pkw (o.getD (o.length-1) pk0)):=pks_get (by omega)
  have hap:=pks_appB o (o.getD (o.length-1) pk0)
  generalize o.getD (o.length-1) pk0=z at*
  (repeat' (conv=>whnf);first|refine⟨_,hgo,?_⟩|refine⟨o.length-1,by omega,by omega,?_⟩|refine LitOb.ful ?_|refine aC ?_ ?_<;>intro<;>try omega|refine z2_C1 ?_|fail);all_goals try (conv=>whnf)
  ·refine .mk [] ⟨o++[z],[0,2],⟨?_,?_⟩,?_,?_⟩
   ·rw [List.length_append,List.length_singleton];omega
   ·rw [List.length_append,List.length_singleton];omega
   ·rw [List.length_append,List.length_singleton];omega
   ·rw [hap];(exact aL)
  ·refine .mk [.fz 1] ?_
   (repeat' (conv=>whnf);first|refine aC ?_ ?_<;>intro<;>try omega|refine z1_C1 ?_|fail);all_goals try (conv=>whnf)
   exact⟨(o,k2),⟨by dsimp only;omega,hk2⟩,rfl,Imp.refl _⟩
end
section
open Go.Sx Go.Pk Go.Mc Go.Np
theorem Sends_ok (L:List Int) (k:Nat) (hL:L.length≤2000) (hk:k≤2000) (n:Nt) (hn:NL n) (h10:n.fl.length≤10) (hz:∀f∈n.fl,1≤f.lo∧f.lo≤f.hi∧f.hi≤1500) (m:Nat) (hm:m≤60):
  Ctr Tryz.prog 15 [.ptr 0 0,ntv n,i64 m] [src L k] (fun r o=>∃x:List Pk×Nat,(SndP n x.1∧x.1.length≤m∧x.2≤2000)∧o=[src L x.2, .vec 3 (pks x.1)]∧r= .vec 1):=by
 refine fI 1 Tryz.func15 ?_
 have hfl:=fll n.fl
 (repeat' (conv=>whnf);first|refine aC ?_ ?_<;>intro<;>try omega|refine z2_T1 ?_|fail);all_goals try (conv=>whnf)
 refine aM [0] (N_ok L k hL hk (m+1) (by omega) (by omega)) rfl rfl ?_
 rintro _ _ ⟨⟨v,k1⟩,⟨v1,v2,hk1⟩,rfl,rfl⟩
 dsimp only at v1 v2 hk1⊢
 obtain⟨v,rfl⟩:∃a:Nat,v=a:=⟨v.toNat,by omega⟩
 (repeat' (conv=>whnf);first|refine aC ?_ ?_<;>intro<;>try omega|refine z2_T1 ?_|fail);all_goals try (conv=>whnf)
 refine LoopOb.mk (Y:=List Pk×Nat) (st:=fun y=>⟨[(9,i64 ((v:Int)-y.1.length)),(8,i64 (lst y.1 y.1.length)),(7, .vec 2),(4, .ptr 1 0),(0, .ptr 0 0)],[src L y.2,nbx n, .vec 3 (pks y.1)]⟩)
  (inv:=fun y=>SndP n y.1∧y.1.length≤v∧y.2≤2000) (fun y=>v-y.1.length) ([],k1) [0,1,3] ⟨SndP.nil n,by simp,hk1⟩ (by simp only [lst,List.length_nil];(exact aL)) ?_
 rintro⟨p,k2⟩ ⟨hp,hpv,hk2⟩
 dsimp only at hp hpv hk2⊢
 have hpl:=pks_len p
 have ht:=hp.t p.length (Nat.le_refl _)
 by_cases hlt:p.length<v∧0<n.fl.length
 ·generalize hla:lst p p.length=la at*
  (repeat' (conv=>whnf);first|refine LitOb.ful ?_|refine aC ?_ ?_<;>intro<;>try omega|refine z2_T1 ?_|fail);all_goals try (conv=>whnf)
  refine CallOb.mk [0] (Pick_ok L k2 hL hk2 [0,0,0,1,2,5] (by decide) (by decide)) rfl ⟨Imp.refl _,Imp.fulp rfl,trivial⟩ rfl rfl ?_
  rintro _ _ ⟨⟨d,k3⟩,⟨d1,hk3⟩,rfl,rfl⟩
  dsimp only at d1 hk3⊢
  have hd:0≤d∧d≤5:=by
   simp only [List.mem_cons,List.not_mem_nil,or_false]at d1
   omega
  clear d1
  (repeat' (conv=>whnf);first|refine aC ?_ ?_<;>intro<;>try omega|refine z2_T1 ?_|fail);all_goals try (conv=>whnf)
  refine CallOb.mk [0] (N_ok L k3 hL hk3 n.fl.length (by omega) (by omega)) rfl ⟨Imp.refl _,Imp.num (by omega),trivial⟩ rfl rfl ?_
  rintro _ _ ⟨⟨f,k4⟩,⟨g1,g2,hk4⟩,rfl,rfl⟩
  dsimp only at g1 g2 hk4⊢
  obtain⟨f,rfl⟩:∃a:Nat,f=a:=⟨f.toNat,by omega⟩
  have hfg:=flg (l:=n.fl) (i:=f) (by omega)
  have hzf:=hz (n.fl.getD f fl0) (Go.Np.getD_in (by omega))
  have hpf:∀t s:Int,pfl n ⟨f,t,s⟩=n.fl.getD f fl0:=fun t s=>by unfold pfl;rw [Int.toNat_natCast]
  generalize n.fl.getD f fl0=w at*
  (repeat' (conv=>whnf);first|refine⟨f,_,rfl,hfg,?_⟩|refine aC ?_ ?_<;>intro<;>try omega|refine z2_T1 ?_|fail);all_goals try (conv=>whnf)
  refine aM [0] (Range_ok L k4 hL hk4 w.lo w.hi (by omega) (by omega) (by omega)) rfl rfl ?_
  rintro _ _ ⟨⟨s,k5⟩,⟨s1,s2,hk5⟩,rfl,rfl⟩
  dsimp only at s1 s2 hk5⊢
  obtain⟨hap,hal⟩:=hp.app (x:=⟨f,la+d,s⟩) ⟨by dsimp only;omega,by dsimp only;omega⟩ (by rw [hpf];exact⟨s1,s2⟩) (by rw [hla];dsimp only;omega)
  have hpe:pks p++[[i64 f,i64 (la+d),i64 s]]=pks (p++[⟨f,la+d,s⟩]):=by simp [pks,pkw]
  have hl2:(p++[(⟨f,la+d,s⟩:Pk)]).length =p.length+1:=by simp
  (repeat' (conv=>whnf);first|refine aC ?_ ?_<;>intro<;>try omega|refine z2_T1 ?_|fail);all_goals try (conv=>whnf)
  exact⟨(p++[⟨f,la+d,s⟩],k5),[0,1,5],⟨hap,by dsimp only;omega,hk5⟩,by dsimp only;omega,by dsimp only;rw [hal,←hpe,hl2];(exact aL)⟩
 ·(repeat' (conv=>whnf);first|refine aC ?_ ?_<;>intro<;>try omega|refine z1_T1 ?_|fail);all_goals try (conv=>whnf)
  all_goals first
   |(refine .mk [.wk [0,2] ⟨[(6, .vec 1)],[src L k2, .vec 3 (pks p)]⟩] ⟨by(exact aL),?_⟩;exact⟨(p,k2),⟨hp,by dsimp only;omega,hk2⟩,rfl,rfl⟩)
   |trace_state
end
section
open Go.Sx Go.Pk Go.Mc Go.Np
theorem NetG.szs35 {ml mf k:Nat} {n:Nt} (h:NetG ml mf k n):∀f∈n.fl,1≤f.lo∧f.lo≤f.hi∧f.hi≤1500:=fun f hf=>by
 have:=h.g.fg f hf
 have h1:=this.lo
 have h2:=this.hi
 omega
theorem need_mk {α:Type} {o:Option α} {k:α→Prop} {a:α} (h:o=some a) (hk:k a):need o k:=by rw [h];exact hk
theorem noteq {α:Sort _} {a:α} (h:¬a=a):False:=h rfl
theorem noiff {p:Prop} (h:¬(p↔p)):False:=h Iff.rfl
theorem arrT_eq (o:Option Int):arrT o= .tup [i64 (o.getD 0), .bl o.isSome]:=by cases o<;>rfl
theorem rnG_sh {n:Nt} {p:List Pk} {k:Int}:TrS (rnG n p k).1 :=by
 have hnil:TrS []:=⟨by simp,fun r hr=>by simp at hr,fun r hr=>by simp at hr⟩
 by_cases h:SkP n p
 ·by_cases hk:0≤k∧k≤2000
  ·rw [rnG_in h hk.1 hk.2]
   have hS:=trR_sh (F:=toF n p) (Z:=liN n) (N:=k.toNat) h.rts
   have h60:=h.l
   have hl:(trR (toF n p) (liN n) k.toNat).length =p.length:=hS.l
   generalize trR (toF n p) (liN n) k.toNat=A at*
   have hr:∀r∈A,r.length≤4∧∀x∈r,-1≤x∧x≤2000:=fun r hr=>by
    obtain⟨i,hi,rfl⟩:=List.getElem_of_mem hr
    have e:A.getD i []=A[i]:=by rw [List.getD_eq_getElem?_getD,List.getElem?_eq_getElem hi];rfl
    have h1:=hS.r i (by show i<p.length;omega)
    rw [e]at h1
    have h2:=(h.fl (i:=i) (by omega)).2.2.2.2.1.l2
    have h3:((toF n p).rt i).length =(pfl n (p.getD i pk0)).rt.length :=List.length_map _
    refine⟨by omega,fun x hx=>?_⟩
    obtain⟨j,hj,rfl⟩:=List.getElem_of_mem hx
    have h4:=hS.b i j (by show i<p.length;omega) (by omega)
    unfold dR at h4
    rw [e,List.getD_eq_getElem?_getD,List.getElem?_eq_getElem hj]at h4
    simp only [Option.getD_some]at h4
    omega
   exact⟨by dsimp only;omega,fun r h=>by have:=(hr r h).1;omega,fun r h x hx=>by have:=(hr r h).2 x hx;omega⟩
  ·unfold rnG
   rw [if_neg (by rw [sck_zero.2 h];simp),if_pos (by omega)];exact hnil
 ·unfold rnG
  rw [if_pos (fun c=>h (sck_zero.1 c))];exact hnil
end
end Go.Proofs.YtaomhdljcdadaaaGreat
