/- Lemmas of this seat. Conditions: as stated. -/
import Derived.Test.YtbcjojomkibgeaaGreatP4
set_option linter.unusedVariables false
set_option linter.unusedSimpArgs false
set_option maxHeartbeats 2000000
set_option maxRecDepth 4000
namespace Go.Proofs.YtbcjojomkibgeaaGreat
section
open Go.Sx Go.Fq
def nw1 (f:Nat→Nat→Int) (r c:Nat) (d:Int) (a b:Nat):Int:=(f a b*f r c-f a c*f r b).tdiv d
def nw (f:Nat→Nat→Int) (r c:Nat) (d:Int) (i a b:Nat):Int:=if a<i∧a≠r then nw1 f r c d a b else f a b
def nwk (f:Nat→Nat→Int) (r c:Nat) (d:Int) (i k a b:Nat):Int:=if a=i∧b<k∧a≠r then nw1 f r c d a b else nw f r c d i a b
def InB (m w:Nat) (f:Nat→Nat→Int):Prop:=∀i<m,∀k<w,-2147483648<f i k∧f i k<2147483648
def pv (f:Nat→Nat→Int) (r c:Nat) (d:Int) (a b:Nat):Int:=
 if f r c<0 then-(if a=r then f r b else nw1 f r c d a b)else(if a=r then f r b else nw1 f r c d a b)
structure Pvd (m w:Nat) (f:Nat→Nat→Int) (bs:Nat→Int) (d:Int) (r c:Nat) (f':Nat→Nat→Int) (bs':Nat→Int) (d':Int):Prop where
 eq:∀a<m+1,∀b<w,f' a b=pv f r c d a b
 bd:InB (m+1) w f'
 d:d'=(f r c).natAbs
 bs:bs'=up bs r c
end
section
open Go.Sx Go.Fq
abbrev TS:=(Nat→Nat→Int)×(Nat→Int)×Int
def Piv (m w:Nat) (s:TS) (r c:Nat) (s':TS):Prop:=Pvd m w s.1 s.2.1 s.2.2 r c s'.1 s'.2.1 s'.2.2
structure Stp (m E C:Nat) (s s':TS):Prop where
 ex:∃r c,r<m∧c<C∧s.1 m c<0∧0<s.1 r c∧(∀j<m,0<s.1 j c→s.1 r E*s.1 j c≤s.1 j E*s.1 r c)∧Piv m (E+1) s r c s'
inductive Run (m E C:Nat) (s:TS):TS→Prop
 |refl:Run m E C s s
 |step {s' s''} (h:Run m E C s s') (k:Stp m E C s' s''):Run m E C s s''
def Ends (m C:Nat) (f:Nat→Nat→Int) (z:Int):Prop:=(z= -1∧∀k<C,0≤f m k)∨∃c:Nat,z=c∧c<C∧f m c<0∧∀i<m,f i c≤0
end
section
open Go.Sx Go.Fq
def pre (p:Pr) (g:Rw→F) (i:Nat):List F:=(p.r.take i).map g
theorem pre_succ {p:Pr} {g:Rw→F} {i:Nat} (h:i<p.r.length):pre p g (i+1)=pre p g i++[g (p.r.getD i rw0)]:=by
 unfold pre
 rw [List.take_succ_eq_append_getElem h,List.map_append]
 simp only [List.map_cons,List.map_nil,List.getD_eq_getElem?_getD,h,List.getElem?_eq_getElem,Option.getD_some]
theorem pre_len {p:Pr} {g:Rw→F} {i:Nat} (h:i≤p.r.length):(pre p g i).length =i:=by simp [pre];omega
theorem pre_all {p:Pr} {g:Rw→F} {i:Nat} (h:p.r.length≤i):pre p g i=p.r.map g:=by
 unfold pre;rw [List.take_of_length_le h]
theorem fr2_append (a b:List F):fr2 (a++b)=fr2 a++fr2 b:=by simp [fr2]
theorem z2_P5 {G H:Prop} (k:H) (h:H→G:=by first|exact fun r=>aS r|exact fun r=>aG r|exact fun r=>aD r|exact fun r=>aP_F1 r|exact fun r=>aI r|exact fun r=>aJ r):G:=h k
theorem column_ok (p:Pr) (hp:VP p) (j:Nat) (hj:j<p.c.length):Ctr Tryz.prog 136 [prv p,i64 j] [] (fun r o=>o=[]∧r=fsl (col p j)):=by
 refine Ctr.imp ?_
 refine fI 0 Tryz.func136 ?_
 have hlr:=rw_len p.r
 have hp2:=hp.2.2.1
 (repeat' (conv=>whnf);first|refine aC ?_ ?_<;>intro _|refine z1_F1 ?_|fail);all_goals try (conv=>whnf)
 refine LoopOb.mk (Y:=Nat) (st:=fun i=>⟨[(11,i64 i),(10,i64 (rws p.r).length),(9, .psl 4 (rws p.r)),(5, .vec 1),(2, .ptr 0 0),(1,i64 j)],[.box [fsl p.c, .psl 4 (rws p.r)], .vec 2 (fr2 (pre p (fun w=>w.1.getD j (0,1)) i))]⟩)
  (inv:=fun i=>i≤p.r.length) (fun i=>p.r.length-i) 0 [0,2] (by omega) (by(exact aL)) ?_
 intro i hi
 (repeat' (conv=>whnf);first|refine z1_F1 ?_|fail);all_goals try (conv=>whnf)
 refine CondOb.mk (fun hlt=>?_) (fun hlt=>?_)
 ·have hil:i<p.r.length:=by omega
  have hgt:=rw_get hil
  have hpr:=pre_succ (g:=fun w=>w.1.getD j (0,1)) hil
  have hpl:=pre_len (p:=p) (g:=fun w=>w.1.getD j (0,1)) hi
  have hws:=rall_at hp.2.2.2.2 hil
  generalize p.r.getD i rw0=w at*
  generalize pre p (fun w=>w.1.getD j (0,1)) i=l at*
  have hll:=fr_len l
  (repeat' (conv=>whnf);first|refine aC ?_ ?_<;>intro _|refine z1_F1 ?_|refine⟨i,_,rfl,hgt,?_⟩|refine⟨j,_,rfl,fr_get (by have:=hws.1;omega),?_⟩|fail);all_goals try (conv=>whnf)
  exact⟨i+1,[0,4],by omega,by omega,by rw [hpr,fr2_append];(exact aL)⟩
 ·(repeat' (conv=>whnf);first|refine aC ?_ ?_<;>intro _|refine z2_P5 ?_|fail);all_goals try (conv=>whnf)
  refine .mk [.fz 1] ?_
  (repeat' (conv=>whnf);first|refine aC ?_ ?_<;>intro _|refine z1_F1 ?_|fail);all_goals try (conv=>whnf)
  exact⟨rfl,Imp.psl (congrArg fr2 (pre_all (by omega)))⟩
theorem bounds_ok (p:Pr) (hp:VP p):Ctr Tryz.prog 109 [prv p] [] (fun r o=>o=[]∧r=fsl (bds p)):=by
 refine Ctr.imp ?_
 refine fI 0 Tryz.func109 ?_
 have hlr:=rw_len p.r
 have hp2:=hp.2.2.1
 (repeat' (conv=>whnf);first|refine aC ?_ ?_<;>intro _|refine z1_F1 ?_|fail);all_goals try (conv=>whnf)
 refine LoopOb.mk (Y:=Nat) (st:=fun i=>⟨[(9,i64 i),(8,i64 (rws p.r).length),(7, .psl 4 (rws p.r)),(3, .vec 1),(1, .ptr 0 0)],[.box [fsl p.c, .psl 4 (rws p.r)], .vec 2 (fr2 (pre p (fun w=>w.2.2) i))]⟩)
  (inv:=fun i=>i≤p.r.length) (fun i=>p.r.length-i) 0 [0,2] (by omega) (by(exact aL)) ?_
 intro i hi
 (repeat' (conv=>whnf);first|refine z1_F1 ?_|fail);all_goals try (conv=>whnf)
 refine CondOb.mk (fun hlt=>?_) (fun hlt=>?_)
 ·have hil:i<p.r.length:=by omega
  have hgt:=rw_get hil
  have hpr:=pre_succ (g:=fun w=>w.2.2) hil
  have hpl:=pre_len (p:=p) (g:=fun w=>w.2.2) hi
  have hws:=rall_at hp.2.2.2.2 hil
  generalize p.r.getD i rw0=w at*
  generalize pre p (fun w=>w.2.2) i=l at*
  have hll:=fr_len l
  (repeat' (conv=>whnf);first|refine aC ?_ ?_<;>intro _|refine z1_F1 ?_|refine⟨i,_,rfl,hgt,?_⟩|fail);all_goals try (conv=>whnf)
  exact⟨i+1,[0,4],by omega,by omega,by rw [hpr,fr2_append];(exact aL)⟩
 ·(repeat' (conv=>whnf);first|refine aC ?_ ?_<;>intro _|refine z2_P5 ?_|fail);all_goals try (conv=>whnf)
  refine .mk [.fz 1] ?_
  (repeat' (conv=>whnf);first|refine aC ?_ ?_<;>intro _|refine z1_F1 ?_|fail);all_goals try (conv=>whnf)
  exact⟨rfl,Imp.psl (congrArg fr2 (pre_all (by omega)))⟩
theorem rcolumn_ok (p:Pr) (hp:VP p) (j:Nat) (hj:j<p.c.length):Ctr Tryz.prog 131 [prv p,i64 j] [] (fun r o=>o=[]∧r=fsl (col p j)):=by
 refine Ctr.imp ?_
 refine fI 0 Tryz.func131 ?_
 have hlr:=rw_len p.r
 have hp2:=hp.2.2.1
 (repeat' (conv=>whnf);first|refine aC ?_ ?_<;>intro _|refine z1_F1 ?_|fail);all_goals try (conv=>whnf)
 refine LoopOb.mk (Y:=Nat) (st:=fun i=>⟨[(6,i64 i),(5, .vec 1),(2, .ptr 0 0),(1,i64 j)],[.box [fsl p.c, .psl 4 (rws p.r)], .vec 2 (fr2 (pre p (fun w=>w.1.getD j (0,1)) i))]⟩)
  (inv:=fun i=>i≤p.r.length) (fun i=>p.r.length-i) 0 [0,2] (by omega) (by(exact aL)) ?_
 intro i hi
 (repeat' (conv=>whnf);first|refine z1_F1 ?_|fail);all_goals try (conv=>whnf)
 refine CondOb.mk (fun hlt=>?_) (fun hlt=>?_)
 ·have hil:i<p.r.length:=by omega
  have hgt:=rw_get hil
  have hpr:=pre_succ (g:=fun w=>w.1.getD j (0,1)) hil
  have hpl:=pre_len (p:=p) (g:=fun w=>w.1.getD j (0,1)) hi
  have hws:=rall_at hp.2.2.2.2 hil
  generalize p.r.getD i rw0=w at*
  generalize pre p (fun w=>w.1.getD j (0,1)) i=l at*
  have hll:=fr_len l
  (repeat' (conv=>whnf);first|refine aC ?_ ?_<;>intro _|refine z1_F1 ?_|refine⟨i,_,rfl,hgt,?_⟩|refine⟨j,_,rfl,fr_get (by have:=hws.1;omega),?_⟩|fail);all_goals try (conv=>whnf)
  exact⟨i+1,[0,3],by omega,by omega,by rw [hpr,fr2_append];(exact aL)⟩
 ·(repeat' (conv=>whnf);first|refine aC ?_ ?_<;>intro _|refine z2_P5 ?_|fail);all_goals try (conv=>whnf)
  refine .mk [.fz 1] ?_
  (repeat' (conv=>whnf);first|refine aC ?_ ?_<;>intro _|refine z1_F1 ?_|fail);all_goals try (conv=>whnf)
  exact⟨rfl,Imp.psl (congrArg fr2 (pre_all (by omega)))⟩
theorem rbounds_ok (p:Pr) (hp:VP p):Ctr Tryz.prog 102 [prv p] [] (fun r o=>o=[]∧r=fsl (bds p)):=by
 refine Ctr.imp ?_
 refine fI 0 Tryz.func102 ?_
 have hlr:=rw_len p.r
 have hp2:=hp.2.2.1
 (repeat' (conv=>whnf);first|refine aC ?_ ?_<;>intro _|refine z1_F1 ?_|fail);all_goals try (conv=>whnf)
 refine LoopOb.mk (Y:=Nat) (st:=fun i=>⟨[(4,i64 i),(3, .vec 1),(1, .ptr 0 0)],[.box [fsl p.c, .psl 4 (rws p.r)], .vec 2 (fr2 (pre p (fun w=>w.2.2) i))]⟩)
  (inv:=fun i=>i≤p.r.length) (fun i=>p.r.length-i) 0 [0,2] (by omega) (by(exact aL)) ?_
 intro i hi
 (repeat' (conv=>whnf);first|refine z1_F1 ?_|fail);all_goals try (conv=>whnf)
 refine CondOb.mk (fun hlt=>?_) (fun hlt=>?_)
 ·have hil:i<p.r.length:=by omega
  have hgt:=rw_get hil
  have hpr:=pre_succ (g:=fun w=>w.2.2) hil
  have hpl:=pre_len (p:=p) (g:=fun w=>w.2.2) hi
  have hws:=rall_at hp.2.2.2.2 hil
  generalize p.r.getD i rw0=w at*
  generalize pre p (fun w=>w.2.2) i=l at*
  have hll:=fr_len l
  (repeat' (conv=>whnf);first|refine aC ?_ ?_<;>intro _|refine z1_F1 ?_|refine⟨i,_,rfl,hgt,?_⟩|fail);all_goals try (conv=>whnf)
  exact⟨i+1,[0,3],by omega,by omega,by rw [hpr,fr2_append];(exact aL)⟩
 ·(repeat' (conv=>whnf);first|refine aC ?_ ?_<;>intro _|refine z2_P5 ?_|fail);all_goals try (conv=>whnf)
  refine .mk [.fz 1] ?_
  (repeat' (conv=>whnf);first|refine aC ?_ ?_<;>intro _|refine z1_F1 ?_|fail);all_goals try (conv=>whnf)
  exact⟨rfl,Imp.psl (congrArg fr2 (pre_all (by omega)))⟩
def zr (n i:Nat):List F:=List.replicate i (0,1)++List.replicate (n-i) (0,0)
theorem zr_len {n i:Nat} (h:i≤n):(zr n i).length =n:=by simp [zr];omega
theorem zr_get {n i:Nat} (h:i<n):(fr2 (zr n i))[i]? =some [i64 0,i64 0]:=by
 simp only [fr2,zr,List.getElem?_map]
 rw [List.getElem?_append_right (by simp),List.length_replicate,Nat.sub_self,List.getElem?_replicate,if_pos (by omega)]
 rfl
theorem zr_set {n i:Nat} (h:i<n):(fr2 (zr n i)).set i [i64 0,i64 1]=fr2 (zr n (i+1)):=by
 have e:n-i=(n-(i+1))+1:=by omega
 simp only [fr2,zr]
 rw [e,List.replicate_succ (n:=n-(i+1)),List.map_append,List.set_append_right _ _ (by simp)]
 simp only [List.length_map,List.length_replicate,Nat.sub_self,List.map_cons,List.set_cons_zero]
 rw [List.replicate_succ',List.map_append,List.map_append]
 simp
theorem zeros_ok (n:Nat) (hn:n≤1000):Ctr Tryz.prog 101 [i64 n] [] (fun r o=>o=[]∧r=fsl (List.replicate n (0,1))):=by
 refine Ctr.imp ?_
 refine fI 0 Tryz.func101 ?_
 (repeat' (conv=>whnf);first|refine aC ?_ ?_<;>intro _|refine z1_F1 ?_|refine⟨_,_,rfl,rfl,Nat.le_refl _,⟨by(simp only;omega),by omega⟩,?_⟩|fail);all_goals try (conv=>whnf)
 refine LoopOb.mk (Y:=Nat) (st:=fun i=>⟨[(9,i64 i),(8,i64 n),(7, .vec 0),(3, .vec 0)],[.vec 2 (fr2 (zr n i))]⟩)
  (inv:=fun i=>i≤n) (fun i=>n-i) 0 [1] (by omega) (by refine Le.mk (by kernel_rfl) ?_ ?_<;>repeat' (first|exact True.intro|refine And.intro ?_ ?_|exact Imp.refl _|exact Imp.num (by simp)|exact rfl|(show List.replicate n [i64 0,i64 0]=fr2 (zr n 0);simp [zr,fr2]))) ?_
 intro i hi
 have hzl:=fr_len (zr n i)
 have hzn:=zr_len hi
 (repeat' (conv=>whnf);first|refine z1_F1 ?_|fail);all_goals try (conv=>whnf)
 refine CondOb.mk (fun hlt=>?_) (fun hlt=>?_)
 ·have hg:=zr_get (show i<n by omega)
  have hs:=zr_set (show i<n by omega)
  (repeat' (conv=>whnf);first|refine aC ?_ ?_<;>intro _|refine z1_F1 ?_|fail);all_goals try (conv=>whnf)
  refine⟨i,rfl,by omega,?_⟩
  (repeat' (conv=>whnf);first|refine aC ?_ ?_<;>intro _|refine z1_F1 ?_|fail);all_goals try (conv=>whnf)
  refine⟨_,hg,?_⟩
  (repeat' (conv=>whnf);first|refine aC ?_ ?_<;>intro _|refine z1_F1 ?_|fail);all_goals try (conv=>whnf)
  exact⟨i+1,[0],by omega,by omega,by rw [←hs];(exact aL)⟩
 ·(repeat' (conv=>whnf);first|refine aC ?_ ?_<;>intro _|refine z2_P5 ?_|fail);all_goals try (conv=>whnf)
  refine .mk [.fz 0] ?_
  (repeat' (conv=>whnf);first|refine aC ?_ ?_<;>intro _|refine z1_F1 ?_|fail);all_goals try (conv=>whnf)
  have e:i=n:=by omega
  subst e
  exact⟨rfl,Imp.psl (congrArg fr2 (by simp [zr]))⟩
end
end Go.Proofs.YtbcjojomkibgeaaGreat
