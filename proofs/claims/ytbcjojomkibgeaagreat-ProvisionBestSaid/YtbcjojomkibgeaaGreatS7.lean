/- Lemmas of this seat. Conditions: as stated. -/
import Derived.Test.YtbcjojomkibgeaaGreatP10
import Derived.Test.YtbcjojomkibgeaaGreatP6
import Derived.Test.YtbcjojomkibgeaaGreatPl
set_option linter.unusedVariables false
set_option linter.unusedSimpArgs false
set_option maxHeartbeats 2000000
set_option maxRecDepth 4000
namespace Go.Proofs.YtbcjojomkibgeaaGreat
section
open Go.Sx Go.Fq
abbrev Sol:=Int×List F×F×List F×List F
abbrev solv (s:Sol):SV:= .agg [i64 s.1,fsl s.2.1,i64 s.2.2.1.1,i64 s.2.2.1.2,fsl s.2.2.2.1,fsl s.2.2.2.2]
def Chk (p:Pr) (s:Sol):Prop:=
 (s.1=1∧s.2.2.2.2.length=0∧Opt p s.2.1 s.2.2.2.1∧(prod p.c s.2.1).2.2 =0∧(prod p.c s.2.1).1 =s.2.2.1.1∧(prod p.c s.2.1).2.1 =s.2.2.1.2)∨
 (s.1=2∧s.2.2.2.1.length=0∧s.2.2.1=(0,1)∧Unb p s.2.1 s.2.2.2.2)∨
 (s.1=3∧s.2.1.length=0∧s.2.2.2.2.length=0∧s.2.2.1=(0,1)∧Inf p s.2.2.2.1)
theorem rCheck_ok (p:Pr) (hp:PL p) (t:Int) (X:List F) (v w:Int) (D R:List F) (hX:X.length≤9223372036854775807) (hD:D.length≤9223372036854775807) (hR:R.length≤9223372036854775807):
  Ctr Tryz.prog 25 [prv p,solv (t,X,(v,w),D,R)] [] (fun r o=>o=[]∧r= .bp (Chk p (t,X,(v,w),D,R))):=by
 refine Ctr.imp ?_
 refine fI 0 Tryz.func25 ?_
 have hlX:=fr_len X
 have hlD:=fr_len D
 have hlR:=fr_len R
 have cP:=rProduct_ok p.c X (by have:=hp.1;omega)
 have cO:=rOptimal_ok p hp X D hX hD
 have cU:=rUnbounded_ok p hp X R hX hR
 have cI:=rInfeasible_ok p hp D hD
 unfold Chk
 dsimp only
 generalize prod p.c X=z at*
 generalize Opt p X D=O at*
 generalize Unb p X R=U at*
 generalize Inf p D=I at*
 (repeat' (conv=>whnf);first|refine aC ?_ ?_<;>intro<;>try omega|refine z1_F1 ?_|(refine aK [] cP ?_)|(refine aK [] cO ?_)|(refine aK [] cU ?_)|(refine aK [] cI ?_)|fail);all_goals try (conv=>whnf)
 all_goals clear cP cO cU cI
 all_goals refine⟨rfl,?_⟩
 all_goals simp only [oneS]
 all_goals simp only [Prod.mk.injEq]
 all_goals try simp only [conj,List.cons_append,List.nil_append,and_true]at*
 all_goals try simp only [hlX,hlD,hlR]at*
 all_goals first
  |(refine Imp.bl ⟨by simp,fun h=>?_⟩;exfalso;grind)
  |(refine Imp.bp ?_;grind)
  |trace_state
theorem Check1_ok (p:Pr) (hp:PL p) (t:Int) (X:List F) (v w:Int) (D R:List F) (hX:X.length≤9223372036854775807) (hD:D.length≤9223372036854775807) (hR:R.length≤9223372036854775807):
  Ctr Tryz.prog 62 [.pptr [fsl p.c, .psl 4 (rws p.r)], .pptr [i64 t,fsl X,i64 v,i64 w,fsl D,fsl R]] [] (fun r o=>o=[]∧r= .bp (t=1∧R.length=0∧Opt p X D∧(prod p.c X).2.2 =0∧(prod p.c X).1 =v∧(prod p.c X).2.1 =w)):=by
 refine Ctr.imp ?_
 refine fI 0 Tryz.func62 ?_
 have hlR:=fr_len R
 have cP:=Product_ok p.c X (by have:=hp.1;omega)
 have cO:=Optimal_ok p hp X D hX hD
 generalize prod p.c X=z at*
 generalize Opt p X D=O at*
 (repeat' (conv=>whnf);first|refine aC ?_ ?_<;>intro<;>try omega|refine z1_F1 ?_|(refine aK [] cP ?_)|(refine aK [] cO ?_)|fail);all_goals try (conv=>whnf)
 all_goals clear cP cO
 all_goals refine⟨rfl,?_⟩
 all_goals simp only [oneS]
 all_goals try simp only [conj,List.cons_append,List.nil_append,and_true]at*
 all_goals try simp only [hlR]at*
 all_goals first
  |(refine Imp.bl ⟨by simp,fun h=>?_⟩;exfalso;grind)
  |(refine Imp.bp ?_;grind)
  |trace_state
theorem Check2_ok (p:Pr) (hp:PL p) (t:Int) (X:List F) (v w:Int) (D R:List F) (hX:X.length≤9223372036854775807) (hD:D.length≤9223372036854775807) (hR:R.length≤9223372036854775807) (n:Prop):
  Ctr Tryz.prog 64 [.pptr [i64 t,fsl X,i64 v,i64 w,fsl D,fsl R], .pptr [fsl p.c, .psl 4 (rws p.r)], .pptr [.bp n]] [] (fun r o=>o=[]∧r= .bp (t=2∧D.length=0∧n∧Unb p X R)):=by
 refine Ctr.imp ?_
 refine fI 0 Tryz.func64 ?_
 have hlD:=fr_len D
 have cU:=Unbounded_ok p hp X R hX hR
 generalize Unb p X R=U at*
 (repeat' (conv=>whnf);first|refine aC ?_ ?_<;>intro<;>try omega|refine z1_F1 ?_|(refine aK [] cU ?_)|fail);all_goals try (conv=>whnf)
 all_goals clear cU
 all_goals refine⟨rfl,?_⟩
 all_goals simp only [oneS]
 all_goals try simp only [hlD]at*
 all_goals first
  |(refine Imp.bl ⟨by simp,fun h=>?_⟩;exfalso;grind)
  |(refine Imp.bp ?_;grind)
  |trace_state
theorem Check3_ok (p:Pr) (hp:PL p) (t:Int) (X:List F) (v w:Int) (D R:List F) (hX:X.length≤9223372036854775807) (hD:D.length≤9223372036854775807) (hR:R.length≤9223372036854775807) (n:Prop):
  Ctr Tryz.prog 66 [.pptr [i64 t,fsl X,i64 v,i64 w,fsl D,fsl R], .pptr [fsl p.c, .psl 4 (rws p.r)], .pptr [.bp n]] [] (fun r o=>o=[]∧r= .bp (t=3∧X.length=0∧R.length=0∧n∧Inf p D)):=by
 refine Ctr.imp ?_
 refine fI 0 Tryz.func66 ?_
 have hlX:=fr_len X
 have hlR:=fr_len R
 have cI:=Infeasible_ok p hp D hD
 generalize Inf p D=I at*
 (repeat' (conv=>whnf);first|refine aC ?_ ?_<;>intro<;>try omega|refine z1_F1 ?_|(refine aK [] cI ?_)|fail);all_goals try (conv=>whnf)
 all_goals clear cI
 all_goals refine⟨rfl,?_⟩
 all_goals simp only [oneS]
 all_goals try simp only [hlX,hlR]at*
 all_goals first
  |(refine Imp.bl ⟨by simp,fun h=>?_⟩;exfalso;grind)
  |(refine Imp.bp ?_;grind)
  |trace_state
theorem Check_ok (p:Pr) (hp:PL p) (t:Int) (X:List F) (v w:Int) (D R:List F) (hX:X.length≤9223372036854775807) (hD:D.length≤9223372036854775807) (hR:R.length≤9223372036854775807):
  Ctr Tryz.prog 28 [prv p,solv (t,X,(v,w),D,R)] [] (fun r o=>o=[]∧r= .bp (Chk p (t,X,(v,w),D,R))):=by
 refine Ctr.imp ?_
 refine fI 0 Tryz.func28 ?_
 (repeat' (conv=>whnf);first|refine aC ?_ ?_<;>intro _|refine z2_P5 ?_|fail);all_goals try (conv=>whnf)
 refine .mk [.fb 0, .fb 1, .fb 2] ?_
 (repeat' (conv=>whnf);first|refine aC ?_ ?_<;>intro _|refine z2_P5 ?_|fail);all_goals try (conv=>whnf)
 refine .mk [] ?_
 have c1:=Check1_ok p hp t X v w D R hX hD hR
 have c2:=Check2_ok p hp t X v w D R hX hD hR (conj ([v=0]++([w=1]++[])))
 have c3:=Check3_ok p hp t X v w D R hX hD hR (conj ([v=0]++([w=1]++[])))
 unfold Chk
 dsimp only at c1 c2 c3⊢
 generalize Opt p X D=O at*
 generalize Unb p X R=U at*
 generalize Inf p D=I at*
 generalize prod p.c X=z at*
 refine LoopOb.mk (Y:=Nat) (st:=fun k=>⟨[(19,i64 k),(18,i64 3),(17, .vec 0)],[.vec 1 [[.fn 62 [.pptr [fsl p.c, .psl 4 (rws p.r)], .pptr [i64 t,fsl X,i64 v,i64 w,fsl D,fsl R]]],[.fn 64 [.pptr [i64 t,fsl X,i64 v,i64 w,fsl D,fsl R], .pptr [fsl p.c, .psl 4 (rws p.r)], .pptr [.bp (conj ([v=0]++([w=1]++[])))]]],[.fn 66 [.pptr [i64 t,fsl X,i64 v,i64 w,fsl D,fsl R], .pptr [fsl p.c, .psl 4 (rws p.r)], .pptr [.bp (conj ([v=0]++([w=1]++[])))]]]]]⟩)
  (inv:=fun k=>k≤3∧(1≤k→¬(t=1∧R.length=0∧O∧z.2.2=0∧z.1=v∧z.2.1=w))∧(2≤k→¬(t=2∧D.length=0∧v=0∧w=1∧U))∧(3≤k→¬(t=3∧X.length=0∧R.length=0∧v=0∧w=1∧I))) (fun k=>3-k) 0 [3] ⟨by omega,by omega,by omega,by omega⟩ (by(exact aL)) ?_
 rintro k ⟨hk,h1,h2,h3⟩
 have hlen:∀i<3,True:=fun _ _=>trivial
 clear hX hD hR hlen
 rcases(show k=0∨k=1∨k=2∨k=3 by omega)with rfl|rfl|rfl|rfl
 ·(repeat' (conv=>whnf);first|refine aC ?_ ?_<;>intro<;>try omega|refine z1_F1 ?_|refine And.intro (by simp) ?_|refine⟨0,rfl,?_⟩|refine⟨_,rfl,?_⟩|(refine aK [] c1 ?_)|fail);all_goals try (conv=>whnf)
  ·rename_i hh
   try simp only [conj,List.cons_append,List.nil_append,and_true]at hh
   exact Imp.bl ⟨fun _=>by grind,fun _=>rfl⟩
  ·rename_i hh
   try simp only [conj,List.cons_append,List.nil_append,and_true]at hh
   exact⟨1,[0],⟨by omega,by grind,by grind,by grind⟩,by omega,by(exact aL)⟩
 ·(repeat' (conv=>whnf);first|refine aC ?_ ?_<;>intro<;>try omega|refine z1_F1 ?_|refine And.intro (by simp) ?_|refine⟨1,rfl,?_⟩|refine⟨_,rfl,?_⟩|(refine aK [] c2 ?_)|fail);all_goals try (conv=>whnf)
  ·rename_i hh
   try simp only [conj,List.cons_append,List.nil_append,and_true]at hh
   exact Imp.bl ⟨fun _=>by grind,fun _=>rfl⟩
  ·rename_i hh
   try simp only [conj,List.cons_append,List.nil_append,and_true]at hh
   exact⟨2,[0],⟨by omega,by grind,by grind,by grind⟩,by omega,by(exact aL)⟩
 ·(repeat' (conv=>whnf);first|refine aC ?_ ?_<;>intro<;>try omega|refine z1_F1 ?_|refine And.intro (by simp) ?_|refine⟨2,rfl,?_⟩|refine⟨_,rfl,?_⟩|(refine aK [] c3 ?_)|fail);all_goals try (conv=>whnf)
  ·rename_i hh
   try simp only [conj,List.cons_append,List.nil_append,and_true]at hh
   exact Imp.bl ⟨fun _=>by grind,fun _=>rfl⟩
  ·rename_i hh
   try simp only [conj,List.cons_append,List.nil_append,and_true]at hh
   exact⟨3,[0],⟨by omega,by grind,by grind,by grind⟩,by omega,by(exact aL)⟩
 ·(repeat' (conv=>whnf);first|refine aC ?_ ?_<;>intro<;>try omega|refine z1_F1 ?_|fail);all_goals try (conv=>whnf)
  have g1:=h1 (by omega)
  have g2:=h2 (by omega)
  have g3:=h3 (by omega)
  exact⟨rfl,Imp.bl ⟨fun h=>(by cases h),fun h=>by simp only [Prod.mk.injEq]at h;exfalso;grind⟩⟩
end
section
open Go.Sx Go.Fq
def sns (w:Rw):Int:=if w.2.1=1 then 1 else if w.2.1=2 then-1 else 0
def sg (b:Int):Int:=if b<0 then-1 else 1
def ngr (g:Nat→Int) (k j:Nat):Int:=if j<k then 0-g j else g j
theorem ngr_step {g:Nat→Int} {k:Nat}:up (ngr g k) k (0-ngr g k k)=ngr g (k+1):=by
 funext j;unfold up ngr
 by_cases h:j=k
 ·subst h;simp
 ·simp only [if_neg h,show j<k↔j<k+1 by omega]
def cst (n m i k:Nat):Int:=if n+m≤k∧k<n+m+i then 1 else 0
theorem cst_step {n m i:Nat}:up (cst n m i) (n+m+i) 1=cst n m (i+1):=by
 funext j;unfold up cst
 by_cases h:j=n+m+i
 ·subst h;simp
 ·rw [if_neg h];simp only [show(n+m≤j∧j<n+m+i)↔(n+m≤j∧j<n+m+(i+1))by omega]
def cs (f:Nat→Nat→Int):Nat→Nat→Int
 |0,_=>0
 |i+1,k=>cs f i k+f i k
theorem cst_bd {n m i k:Nat}:0≤cst n m i k∧cst n m i k≤1:=by unfold cst;split<;>omega
abbrev nC (p:Pr):Nat:=p.c.length+p.r.length
abbrev nE (p:Pr):Nat:=p.c.length+2*p.r.length
def cc (p:Pr) (sc:Int) (k:Nat):Int:=if k<p.c.length then(p.c.getD k (0,1)).1 *(sc/(p.c.getD k (0,1)).2)else 0
def red (p:Pr) (sc:Int) (s:TS):Nat→Nat→Int
 |0,k=>cc p sc k*s.2.2
 |i+1,k=>red p sc s i k-cc p sc (s.2.1 i).toNat *s.1 i k
def fr (a b:Int):F:=((fnew a b).1,(fnew a b).2.1)
def cf (p:Pr) (sc:Int) (i k:Nat):Int:=if k<i then cc p sc k else 0
theorem iv_val {a:F} {s:Int} (hv:VF a) (hd:a.2∣s):((a.1*(s/a.2):Int):Rat)=s*val a:=by
 obtain⟨c,rfl⟩:=hd
 have h2:a.2≠0:=by have:=hv.1;omega
 rw [Int.mul_ediv_cancel_left _ h2]
 have hq:(a.2:Rat)≠0:=by simpa using h2
 have e:val a*(a.2:Rat)=(a.1:Rat):=by
  have h1:((a.2:Int):Rat)=Rat.divInt a.2 1:=(Rat.num_divInt_den (a.2:Rat)).symm
  have h3:((a.1:Int):Rat)=Rat.divInt a.1 1:=(Rat.num_divInt_den (a.1:Rat)).symm
  rw [h1,h3];unfold val
  rw [Rat.divInt_mul_divInt,Int.mul_comm a.1 a.2,Rat.divInt_mul_left h2]
 rw [Rat.intCast_mul,Rat.intCast_mul,←e]
 grind
end
section
open Go.Sx Go.Fq
structure Pvw (m w:Nat) (f:Nat→Nat→Int) (bs:Nat→Int) (d:Int) (r c:Nat) (f':Nat→Nat→Int) (bs':Nat→Int) (d':Int):Prop where
 eq:∀a<m+1,∀b<w,f' a b=pv f r c d a b
 d:d'=(f r c).natAbs
 bs:bs'=up bs r c
def Piw (m w:Nat) (s:TS) (r c:Nat) (s':TS):Prop:=Pvw m w s.1 s.2.1 s.2.2 r c s'.1 s'.2.1 s'.2.2
structure Stw (m E C:Nat) (s s':TS):Prop where
 ex:∃r c,r<m∧c<C∧s.1 m c<0∧0<s.1 r c∧(∀j<m,0<s.1 j c→s.1 r E*s.1 j c≤s.1 j E*s.1 r c)∧Piw m (E+1) s r c s'
inductive Ruw (m E C:Nat) (s:TS):TS→Prop
 |refl:Ruw m E C s s
 |step {s' s''} (h:Ruw m E C s s') (k:Stw m E C s' s''):Ruw m E C s s''
inductive Arw (m w C:Nat) (s:TS):TS→Prop
 |refl:Arw m w C s s
 |step {s' s'':TS} {r c:Nat} (h:Arw m w C s s') (hr:r<m) (hc:c<C) (hb:(C:Int)≤s'.2.1 r) (hp:s'.1 r c≠0) (k:Piw m w s' r c s''):Arw m w C s s''
theorem piw_zero {m w:Nat} {s s':TS} {r c a:Nat} (h:Piw m w s r c s') (ha:a<m+1) (hn:a≠r) (hc:s.1 a c=0) {b:Nat} (hb:b<w) (h0:s.1 a b=0):s'.1 a b=0:=by
 rw [h.eq a ha b hb]
 unfold pv nw1
 rw [hc,h0,if_neg hn,Int.zero_mul,Int.zero_mul,Int.sub_zero,Int.zero_tdiv]
 split<;>rfl
structure RowJ (n m i:Nat) (w:Rw) (b:Int) (g:Nat→Int):Prop where
 b0:b≠0
 co:∀k<n,(g k:Rat)=b*val (w.1.getD k (0,1))
 bo:(g (n+2*m):Rat)=b*val w.2.2
 nn:0≤g (n+2*m)
 sl:∀k<m,g (n+k)=if k=i then sg b*sns w else 0
 ar:∀k<m,g (n+m+k)=if k=i then 1 else 0
def Inj (p:Pr) (by':Nat→Int) (s:TS):Prop:=
 (∀i<p.r.length,RowJ p.c.length p.r.length i (p.r.getD i rw0) (by' i) (s.1 i))∧(∀i<p.r.length,s.2.1 i=p.c.length+p.r.length+i)∧s.2.2=1∧
 ∀k<p.c.length+2*p.r.length+1,s.1 p.r.length k=cst p.c.length p.r.length p.r.length k-cs s.1 p.r.length k
structure Qh1 (p:Pr) (by':Nat→Int) (s0 s1:TS) (z:Int):Prop where
 vp:VP p
 ini:Inj p by' s0
 run:Ruw p.r.length (nE p) (nC p) s0 s1
 ends:Ends p.r.length (nC p) s1.1 z
structure Qh2 (p:Pr) (sc:Int) (s1 s2 s3 s4:TS) (z:Int):Prop where
 ob:s1.1 p.r.length (nE p)=0
 art:Arw p.r.length (nE p+1) (nC p) s1 s2
 azr:∀a<p.r.length,(nC p:Int)≤s2.2.1 a→∀j<nC p,s2.1 a j=0
 sc1:1≤sc
 scd:∀f∈p.c,f.2∣sc
 row:∀i<p.r.length,∀k<nE p+1,s3.1 i k=s2.1 i k
 cost:∀k<nE p+1,s3.1 p.r.length k=red p sc s2 p.r.length k
 rest:s3.2=s2.2
 run:Ruw p.r.length (nE p) (nC p) s3 s4
 ends:Ends p.r.length (nC p) s4.1 z
end
end Go.Proofs.YtbcjojomkibgeaaGreat
