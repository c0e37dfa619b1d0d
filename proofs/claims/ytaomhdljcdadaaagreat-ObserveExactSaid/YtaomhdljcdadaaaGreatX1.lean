/- Lemmas of this seat. Conditions: as stated. -/
import Derived.Test.YtaomhdljcdadaaaGreatW3
import Derived.Test.YtaomhdljcdadaaaGreatPl
import Derived.Test.YtaomhdljcdadaaaGreatMn
set_option linter.unusedVariables false
set_option linter.unusedSimpArgs false
set_option maxHeartbeats 2000000
set_option maxRecDepth 4000
namespace Go.Proofs.YtaomhdljcdadaaaGreat
section
open Go.Sx Go.Cv
theorem CNormF (f:C3) (hf:VC f):Ctr Tryz.prog 180 [crv f.1 f.2.1 f.2.2] [] (fun r o=>∃a:C3,(VC a∧(∀t,cv a t=cv f t)∧(FinC f→FinC a))∧o=[]∧r= .tup [crv a.1 a.2.1 a.2.2,i64 0]):=
 (CNormal_ok f.1 f.2.1 f.2.2 (by have:=hf.n2;omega)).mono (fun r o ⟨x,h1,h2,h3⟩=>by
  obtain⟨x1,x2,x3,x4⟩:=x
  rcases h1 with⟨he,p0,p1,e0,e1,h4,h5⟩|⟨h,_⟩
  ·dsimp only at he e1 h5 h3
   subst he e1
   have e2:p0=f.2.1:=by omega
   subst e2
   obtain⟨g1,g2⟩:=h5.vf hf
   refine⟨(x1,p1,x3),⟨g1,g2,fun ff=>?_⟩,h2,h3⟩
   intro hi
   have h6:=g1.val_inf hi hi (t:=x1.length-1) (Nat.le_refl _)
   have h7:=cv_small hf (t:=x1.length-1) (by have:=g1.n2;omega) (ff.not hf _)
   have h8:=g2 (x1.length-1)
   unfold cv at h7
   rw [h6]at h8
   simp only [INF]at h8
   omega
  ·exact absurd hf.valid h)
theorem One_ok (f:C3) (hf:VC f) (n lo hi:Int) (h1:lo≤n) (h2:n≤hi):Ctr Tryz.prog 135 [crv f.1 f.2.1 f.2.2,i64 n,i64 lo,i64 hi] [] (fun r o=>∃a:C3,(VC a∧(∀t,cv a t=cv f t)∧(FinC f→FinC a))∧o=[]∧r= .tup [crv a.1 a.2.1 a.2.2,i64 0]):=by
 refine Ctr.impE ?_
 refine fI 0 Tryz.func135 ?_
 (repeat' (conv=>whnf);first|refine aC ?_ ?_<;>intro<;>try omega|refine z2_T1 ?_|fail);all_goals try (conv=>whnf)
 refine aM [] (CNormF f hf) rfl rfl ?_
 rintro _ _ ⟨a,ha,rfl,rfl⟩
 (repeat' (conv=>whnf);first|refine aC ?_ ?_<;>intro<;>try omega|refine z2_T1 ?_|fail);all_goals try (conv=>whnf)
 exact⟨a,ha,rfl,Imp.refl _⟩
theorem AheadC_ok (a:C3) (ha:VC a) (d t:Nat) (h:t+d≤1048576):
  Ctr Tryz.prog 136 [i64 t, .pptr [.psl 1 (ints a.1),i64 a.2.1,i64 a.2.2], .pptr [i64 d]] [] (fun r o=>o=[]∧r=i64 (ahd a d t)):=by
 refine fI 0 Tryz.func136 ?_
 (repeat' (conv=>whnf);first|refine aC ?_ ?_<;>intro<;>try omega|refine z2_T1 ?_|fail);all_goals try (conv=>whnf)
 ·exact⟨rfl,by unfold ahd;rw [if_pos (by omega)];rfl⟩
 ·refine aM [] (WAt_ok _ _ _ _ (bd_of ha) (by omega) (by omega)) rfl rfl ?_
  rintro _ _ ⟨rfl,rfl⟩
  (repeat' (conv=>whnf);first|refine aC ?_ ?_<;>intro<;>try omega|refine z2_T1 ?_|fail);all_goals try (conv=>whnf)
  exact⟨rfl,by unfold ahd cv;rw [if_neg (by omega),show((t:Int)+d).toNat =t+d by omega];rfl⟩
theorem z3_X1 {G H:Prop} (k:H) (h:H→G:=by first|exact fun r=>aS r|exact fun r=>aG r|exact fun r=>aD r|exact fun r=>aP_T1 r|exact fun r=>aI r|exact fun r=>aJ r|exact fun r=>aW (.qs [0,1,3,6,7,8,9] (.l 2 [9,7,3] (.qs [4,5] (.l 10 [] (.qs [11,12] (.l 13 [] (.qs [14] .nil) .no)) .no)) .no)) r):G:=h k
theorem z2_X1 {G H:Prop} (k:H) (h:H→G:=by first|exact fun r=>aS r|exact fun r=>aG r|exact fun r=>aD r|exact fun r=>aH r|exact fun r=>aP_T1 r|exact fun r=>aI r|exact fun r=>aJ r|exact fun r=>aW (.qs [0,1,3,6,7,8,9] (.l 2 [9,7,3] (.qs [4,5] (.l 10 [] (.qs [11,12] (.l 13 [] (.qs [14] .nil) .no)) .no)) .no)) r):G:=h k
theorem Ahead_ok (f:C3) (hf:VC f) (ff:FinC f) (d:Nat) (hd:d≤100000):Ctr Tryz.prog 106 [crv f.1 f.2.1 f.2.2,i64 d] [] (fun r o=>∃x,MkP (ahd f d) x∧o=[]∧r=crvE x):=by
 refine Ctr.impE ?_
 refine fI 0 Tryz.func106 ?_
 (repeat' (conv=>whnf);first|refine aC ?_ ?_<;>intro<;>try omega|refine z2_X1 ?_|fail);all_goals try (conv=>whnf)
 refine aM [] (One_ok f hf d 0 1048576 (by omega) (by omega)) rfl rfl ?_
 rintro _ _ ⟨a,⟨ha,hc,hfi⟩,rfl,rfl⟩
 have fa:=hfi ff
 have n1:=ha.n1
 have n2:=ha.n2
 have p1:=ha.p1
 have p2:=ha.p2
 have pn:=ha.pn
 have q0:=ha.q0
 have q1:=ha.q1
 have hil:=ints_len a.1
 (repeat' (conv=>whnf);first|refine aC ?_ ?_<;>intro<;>try omega|refine z3_X1 ?_|fail);all_goals try (conv=>whnf)
 refine .mk [] ?_
 refine aK [] (Start_ok a.1 a.2.1 a.2.2 pn (by omega)) ?_
 (repeat' (conv=>whnf);first|refine aC ?_ ?_<;>intro<;>try omega|refine z3_X1 ?_|fail);all_goals try (conv=>whnf)
 obtain⟨s,hs,hs1,hs2,hs3⟩:∃s:Nat,max 1 (((a.1.length-a.2.1:Nat):Int)-d)=s∧1≤s∧a.1.length-a.2.1-d≤s∧s≤400:=⟨max 1 (a.1.length-a.2.1-d),by omega,by omega,by omega,by omega⟩
 rw [hs]
 refine .mk [.fb 3, .fb 1] ?_
 refine CallOb.mk [] (Build2_ok 136 (.pptr [.psl 1 (ints a.1),i64 a.2.1,i64 a.2.2]) (.pptr [i64 d]) (ahd a d) s a.2.1 a.2.2 p1 (by omega) q0 (by omega) (fun t ht=>by
   have:=ahd_bd ha fa (d:=d) (t:=t) (by omega)
   omega) (fun t ht=>AheadC_ok a ha d t (by omega)) (fun _=>ahd_per ha d s hs1 hs2)) rfl ?_ rfl rfl ?_
 ·exact⟨Imp.fn ⟨Imp.shut rfl,Imp.shut rfl,trivial⟩,Imp.refl _,Imp.refl _,Imp.refl _,trivial⟩
 rintro _ _ ⟨⟨x1,x2,x3,x4⟩,hx,rfl,rfl⟩
 have hmk:MkP (ahd a d) (x1,x2,x3,x4):=buildP_mk (ahd_bd ha fa (by omega)).1 (ahd_mono ha d) (fun t ht=>by have:=(ahd_bd ha fa (d:=d) (t:=t) (by omega)).2;simp only [INF];omega) (fun m hm h=>by
  have:=(ahd_bd ha fa (d:=d) (t:=m) (by omega)).2
  rw [h]at this;simp only [INF]at this;omega) hx
 rw [ahd_congr hc]at hmk
 (repeat' (conv=>whnf);first|refine aC ?_ ?_<;>intro<;>try omega|refine z2_X1 ?_|fail);all_goals try (conv=>whnf)
 all_goals exact⟨(x1,x2,x3,x4),hmk,rfl,Imp.refl _⟩
end
section
open Go.Sx Go.Np Go.Cv Go.Tp
abbrev dls (d:List (List Int)):List (List SV):=d.map fun r=>[.psl 1 (ints r)]
theorem dls_len (d:List (List Int)):(dls d).length =d.length:=by simp [dls]
theorem dls_get {d:List (List Int)} {i:Nat} (h:i<d.length):(dls d)[i]? =some [.psl 1 (ints (d.getD i []))]:=by simp [dls,h]
structure DL (d:List (List Int)):Prop where
 l:d.length≤9223372036854775807
 r:∀i,(d.getD i []).length ≤9223372036854775807
theorem Shape_ok (n:Nt) (hn:NL n) (d:List (List Int)) (hd:DL d):Ctr Tryz.prog 79 [ntv n, .psl 1 (dls d)] [] (fun r o=>o=[]∧r= .bp (ShapeP n d)):=by
 refine Ctr.imp ?_
 refine fI 0 Tryz.func79 ?_
 have cC:=Check_ok n hn
 have hll:=lnl n.ln
 have hdl:=dls_len d
 have hd1:=hd.l
 (repeat' (conv=>whnf);first|refine aC ?_ ?_<;>intro<;>try omega|refine z2_T1 ?_|(refine aK [] cC ?_)|fail);all_goals try (conv=>whnf)
 all_goals try (exact⟨rfl,Imp.bl ⟨fun h=>(by cases h),fun h=>by have:=h.c;have:=h.l;omega⟩⟩)
 have hc:chkN n=0:=by omega
 have hl:d.length=n.ln.length:=by omega
 refine LoopOb.mk (Y:=Nat) (st:=fun i=>⟨[(22,i64 i),(21,i64 (dls d).length),(20, .psl 1 (dls d)),(2, .ptr 0 0)],[.box [.psl 1 (strs n.nm), .psl 5 (lns n.ln), .psl 8 (fls n.fl)]]⟩)
  (inv:=fun i=>i≤d.length∧(∀k,k<i→((d.getD k []).length :Int)=(n.ln.getD k ln0).n)∧∀k,k<i→∀j,j<(d.getD k []).length →-1≤(d.getD k []).getD j 0∧(d.getD k []).getD j 0≤400) (fun i=>d.length-i) 0 [0] ⟨by omega,by omega,by omega⟩ (by(exact aL)) ?_
 rintro i ⟨hi,hv1,hv2⟩
 (repeat' (conv=>whnf);first|refine z2_T1 ?_|fail);all_goals try (conv=>whnf)
 refine CondOb.mk (fun hlt=>?_) (fun hlt=>?_)
 ·have hil:i<d.length:=by omega
  have hg:=dls_get hil
  have hg2:=lng (l:=n.ln) (i:=i) (by omega)
  have hrl:=hd.r i
  have hS:(ShapeP n d→((d.getD i []).length :Int)=(n.ln.getD i ln0).n ∧∀j,j<(d.getD i []).length →-1≤(d.getD i []).getD j 0∧(d.getD i []).getD j 0≤400):=fun h=>⟨h.r i hil,h.b i hil⟩
  have hst:((d.getD i []).length :Int)=(n.ln.getD i ln0).n →(∀j,j<(d.getD i []).length →-1≤(d.getD i []).getD j 0∧(d.getD i []).getD j 0≤400)→(∀k,k<i+1→((d.getD k []).length :Int)=(n.ln.getD k ln0).n)∧∀k,k<i+1→∀j,j<(d.getD k []).length →-1≤(d.getD k []).getD j 0∧(d.getD k []).getD j 0≤400:=fun h1 h2=>by
   refine⟨fun k hk=>?_,fun k hk=>?_⟩
   ·by_cases e:k=i
    ·rw [e];exact h1
    ·exact hv1 k (by omega)
   ·by_cases e:k=i
    ·rw [e];exact h2
    ·exact hv2 k (by omega)
  clear hv1 hv2
  generalize n.ln.getD i ln0=ll at*
  generalize d.getD i []=row at*
  have hil2:=ints_len row
  (repeat' (conv=>whnf);first|refine⟨i,_,rfl,hg2,?_⟩|refine⟨i,_,rfl,hg,?_⟩|refine aC ?_ ?_<;>intro<;>try omega|refine z2_T1 ?_|fail);all_goals try (conv=>whnf)
  ·exact⟨rfl,Imp.bl ⟨fun h=>(by cases h),fun h=>by have:=(hS h).1;omega⟩⟩
  have hrn:(row.length:Int)=ll.n:=by omega
  refine LoopOb.mk (Y:=Nat) (st:=fun j=>⟨[(38,i64 j),(37,i64 (ints row).length),(36, .psl 1 (ints row)),(22,i64 i),(21,i64 (dls d).length),(20, .psl 1 (dls d)),(2, .ptr 0 0)],[.box [.psl 1 (strs n.nm), .psl 5 (lns n.ln), .psl 8 (fls n.fl)]]⟩)
   (inv:=fun j=>j≤row.length∧∀k,k<j→-1≤row.getD k 0∧row.getD k 0≤400) (fun j=>row.length-j) 0 [0] ⟨by omega,by omega⟩ (by(exact aL)) ?_
  rintro j ⟨hj,hw⟩
  (repeat' (conv=>whnf);first|refine z2_T1 ?_|fail);all_goals try (conv=>whnf)
  refine CondOb.mk (fun hlt2=>?_) (fun hlt2=>?_)
  ·have hjl:j<row.length:=by omega
   have hS2:ShapeP n d→-1≤row.getD j 0∧row.getD j 0≤400:=fun h=>(hS h).2 j hjl
   have hst2: -1≤row.getD j 0∧row.getD j 0≤400→∀k,k<j+1→-1≤row.getD k 0∧row.getD k 0≤400:=fun h k hk=>by
    by_cases e:k=j
    ·rw [e];exact h
    ·exact hw k (by omega)
   (repeat' (conv=>whnf);first|refine aC ?_ ?_<;>intro<;>try omega|refine z2_T1 ?_|fail);all_goals try (conv=>whnf)
   all_goals first
    |exact⟨j+1,[0],⟨by omega,hst2 (by omega)⟩,by omega,by(exact aL)⟩
    |exact⟨rfl,Imp.bl ⟨fun h=>(by cases h),fun h=>by have:=hS2 h;omega⟩⟩
  ·have e:j=row.length:=by omega
   subst e
   obtain⟨s1,s2⟩:=hst hrn hw
   (repeat' (conv=>whnf);first|refine aC ?_ ?_<;>intro<;>try omega|refine z2_T1 ?_|fail);all_goals try (conv=>whnf)
   exact⟨i+1,[0],⟨by omega,s1,s2⟩,by omega,by(exact aL)⟩
 ·have e:i=d.length:=by omega
  subst e
  (repeat' (conv=>whnf);first|refine aC ?_ ?_<;>intro<;>try omega|refine z2_T1 ?_|fail);all_goals try (conv=>whnf)
  exact⟨rfl,Imp.bl ⟨fun _=>⟨hc,hl,hv1,hv2⟩,fun _=>rfl⟩⟩
theorem hopOf_ok (n:Nt) (hn:NL n) (f h:Int):Ctr Tryz.prog 104 [ntv n,i64 f,i64 h] [] (fun r o=>o=[]∧r= .bp (HopP n f h)):=by
 refine Ctr.imp ?_
 refine fI 0 Tryz.func104 ?_
 have hfl:=fll n.fl
 have h1:=hn.fl
 by_cases hf:0≤f∧f<n.fl.length
 ·obtain⟨i,rfl⟩:=Int.eq_ofNat_of_zero_le hf.1
  have hil:i<n.fl.length:=by omega
  have hg:=flg hil
  have hP:HopP n i h↔0≤h∧h<(n.fl.getD i fl0).rt.length :=by
   unfold HopP;rw [Int.toNat_natCast];constructor
   ·rintro⟨_,_,a,b⟩;exact⟨a,b⟩
   ·rintro⟨a,b⟩;exact⟨by omega,by omega,a,b⟩
  have hrl:=(hn.fs _ (Go.Np.getD_in (d:=fl0) hil)).2.1
  generalize n.fl.getD i fl0=g at*
  have hil2:=ints_len g.rt
  (repeat' (conv=>whnf);first|refine⟨i,_,rfl,hg,?_⟩|refine aC ?_ ?_<;>intro<;>try omega|refine z2_T1 ?_|fail);all_goals try (conv=>whnf)
  all_goals first
   |exact⟨rfl,Imp.bl ⟨fun h=>(by cases h),fun h=>by have:=hP.1 h;omega⟩⟩
   |exact⟨rfl,Imp.bp ⟨fun h=>hP.2 ⟨by omega,by omega⟩,fun h=>by have:=hP.1 h;omega⟩⟩
   |trace_state
 ·(repeat' (conv=>whnf);first|refine aC ?_ ?_<;>intro<;>try omega|refine z2_T1 ?_|fail);all_goals try (conv=>whnf)
  all_goals first
   |exact⟨rfl,Imp.bl ⟨fun h=>(by cases h),fun h=>absurd ⟨h.1,h.2.1⟩ hf⟩⟩
   |exact⟨rfl,Imp.bp ⟨fun h=>by omega,fun h=>absurd ⟨h.1,h.2.1⟩ hf⟩⟩
   |(exfalso;omega)
   |trace_state
end
end Go.Proofs.YtaomhdljcdadaaaGreat
section
namespace Go.Mc
structure Vi where
 k:Nat
 h:Int
 x:Int
def optL (i:Nat) (h:Int):Option Int→List Vi
 |none=>[]
 |some x=>[⟨i,h,x⟩]
def hopL (g:Nat→Nat→Option Int) (i:Nat):Nat→List Vi
 |0=>[]
 |h+1=>hopL g i h++optL i h (g i h)
def allL (g:Nat→Nat→Option Int) (e:Nat→Option Int) (m:Nat→Nat):Nat→List Vi
 |0=>[]
 |i+1=>allL g e m i++(hopL g i (m i)++optL i (-1) (e i))
variable {g:Nat→Nat→Option Int} {e:Nat→Option Int} {m:Nat→Nat}
theorem hopL_pre {i h : Nat} : ∀ {k : Nat}, h ≤ k → ∃ r, hopL g i k = hopL g i h ++ r
  | 0, hk => by obtain rfl : h = 0 := by omega
                exact ⟨[], by simp⟩
  | k + 1, hk => by
    by_cases c : h = k + 1
    · subst c; exact ⟨[], by simp⟩
    · obtain ⟨r, hr⟩ := hopL_pre (i := i) (h := h) (k := k) (by omega)
      exact ⟨r ++ optL i k (g i k), by rw [hopL, hr, List.append_assoc]⟩
theorem allL_pre {i : Nat} : ∀ {k : Nat}, i ≤ k → ∃ r, allL g e m k = allL g e m i ++ r
  | 0, hk => by obtain rfl : i = 0 := by omega
                exact ⟨[], by simp⟩
  | k + 1, hk => by
    by_cases c : i = k + 1
    · subst c; exact ⟨[], by simp⟩
    · obtain ⟨r, hr⟩ := allL_pre (i := i) (k := k) (by omega)
      exact ⟨r ++ (hopL g k (m k) ++ optL k (-1) (e k)), by rw [allL, hr, List.append_assoc]⟩
theorem at_hop {N i h:Nat} {x:Int} (hi:i<N) (hh:h<m i) (hx:g i h=some x):∃r,allL g e m N=(allL g e m i++hopL g i h)++⟨i,h,x⟩::r:=by
 obtain⟨r1,h1⟩:=allL_pre (g:=g) (e:=e) (m:=m) (i:=i+1) (k:=N) hi
 obtain⟨r2,h2⟩:=hopL_pre (g:=g) (i:=i) (h:=h+1) (k:=m i) hh
 rw [hopL,hx]at h2
 exact⟨r2++optL i (-1) (e i)++r1,by rw [h1,allL,h2];simp [optL]⟩
theorem at_end {N i:Nat} {x:Int} (hi:i<N) (hx:e i=some x):∃r,allL g e m N=(allL g e m i++hopL g i (m i))++⟨i,-1,x⟩::r:=by
 obtain⟨r1,h1⟩:=allL_pre (g:=g) (e:=e) (m:=m) (i:=i+1) (k:=N) hi
 exact⟨r1,by rw [h1,allL,hx];simp [optL]⟩
theorem hopL_mem {i:Nat} {v:Vi}:∀{k:Nat},v∈hopL g i k→v.k=i∧∃h:Nat,h<k∧v.h=h∧g i h=some v.x
 |0,hv=>by cases hv
 |k+1,hv=>by
  rw [hopL,List.mem_append]at hv
  rcases hv with hv|hv
  ·obtain⟨a,h,b,c⟩:=hopL_mem hv
   exact⟨a,h,by omega,c⟩
  ·cases hg:g i k with
   |none=>rw [hg]at hv;cases hv
   |some x=>
    rw [hg,optL,List.mem_singleton]at hv
    subst hv
    exact⟨rfl,k,by omega,rfl,hg⟩
theorem allL_mem {v:Vi}:∀{N:Nat},v∈allL g e m N→v.k<N∧((v.h= -1∧e v.k=some v.x)∨∃h:Nat,h<m v.k∧v.h=h∧g v.k h=some v.x)
 |0,hv=>by cases hv
 |N+1,hv=>by
  rw [allL,List.mem_append,List.mem_append]at hv
  rcases hv with hv|hv|hv
  ·obtain⟨a,b⟩:=allL_mem hv
   exact⟨by omega,b⟩
  ·obtain⟨a,h,b,c,d⟩:=hopL_mem hv
   rw [a]
   exact⟨by omega, .inr ⟨h,b,c,d⟩⟩
  ·cases he:e N with
   |none=>rw [he]at hv;cases hv
   |some x=>
    rw [he,optL,List.mem_singleton]at hv
    subst hv
    exact⟨by simp only;omega, .inl ⟨rfl,he⟩⟩
theorem pick_at {α:Type} {L P r:List α} {v:α} (h:L=P++v::r):L[P.length]? =some v∧L.take P.length=P∧L.take (P.length+1)=P++[v]:=by
 subst h
 refine⟨by simp,by simp,?_⟩
 rw [List.take_append,List.take_of_length_le (by omega),show P.length+1-P.length=1 by omega];rfl
end Go.Mc
end
