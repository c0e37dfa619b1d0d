/- Lemmas of this seat. Conditions: as stated. -/
import Derived.Test.YtjhmjiimpmmnhaaGreatTy
import Derived.Test.YtjhmjiimpmmnhaaGreatPl
set_option linter.unusedVariables false
set_option linter.unusedSimpArgs false
set_option maxHeartbeats 2000000
set_option maxRecDepth 4000
namespace Go.Proofs.YtjhmjiimpmmnhaaGreat
section
open Go.Sx Go.Cv
theorem aP_R1 {A B K:Prop} (k:K) (a:A:=by(simp only [zA,zT,zD,zC,zN,ints_len,zR,Go.Cv.vals_len];omega)) (b:B:=by(simp only [zA,zT,zD,zC,zN,ints_len,zR,Go.Cv.vals_len];omega)):(A∧B)∧K:=⟨⟨a,b⟩,k⟩
theorem z2_R1 {G H:Prop} (k:H) (h:H→G:=by first|exact fun r=>aS r|exact fun r=>aG r|exact fun r=>aD r|exact fun r=>aH r|exact fun r=>aP_R1 r|exact fun r=>aI r|exact fun r=>aJ r|exact fun r=>aW (.qs [0,1,2,3,4,5] .nil) r):G:=h k
theorem z1_R1 {G H:Prop} (k:H) (h:H→G:=by first|exact fun r=>aS r|exact fun r=>aG r|exact fun r=>aD r|exact fun r=>aH r|exact fun r=>aP_R1 r|exact fun r=>aI r|exact fun r=>aJ r):G:=h k
theorem Gcd_ok (a b:Int) (ha:0≤a) (hb:0≤b):Ctr Tryz.prog 189 [i64 a,i64 b] [] (fun r o=>o=[]∧r=i64 (Int.gcd a b)):=by
 refine fI 0 Tryz.func189 ?_
 (repeat' (conv=>whnf);first|refine aC ?_ ?_<;>intro _|refine z1_R1 ?_|fail);all_goals try (conv=>whnf)
 obtain⟨a,rfl⟩:=Int.eq_ofNat_of_zero_le ha
 obtain⟨b,rfl⟩:=Int.eq_ofNat_of_zero_le hb
 refine LoopOb.mk (Y:=Nat×Nat) (st:=fun y=>⟨[(0,i64 y.1),(1,i64 y.2)],[]⟩)
  (inv:=fun y=>Nat.gcd y.1 y.2=Nat.gcd a b) (fun y=>y.2) (a,b) [] rfl (by(exact aL)) ?_
 rintro⟨x,y⟩ hg
 replace hg:Nat.gcd x y=Nat.gcd a b:=hg
 (repeat' (conv=>whnf);first|refine aC ?_ ?_<;>intro _|refine z2_R1 ?_|fail);all_goals try (conv=>whnf)
 ·have hy0:(y:Int)≠0:=by assumption
  have e:(x:Int).tmod y=(x%y:Nat):=by rw [Int.tmod_eq_emod_of_nonneg (by omega)];rfl
  refine⟨hy0,?_⟩
  (repeat' (conv=>whnf);first|refine aC ?_ ?_<;>intro _|refine z2_R1 ?_|fail);all_goals try (conv=>whnf)
  refine⟨(y,x%y),[],?_,Nat.mod_lt _ (by omega),by(exact aL)⟩
  rw [←hg]
  simp only
  rw [Nat.gcd_comm x y,Nat.gcd_rec y x,Nat.gcd_comm]
 ·have hy0:¬(y:Int)≠0:=by assumption
  have:y=0:=by omega
  subst this
  refine⟨rfl,?_⟩
  have:Int.gcd (a:Int) b=Nat.gcd a b:=rfl
  rw [this,←hg]
  simp [oneS]
theorem lcm_eq (a b:Nat) (ha:1≤a):a/Nat.gcd a b*b=Nat.lcm a b:=by
 rw [Nat.lcm,Nat.div_mul_right_comm (Nat.gcd_dvd_left a b)]
theorem Lcm_ok (a b:Nat) (ha:1≤a) (hb:1≤b) (ha2:a≤1000000) (hb2:b≤1000000):Ctr Tryz.prog 196 [i64 a,i64 b] [] (fun r o=>o=[]∧r=i64 (Nat.lcm a b)):=by
 refine fI 0 Tryz.func196 ?_
 (repeat' (conv=>whnf);first|refine aC ?_ ?_<;>intro _|refine z1_R1 ?_|fail);all_goals try (conv=>whnf)
 refine aM [] (Gcd_ok _ _ (by omega) (by omega)) rfl rfl ?_
 rintro _ _ ⟨rfl,rfl⟩
 (repeat' (conv=>whnf);first|refine aC ?_ ?_<;>intro _|refine z1_R1 ?_|fail);all_goals try (conv=>whnf)
 have hg:1≤Nat.gcd a b:=Nat.gcd_pos_of_pos_left b (by omega)
 have e0:Int.gcd (a:Int) b=Nat.gcd a b:=rfl
 rw [e0]
 refine⟨by omega,?_⟩
 have e:(a:Int).tdiv (Nat.gcd a b:Nat)=(a/Nat.gcd a b:Nat):=by
  rw [Int.tdiv_eq_ediv_of_nonneg (by omega)];rfl
 have h1:=Nat.div_le_self a (Nat.gcd a b)
 have h2:a/Nat.gcd a b*b≤1000000*1000000:=Nat.mul_le_mul (by omega) hb2
 rw [e]
 have e2:a/Nat.gcd a b*b=Nat.lcm a b:=lcm_eq a b ha
 generalize a/Nat.gcd a b=d at*
 have h3:((d:Int)*(b:Int))=((d*b:Nat):Int):=by push_cast;rfl
 have h4:(0:Int)≤(d:Int)*(b:Int)∧(d:Int)*(b:Int)≤1000000000000:=by rw [h3];omega
 (repeat' (conv=>whnf);first|refine aC ?_ ?_<;>intro _|refine z1_R1 ?_|fail);all_goals try (conv=>whnf)
 refine⟨rfl,?_⟩
 simp only [oneS]
 rw [←e2,h3]
structure Bd (vs:List Int) (p:Nat) (q:Int):Prop where
 p1:1≤p
 pn:p≤vs.length
 n:vs.length≤2000
 q0:0≤q
 q1:q≤1099511627776
 v:∀j,0≤vs.getD j 0∧vs.getD j 0≤4611686018427387904
theorem at_idx {n p t:Nat} (ht:n≤t) (hp:1≤p) (hp2:p≤n):((t-n)/p+1)*p≤t∧t-((t-n)/p+1)*p<n∧n-p≤t-((t-n)/p+1)*p:=by
 have h1:=Nat.div_add_mod (t-n) p
 have h2:=Nat.mod_lt (t-n) hp
 have h3:((t-n)/p+1)*p=p*((t-n)/p)+p:=by rw [Nat.add_mul,Nat.one_mul,Nat.mul_comm]
 omega
theorem mul_bd {a b A B:Int} (ha:0≤a) (ha2:a≤A) (hb:0≤b) (hb2:b≤B):0≤a*b∧a*b≤A*B:=
 ⟨Int.mul_nonneg ha hb,Int.mul_le_mul ha2 hb2 hb (by omega)⟩
theorem At_ok (vs:List Int) (p:Nat) (q t:Int) (hb:Bd vs p q) (ht:0≤t) (ht2:t≤1048576):
  Ctr Tryz.prog 94 [crv vs p q,i64 t] [] (fun r o=>o=[]∧r=i64 (val vs p q t.toNat)):=by
 obtain⟨p1,pn,hn,q0,q1,hv⟩:=hb
 obtain⟨t,rfl⟩:=Int.eq_ofNat_of_zero_le ht
 simp only [Int.toNat_natCast]
 refine fI 0 Tryz.func94 ?_
 (repeat' (conv=>whnf);first|refine aC ?_ ?_<;>intro _|refine z1_R1 ?_|fail);all_goals try (conv=>whnf)
 all_goals try (simp only [ints_len]at*)
 all_goals try omega
 ·have hle:vs.length≤t:=by omega
  have e1:((t:Int)-vs.length).tdiv p=((t-vs.length)/p:Nat):=by
   rw [Int.tdiv_eq_ediv_of_nonneg (by omega)]
   push_cast [Int.ofNat_sub hle];rfl
  have hx:=at_idx hle p1 pn
  have hd:(t-vs.length)/p≤t-vs.length:=Nat.div_le_self _ _
  have hval:val vs p q t=if vs.getD (t-((t-vs.length)/p+1)*p) 0=INF then INF else vs.getD (t-((t-vs.length)/p+1)*p) 0+((t-vs.length)/p+1:Nat)*q:=by
   simp only [val];rw [if_neg (by omega)]
  rw [hval,e1]
  generalize (t-vs.length)/p=k at*
  have e3:((k:Int)+1)*(p:Int)=((k+1)*p:Nat):=by push_cast;rfl
  have hkq:=mul_bd (a:=(k:Int)+1) (b:=q) (A:=1048577) (B:=1099511627776) (by omega) (by omega) (by omega) (by omega)
  have hv1:=hv ((t:Int)-((k:Int)+1)*p).toNat
  refine⟨by omega,?_⟩
  (repeat' (conv=>whnf);first|refine aC ?_ ?_<;>intro _|refine z1_R1 ?_|fail);all_goals try (conv=>whnf)
  all_goals rw [show((t:Int)-((k:Int)+1)*p).toNat =t-(k+1)*p by omega]at*
  ·exact⟨rfl,by simp only [oneS];rw [if_pos (by assumption)]⟩
  ·exact⟨rfl,by simp only [oneS];rw [if_neg (by assumption)];push_cast;rfl⟩
 ·exact⟨trivial,by simp only [oneS];rw [val_lt (by omega)]⟩
end
section
open Go.Sx Go.Np
abbrev lnv (l:Ln):List SV:=[i64 l.k,i64 l.c,i64 l.n, .psl 1 (ints l.w), .psl 1 (ints l.s)]
abbrev flv (f:Fl):List SV:=[.str f.nm, .psl 1 (ints f.rt),i64 f.cl,i64 f.lo,i64 f.hi, .psl 1 (ints f.v),i64 f.p,i64 f.q]
abbrev lns (l:List Ln):List (List SV):=l.map lnv
abbrev fls (l:List Fl):List (List SV):=l.map flv
abbrev strs (l:List ByteArray):List (List SV):=l.map fun s=>[.str s]
abbrev ntv (n:Nt):SV:= .agg [.psl 1 (strs n.nm), .psl 5 (lns n.ln), .psl 8 (fls n.fl)]
theorem lnl (l:List Ln):(lns l).length =l.length:=by simp [lns]
theorem fll (l:List Fl):(fls l).length =l.length:=by simp [fls]
theorem stl (l:List ByteArray):(strs l).length =l.length:=by simp [strs]
theorem lng {l:List Ln} {i:Nat} (h:i<l.length):(lns l)[i]? =some (lnv (l.getD i ln0)):=by simp [lns,h]
theorem flg {l:List Fl} {i:Nat} (h:i<l.length):(fls l)[i]? =some (flv (l.getD i fl0)):=by simp [fls,h]
theorem stg {l:List ByteArray} {i:Nat} (h:i<l.length):(strs l)[i]? =some [.str (l.getD i bs0)]:=by simp [strs,h]
def bb (s:ByteArray) (i:Nat):UInt8:=(s[i]?).getD 0
theorem bbg {s:ByteArray} {i:Nat} (h:i<s.size):s[i]? =some (bb s i):=by
 unfold bb;rw [getElem?_pos s i h];rfl
theorem ba_ne {s:ByteArray} (h:¬s=⟨#[]⟩):1≤s.size:=by
 rcases Nat.eq_zero_or_pos s.size with h0|h0
 ·refine absurd ?_ h
  cases s with|mk d=>simp only [ByteArray.size]at h0;rw [Array.eq_empty_of_size_eq_zero h0]
 ·exact h0
structure NL (n:Nt):Prop where
 nm:n.nm.length≤9223372036854775807
 ln:n.ln.length≤9223372036854775807
 fl:n.fl.length≤9223372036854775807
 ns:∀s∈n.nm,s.size≤9223372036854775807
 lw:∀l∈n.ln,l.w.length≤9223372036854775807∧l.s.length≤9223372036854775807
 fs:∀f∈n.fl,f.nm.size≤9223372036854775807∧f.rt.length≤9223372036854775807∧f.v.length≤9223372036854775807
theorem getD_in {α:Type} {l:List α} {d:α} {i:Nat} (h:i<l.length):l.getD i d∈l:=by
 rw [List.getD_eq_getElem?_getD,List.getElem?_eq_getElem h];exact List.getElem_mem h
end
section
open Go.Sx Go.Np Go.Cv
theorem z1_Vc {G H:Prop} (k:H) (h:H→G:=by first|exact fun r=>aS r|exact fun r=>aG r|exact fun r=>aD r|exact fun r=>aH r|exact fun r=>aP_R1 r|exact fun r=>aI r|exact fun r=>aJ r|exact fun r=>aW (.qs [0,1,2,3,4,5,6,7,8,9,10,11,12,13,14,15,16,17,18,19,20,21,22,23,24,25,26,27,28,29,30,31,32,33,34,35,36,37,38,39] .nil) r|exact fun r=>aW (.qs [0,1,2,3,4,5,6,7,8,9,10,11,12,13,14,15,16,17,18] .nil) r):G:=h k
theorem rCurve_ok (vs:List Int) (p i:Int):
  Ctr Tryz.prog 41 [crv vs p i] [] (fun r o=>o=[]∧r= .bp (ValidP vs p i)):=by
 refine Ctr.imp ?_
 refine fI 0 Tryz.func41 ?_
 (repeat' (conv=>whnf);first|refine aC ?_ ?_<;>intro _|refine z1_Vc ?_|fail);all_goals try (conv=>whnf)
 all_goals try (refine And.intro rfl (Imp.bl ⟨fun h=>(by cases h),fun h=>?_⟩);simp only [ints_len]at*;simp only [ValidP]at h;omega)
 rename_i h1 h2 h3 h4 h5 h6 h7
 simp only [ints_len]at h1 h2 h3 h4 h5 h6 h7
 refine LoopOb.mk (Y:=Nat) (st:=fun j=>⟨[(1, .ptr 0 0),(3, .num .i64 vs.length),(4, .num .i64 j)],[.box [.psl 1 (ints vs), .num .i64 p, .num .i64 i]]⟩)
  (inv:=fun j=>j≤vs.length∧(∀k<j,vs.getD k 0=4611686018427387904∨0≤vs.getD k 0∧vs.getD k 0≤1073741824)∧(∀k,k+1<j→vs.getD k 0≤vs.getD (k+1) 0)) (fun j=>vs.length-j) 0 [0] ?_ ?_ ?_
 ·simp
 ·(exact aL)
 ·rintro j ⟨hj,hv,hm⟩
  (repeat' (conv=>whnf);first|refine aC ?_ ?_<;>intro _|refine z1_Vc ?_|fail);all_goals try (conv=>whnf)
  all_goals try rw [show(↑j-1:Int).toNat =j-1 by omega]at*
  all_goals try (
   refine And.intro rfl (Imp.bl ⟨fun h=>(by cases h),fun h=>?_⟩)
   obtain⟨_,_,_,_,_,_,_,q1,q2,q3,_⟩:=h
   have q1:=q1 j
   have q2:=q2 (j-1)
   try rw [show j-1+1=j by omega]at q2
   try rw [show(vs.length-1:Int).toNat =vs.length-1 by omega]at*
   omega)
  all_goals try (
   refine⟨j+1,[0],⟨by omega,fun k hk=>?_,fun k hk=>?_⟩,by omega,?_⟩
   ·by_cases hkj:k=j
    ·subst hkj;omega
    ·exact hv k (by omega)
   ·by_cases hkj:k+1=j
    ·subst hkj;first|omega|(simp only [Nat.add_sub_cancel]at*;omega)
    ·exact hm k (by omega)
   ·(exact aL))
  all_goals have hjl:j=vs.length:=by omega
  all_goals subst hjl
  all_goals rw [show(vs.length-1:Int).toNat =vs.length-1 by omega]at*
  ·have hx2:vs.getD (vs.length-1) 0=4611686018427387904:=by assumption
   have hp:p=1:=by assumption
   exact⟨rfl,Imp.bp ⟨fun h=>⟨by omega,by omega,by omega,by omega,by omega,by omega,by omega,hv,hm,fun _=>⟨hp,h⟩,fun h'=>absurd hx2 h'⟩,fun h=>by obtain⟨_,_,_,_,_,_,_,_,_,q3,_⟩:=h;exact(q3 hx2).2⟩⟩
  ·have hx2:¬vs.getD (vs.length-1) 0=4611686018427387904:=by assumption
   have hq:=hv (vs.length-p).toNat (by omega)
   refine ArOb.fits (by omega) ?_
   (repeat' (conv=>whnf);first|refine aC ?_ ?_<;>intro _|refine z1_Vc ?_|fail);all_goals try (conv=>whnf)
   rw [show(vs.length-1:Int).toNat =vs.length-1 by omega]at*
   rw [show(vs.length-p:Int).toNat =vs.length-p.toNat by omega]at*
   exact⟨rfl,Imp.bp ⟨fun h=>⟨by omega,by omega,by omega,by omega,by omega,by omega,by omega,hv,hm,fun h'=>absurd h' hx2,fun _=>h⟩,fun h=>by obtain⟨_,_,_,_,_,_,_,_,_,_,q4⟩:=h;exact q4 hx2⟩⟩
theorem z2_Vc {G H:Prop} (k:H) (h:H→G:=by first|exact fun r=>aS r|exact fun r=>aG r|exact fun r=>aD r|exact fun r=>aH r|exact fun r=>aP_R1 r|exact fun r=>aI r|exact fun r=>aJ r|exact fun r=>aW (.qs [0,1,2,3,4,5,6,7,8,9,10,11,12,13] .nil) r):G:=h k
theorem curve_ok (vs:List Int) (p i:Int):
  Ctr Tryz.prog 39 [crv vs p i] [] (fun r o=>o=[]∧r= .bp (ValidP vs p i)):=by
 refine Ctr.imp ?_
 refine fI 0 Tryz.func39 ?_
 (repeat' (conv=>whnf);first|refine aC ?_ ?_<;>intro _|refine z2_Vc ?_|fail);all_goals try (conv=>whnf)
 all_goals try (refine And.intro rfl (Imp.bl ⟨fun h=>(by cases h),fun h=>?_⟩);simp only [ints_len]at*;simp only [ValidP]at h;omega)
 rename_i h1 h2 h3 h4 h5 h6 h7
 simp only [ints_len]at*
 have bd:∀j,j<vs.length→(∀k<j+1,vs.getD k 0=INF∨0≤vs.getD k 0∧vs.getD k 0≤1073741824)→True:=fun _ _ _=>trivial
 refine LoopOb.mk (Y:=Nat) (st:=fun j=>⟨[(45,i64 j),(44,i64 vs.length),(43, .psl 1 (ints vs)),(4,i64 (if j=0 then 0 else vs.getD (j-1) 0)),(3,i64 vs.length),(1, .ptr 0 0)],[.box [.psl 1 (ints vs), .num .i64 p, .num .i64 i]]⟩)
  (inv:=fun j=>j≤vs.length∧(∀k<j,vs.getD k 0=4611686018427387904∨0≤vs.getD k 0∧vs.getD k 0≤1073741824)∧(∀k,k+1<j→vs.getD k 0≤vs.getD (k+1) 0)) (fun j=>vs.length-j) 0 [0] ⟨by omega,fun k hk=>by omega,fun k hk=>by omega⟩ (by(exact aL)) ?_
 rintro j ⟨hj,hv,hm⟩
 have hlast:j≠0→vs.getD (j-1) 0=4611686018427387904∨0≤vs.getD (j-1) 0∧vs.getD (j-1) 0≤1073741824:=fun h=>hv (j-1) (by omega)
 (repeat' (conv=>whnf);first|refine aC ?_ ?_<;>intro _|refine z2_Vc ?_|fail);all_goals try (conv=>whnf)
 all_goals try (
  refine And.intro rfl (Imp.bl ⟨fun h=>(by cases h),fun h=>?_⟩)
  obtain⟨_,_,_,_,_,_,_,q1,q2,q3,_⟩:=h
  have q1:=q1 j
  have q2:=q2 (j-1)
  rcases Nat.eq_zero_or_pos j with h0|h0
  ·subst h0;simp only [if_true,Nat.zero_sub]at*;omega
  ·try rw [if_neg (show¬j=0 by omega)]at*
   rw [show j-1+1=j by omega]at q2
   omega)
 all_goals try (
  refine⟨j+1,[0],⟨by omega,fun k hk=>?_,fun k hk=>?_⟩,by omega,?_⟩
  ·by_cases hkj:k=j
   ·subst hkj
    rcases Nat.eq_zero_or_pos k with h0|h0
    ·subst h0;simp only [if_true]at*;omega
    ·rw [if_neg (show¬k=0 by omega)]at*;omega
   ·exact hv k (by omega)
  ·by_cases hkj:k+1=j
   ·subst hkj;rw [if_neg (show¬k+1=0 by omega)]at*;simp only [Nat.add_sub_cancel]at*;omega
   ·exact hm k (by omega)
  ·refine Le.mk (by kernel_rfl) ?_ ?_<;>repeat' (first|exact True.intro|refine And.intro ?_ ?_|exact Imp.refl _|exact Imp.any _|exact Imp.num (by omega)|exact rfl|exact Imp.num (by simp)))
 all_goals have hjl:j=vs.length:=by omega
 all_goals subst hjl
 all_goals rw [if_neg (show¬vs.length=0 by omega)]at*
 ·have hx2:vs.getD (vs.length-1) 0=4611686018427387904:=by assumption
  have hp:p=1:=by assumption
  exact⟨rfl,Imp.bp ⟨fun h=>⟨by omega,by omega,by omega,by omega,by omega,by omega,by omega,hv,hm,fun _=>⟨hp,h⟩,fun h'=>absurd hx2 h'⟩,fun h=>by obtain⟨_,_,_,_,_,_,_,_,_,q3,_⟩:=h;exact(q3 hx2).2⟩⟩
 ·have hx2:vs.getD (vs.length-1) 0=4611686018427387904:=by assumption
  refine⟨rfl,Imp.bl ⟨fun h=>(by cases h),fun h=>?_⟩⟩
  obtain⟨_,_,_,_,_,_,_,_,_,q3,_⟩:=h
  have:=(q3 hx2).1
  omega
 ·have hx2:¬vs.getD (vs.length-1) 0=4611686018427387904:=by assumption
  have hq:=hv (vs.length-p).toNat (by omega)
  refine ArOb.fits (by omega) ?_
  (repeat' (conv=>whnf);first|refine aC ?_ ?_<;>intro _|refine z2_Vc ?_|fail);all_goals try (conv=>whnf)
  rw [show(vs.length-p:Int).toNat =vs.length-p.toNat by omega]at*
  exact⟨rfl,Imp.bp ⟨fun h=>⟨by omega,by omega,by omega,by omega,by omega,by omega,by omega,hv,hm,fun h'=>absurd h' hx2,fun _=>h⟩,fun h=>by obtain⟨_,_,_,_,_,_,_,_,_,_,q4⟩:=h;exact q4 hx2⟩⟩
theorem rFinite_ok (vs:List Int) (p q:Int):Ctr Tryz.prog 101 [crv vs p q] [] (fun r o=>o=[]∧r= .bp (ValidP vs p q∧FinP vs)):=by
 refine Ctr.imp ?_
 refine fI 0 Tryz.func101 ?_
 (repeat' (conv=>whnf);first|refine aC ?_ ?_<;>intro _|refine z1_R1 ?_|fail);all_goals try (conv=>whnf)
 refine aK [] (rCurve_ok vs p q) ?_
 (repeat' (conv=>whnf);first|refine aC ?_ ?_<;>intro _|refine z1_R1 ?_|fail);all_goals try (conv=>whnf)
 ·have hv:ValidP vs p q:=by assumption
  have h1:=hv.1
  have h2:=hv.2.1
  (repeat' (conv=>whnf);first|refine aC ?_ ?_<;>intro _|refine z1_R1 ?_|fail);all_goals try (conv=>whnf)
  simp only [ints_len]
  rw [show((vs.length:Int)-1).toNat =vs.length-1 by omega]
  exact⟨by trivial,Imp.bp ⟨fun h=>⟨hv,h⟩,fun h=>h.2⟩⟩
 ·have hv:¬ValidP vs p q:=by assumption
  exact⟨rfl,Imp.bl ⟨fun h=>(by cases h),fun h=>absurd h.1 hv⟩⟩
theorem wFinite_ok (vs:List Int) (p q:Int) (h1:1≤vs.length) (h2:vs.length≤1000000):Ctr Tryz.prog 120 [crv vs p q] [] (fun r o=>o=[]∧r= .bp (FinP vs)):=by
 refine fI 0 Tryz.func120 ?_
 (repeat' (conv=>whnf);first|refine aC ?_ ?_<;>intro _|refine z1_R1 ?_|fail);all_goals try (conv=>whnf)
 simp only [ints_len]
 rw [show((vs.length:Int)-1).toNat =vs.length-1 by omega]
 exact⟨by trivial,rfl⟩
end
end Go.Proofs.YtjhmjiimpmmnhaaGreat
section
namespace Go.Gd
def rmP (V:Nat→Int) (s:Int) (ts:List Int) (t:Int):Prop:=∀i,i<ts.length+1→((ts.length:Int)+1-i)*s≤V (t+1-(ts++[t]).getD i 0).toNat
instance (V:Nat→Int) (s:Int) (ts:List Int) (t:Int):Decidable (rmP V s ts t):=by unfold rmP;infer_instance
def grd (V:Nat→Int) (s:Int) (n:Nat):Nat→List Int→Int→List Int
 |0,ts,_=>ts
 |f+1,ts,t=>if t≤380∧ts.length<n then(if rmP V s ts t then grd V s n f (ts++[t]) t else grd V s n f ts (t+1))else ts
def grM (n:Nat) (ts:List Int) (t:Int):Nat:=(381-t).toNat +(n-ts.length)
def gre (V:Nat→Int) (s:Int) (n:Nat) (ts:List Int) (t:Int):List Int:=grd V s n (grM n ts t) ts t
theorem gre_end {V:Nat→Int} {s:Int} {n:Nat} {ts:List Int} {t:Int} (h:¬(t≤380∧ts.length<n)):gre V s n ts t=ts:=by
 unfold gre
 cases grM n ts t with
 |zero=>rfl
 |succ f=>simp only [grd];rw [if_neg h]
theorem gre_yes {V:Nat→Int} {s:Int} {n:Nat} {ts:List Int} {t:Int} (h1:t≤380) (h2:ts.length<n) (h:rmP V s ts t):gre V s n ts t=gre V s n (ts++[t]) t:=by
 unfold gre
 have e:grM n ts t=grM n (ts++[t]) t+1:=by simp only [grM,List.length_append,List.length_cons,List.length_nil];omega
 rw [e];simp only [grd];rw [if_pos ⟨h1,h2⟩,if_pos h]
theorem gre_no {V:Nat→Int} {s:Int} {n:Nat} {ts:List Int} {t:Int} (h1:t≤380) (h2:ts.length<n) (h:¬rmP V s ts t):gre V s n ts t=gre V s n ts (t+1):=by
 unfold gre
 have e:grM n ts t=grM n ts (t+1)+1:=by simp only [grM];omega
 rw [e];simp only [grd];rw [if_pos ⟨h1,h2⟩,if_neg h]
def lstT (o:Int) (ts:List Int) (i:Nat):Int:=if i=0 then o else ts.getD (i-1) 0
structure GrC (V:Nat→Int) (s:Int) (n:Nat) (o:Int) (ts:List Int) (t:Int):Prop where
 l:ts.length≤n
 ge:∀i,i<ts.length→lstT o ts i≤ts.getD i 0
 le:∀i,i<ts.length→ts.getD i 0≤380
 rm:∀i,i<ts.length→rmP V s (ts.take i) (ts.getD i 0)
 no:∀i,i<ts.length→∀u,lstT o ts i≤u→u<ts.getD i 0→¬rmP V s (ts.take i) u
 tk:lstT o ts ts.length≤t
 nt:∀u,lstT o ts ts.length≤u→u<t→¬rmP V s ts u
theorem getD_app {ts:List Int} {t:Int} {i:Nat} (h:i<ts.length):(ts++[t]).getD i 0=ts.getD i 0:=by
 simp only [List.getD_eq_getElem?_getD];rw [List.getElem?_append_left h]
theorem getD_last {ts:List Int} {t:Int}:(ts++[t]).getD ts.length 0=t:=by
 simp [List.getD_eq_getElem?_getD]
theorem lstT_app {o:Int} {ts:List Int} {t:Int} {i:Nat} (h:i≤ts.length):lstT o (ts++[t]) i=lstT o ts i:=by
 unfold lstT;split
 ·rfl
 ·exact getD_app (by omega)
theorem GrC.zero {V:Nat→Int} {s:Int} {n:Nat} {o:Int}:GrC V s n o [] o:=by
 refine⟨by simp,?_,?_,?_,?_,by simp [lstT],fun u h1 h2=>?_⟩
 iterate 4 intro i hi;simp at hi
 simp [lstT]at h1;omega
theorem GrC.snoc {V:Nat→Int} {s:Int} {n:Nat} {o:Int} {ts:List Int} {t:Int} (g:GrC V s n o ts t) (h1:t≤380) (h2:ts.length<n) (h:rmP V s ts t):GrC V s n o (ts++[t]) t:=by
 have hl:(ts++[t]).length =ts.length+1:=by simp
 have tk:∀{i:Nat},i≤ts.length→(ts++[t]).take i=ts.take i:=fun hi=>List.take_append_of_le_length hi
 refine⟨by omega,fun i hi=>?_,fun i hi=>?_,fun i hi=>?_,fun i hi=>?_,?_,fun u hu hv=>?_⟩
 ·by_cases hi':i<ts.length
  ·rw [getD_app hi',lstT_app (by omega)];exact g.ge i hi'
  ·obtain rfl:i=ts.length:=by omega
   rw [getD_last,lstT_app (by omega)];exact g.tk
 ·by_cases hi':i<ts.length
  ·rw [getD_app hi'];exact g.le i hi'
  ·obtain rfl:i=ts.length:=by omega
   rw [getD_last];exact h1
 ·by_cases hi':i<ts.length
  ·rw [getD_app hi',tk (by omega)];exact g.rm i hi'
  ·obtain rfl:i=ts.length:=by omega
   rw [getD_last,tk (by omega),List.take_length];exact h
 ·by_cases hi':i<ts.length
  ·rw [getD_app hi',lstT_app (by omega),tk (by omega)];exact g.no i hi'
  ·obtain rfl:i=ts.length:=by omega
   rw [getD_last,lstT_app (by omega),tk (by omega),List.take_length];exact g.nt
 ·rw [hl];unfold lstT;rw [if_neg (by omega),Nat.add_sub_cancel,getD_last];omega
 ·rw [hl]at hu;unfold lstT at hu;rw [if_neg (by omega),Nat.add_sub_cancel,getD_last]at hu;omega
theorem GrC.next {V:Nat→Int} {s:Int} {n:Nat} {o:Int} {ts:List Int} {t:Int} (g:GrC V s n o ts t) (h:¬rmP V s ts t):GrC V s n o ts (t+1):=
 ⟨g.l,g.ge,g.le,g.rm,g.no,by have:=g.tk;omega,fun u h1 h2=>by
  by_cases e:u=t
  ·subst e;exact h
  ·exact g.nt u h1 (by omega)⟩
theorem gre_spec {V:Nat→Int} {s:Int} {n:Nat} {o:Int}:∀(k:Nat) {ts:List Int} {t:Int},grM n ts t=k→GrC V s n o ts t→∃u,GrC V s n o (gre V s n ts t) u∧((gre V s n ts t).length <n→380<u):=by
 intro k
 induction k with
 |zero=>
  intro ts t hk g
  have hn:¬(t≤380∧ts.length<n):=by simp only [grM]at hk;omega
  rw [gre_end hn];exact⟨t,g,fun h=>by omega⟩
 |succ k ih=>
  intro ts t hk g
  by_cases hn:t≤380∧ts.length<n
  ·by_cases hr:rmP V s ts t
   ·rw [gre_yes hn.1 hn.2 hr]
    exact ih (by simp only [grM,List.length_append,List.length_cons,List.length_nil]at hk⊢;omega) (g.snoc hn.1 hn.2 hr)
   ·rw [gre_no hn.1 hn.2 hr]
    exact ih (by simp only [grM]at hk⊢;omega) (g.next hr)
  ·rw [gre_end hn];exact⟨t,g,fun h=>by omega⟩
theorem gre_sp (V:Nat→Int) (s:Int) (n:Nat) (o:Int):∃u,GrC V s n o (gre V s n [] o) u∧((gre V s n [] o).length <n→380<u):=gre_spec _ rfl GrC.zero
theorem lstT_ge {o:Int} {ts:List Int} (hge:∀i,i<ts.length→lstT o ts i≤ts.getD i 0):∀i,i≤ts.length→o≤lstT o ts i:=by
 intro i
 induction i with
 |zero=>intro _;simp [lstT]
 |succ i ih=>
  intro hi
  have h1:=ih (by omega)
  have h2:=hge i (by omega)
  have h3:lstT o ts (i+1)=ts.getD i 0:=by simp [lstT]
  omega
theorem GrC.mono {V : Nat → Int} {s : Int} {n : Nat} {o : Int} {ts : List Int} {t : Int} (g : GrC V s n o ts t) : ∀ i k, k ≤ i → i < ts.length → ts.getD k 0 ≤ ts.getD i 0 := by
  intro i
  induction i with
  | zero => intro k hk _; obtain rfl : k = 0 := by omega
            exact Int.le_refl _
  | succ i ih =>
    intro k hk hi
    by_cases e : k = i + 1
    · subst e; exact Int.le_refl _
    · have h1 := ih k (by omega) (by omega)
      have h2 := g.ge (i + 1) hi
      simp [lstT] at h2
      simp only [List.getD_eq_getElem?_getD] at h1 ⊢
      omega
theorem GrC.lo {V:Nat→Int} {s:Int} {n:Nat} {o:Int} {ts:List Int} {t:Int} (g:GrC V s n o ts t) {i:Nat} (hi:i<ts.length):o≤ts.getD i 0:=by
 have:=lstT_ge g.ge i (by omega)
 have:=g.ge i hi
 omega
theorem GrC.bd {V:Nat→Int} {s:Int} {n:Nat} {o:Int} {ts:List Int} {t:Int} (g:GrC V s n o ts t) {x:Int} (hx:x∈ts):o≤x∧x≤380:=by
 obtain⟨i,hi,rfl⟩:=List.getElem_of_mem hx
 have h1:=g.lo hi
 have h2:=g.le i hi
 rw [List.getD_eq_getElem?_getD,List.getElem?_eq_getElem hi]at h1 h2
 exact⟨h1,h2⟩
end Go.Gd
end
