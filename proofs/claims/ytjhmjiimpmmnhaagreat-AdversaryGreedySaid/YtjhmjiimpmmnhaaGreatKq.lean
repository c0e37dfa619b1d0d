/- Lemmas of this seat. Conditions: as stated. -/
import Derived.Test.YtjhmjiimpmmnhaaGreatKn
import Derived.Test.YtjhmjiimpmmnhaaGreatR1
import Derived.Test.YtjhmjiimpmmnhaaGreatPl
set_option linter.unusedVariables false
set_option linter.unusedSimpArgs false
set_option maxHeartbeats 2000000
set_option maxRecDepth 4000
namespace Go.Proofs.YtjhmjiimpmmnhaaGreat
section
open Go.Sx Go.Cv
theorem mulB {a b A B:Int} (ha:0≤a) (ha2:a≤A) (hb:0≤b) (hb2:b≤B):0≤a*b∧a*b≤A*B:=
 ⟨Int.mul_nonneg ha hb,Int.mul_le_mul ha2 hb2 hb (by omega)⟩
theorem kAt_idx {vs:List Int} {p t:Nat} (hp:1≤p) (hn:p≤vs.length) (ht:vs.length≤t):((t-vs.length)/p+1)*p≤t∧t-((t-vs.length)/p+1)*p<vs.length∧vs.length-p≤t-((t-vs.length)/p+1)*p∧(t-vs.length)/p+1≤t+1:=by
 have h1:=Nat.div_add_mod (t-vs.length) p
 have h2:=Nat.mod_lt (t-vs.length) hp
 have h3:=Nat.div_le_self (t-vs.length) p
 rw [Nat.add_mul,Nat.one_mul,Nat.mul_comm]
 omega
theorem z1_Kq {G H:Prop} (k:H) (h:H→G:=by first|exact fun r=>aS r|exact fun r=>aG r|exact fun r=>aD r|exact fun r=>aH r|exact fun r=>aP_Vc r|exact fun r=>aI r|exact fun r=>aJ r|exact fun r=>aW (.qs [0,1,2,3,4,5,6,7,8,9,10,11,12,13,14,15] .nil) r):G:=h k
theorem kAt_ok (vs:List Int) (p:Nat) (q:Int) (h:VF vs p q) (t:Nat) (ht:t≤1048576):Ctr Tryz.prog 29 [crv vs p q,i64 t] [] (fun r o=>o=[]∧r=i64 (val vs p q t)):=by
 refine fI 0 Tryz.func29 ?_
 have n1:=h.n1
 have n2:=h.n2
 have p1:=h.p1
 have p2:=h.p2
 have pn:=h.pn
 have q0:=h.q0
 have q1:=h.q1
 have hil:=ints_len vs
 (repeat' (conv=>whnf);first|refine aC ?_ ?_<;>intro<;>try omega|refine z1_Kq ?_|fail);all_goals try (conv=>whnf)
 ·exact⟨rfl,by rw [val_lt (by omega)];rfl⟩
 ·have hlast:=h.v (vs.length-1) (by omega)
  have hI:vs.getD (vs.length-1) 0=INF:=by
   have hx:=(by assumption:4611686018427387904≤vs.getD (((ints vs).length :Int)-1).toNat 0)
   rw [hil,show((vs.length:Int)-1).toNat =vs.length-1 by omega]at hx
   simp only [INF]at hlast⊢;omega
  have:=h.val_inf hI hI t (by omega)
  exact⟨rfl,by rw [this];rfl⟩
 have htn:vs.length≤t:=by omega
 obtain⟨i1,i2,i3,i4⟩:=kAt_idx p1 pn htn
 have hd:((t:Int)-((ints vs).length :Int)+p).tdiv p=(((t-vs.length)/p+1:Nat):Int):=by
  rw [Int.tdiv_eq_ediv_of_nonneg (by omega),show(t:Int)-((ints vs).length :Int)+p=((t-vs.length:Nat):Int)+1*p by rw [hil];omega,Int.add_mul_ediv_right _ _ (by omega)]
  push_cast;rfl
 have hlast:=h.v (vs.length-1) (by omega)
 have hf:vs.getD (vs.length-1) 0≠INF:=by
  have hx:=(by assumption:¬4611686018427387904≤vs.getD (((ints vs).length :Int)-1).toNat 0)
  rw [hil,show((vs.length:Int)-1).toNat =vs.length-1 by omega]at hx
  simp only [INF];omega
 have hne:=h.noinf hf _ i2
 have hv:val vs p q t=vs.getD (t-((t-vs.length)/p+1)*p) 0+(((t-vs.length)/p+1:Nat):Int)*q:=by
  unfold val
  rw [if_neg (by omega),if_neg (h.noinf hf _ i2)]
 have hvb:=h.v (t-((t-vs.length)/p+1)*p) i2
 rw [hv]
 refine⟨by omega,?_⟩
 rw [hd]
 generalize (t-vs.length)/p+1=k at*
 have hkp:((k*p:Nat):Int)=(k:Int)*p:=by push_cast;rfl
 generalize k*p=m at*
 have b:=mulB (a:=(k:Int)) (b:=q) (A:=1048577) (B:=1073741824) (by omega) (by omega) (by omega) (by omega)
 (repeat' (conv=>whnf);first|refine aC ?_ ?_<;>intro<;>try omega|refine z1_Kq ?_|refine ArOb.fits (by rw [←hkp];omega) ?_|fail);all_goals try (conv=>whnf)
 all_goals rw [show((t:Int)-(k:Int)*p).toNat =t-m by rw [←hkp];omega]
 all_goals refine ArOb.fits (by simp only [INF]at hvb hne;omega) ?_
 (repeat' (conv=>whnf);first|refine aC ?_ ?_<;>intro<;>try omega|refine z1_Kq ?_|fail);all_goals try (conv=>whnf)
 all_goals exact⟨rfl,rfl⟩
end
end Go.Proofs.YtjhmjiimpmmnhaaGreat
section
namespace Go.Gd
structure GL (V:Nat→Int) (s:Int) (n:Nat) (o:Int) (ts:List Int):Prop where
 l:ts.length≤n
 b:∀i,i<ts.length→o≤ts.getD i 0∧ts.getD i 0≤380
 m:∀i k,k≤i→i<ts.length→ts.getD k 0≤ts.getD i 0
 k:∀i k,k≤i→i<ts.length→((i:Int)-k+1)*s≤V (ts.getD i 0-ts.getD k 0+1).toNat
 f:∀i,i<ts.length→lstT o ts i≤ts.getD i 0
 w:∀i,i<ts.length→lstT o ts i<ts.getD i 0→V 1<s∨∃k,k<i∧V (ts.getD i 0-ts.getD k 0).toNat <((i:Int)-k+1)*s
theorem gl_ok {V:Nat→Int} {s:Int} {n:Nat} {o:Int} {ts:List Int} {t:Int} (g:GrC V s n o ts t):GL V s n o ts:=by
 refine⟨g.l,fun i hi=>⟨g.lo hi,g.le i hi⟩,fun i k=>g.mono i k,fun i k hk hi=>?_,g.ge,fun i hi hlt=>?_⟩
 ·have h:=(rmP_take hi _).1 (g.rm i hi)
  by_cases e:k=i
  ·subst e
   rw [show((k:Int)-k+1)*s=s by rw [show(k:Int)-k+1=1 by omega,Int.one_mul],show(ts.getD k 0-ts.getD k 0+1).toNat =1 by omega]
   exact h.1
  ·have:=h.2 k (by omega)
   rw [show ts.getD i 0+1-ts.getD k 0=ts.getD i 0-ts.getD k 0+1 by omega]at this
   exact this
 ·have h:=g.no i hi (ts.getD i 0-1) (by omega) (by omega)
  rw [rmP_take hi]at h
  by_cases h1:s≤V 1
  ·refine .inr (Classical.byContradiction fun hn=>h ⟨h1,fun k hk=>?_⟩)
   refine Int.not_lt.1 fun hlt=>hn ⟨k,hk,?_⟩
   rw [show ts.getD i 0-1+1-ts.getD k 0=ts.getD i 0-ts.getD k 0 by omega]at hlt
   exact hlt
  ·exact .inl (by omega)
end Go.Gd
end
