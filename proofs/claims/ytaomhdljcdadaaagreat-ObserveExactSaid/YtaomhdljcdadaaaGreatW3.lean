/- Lemmas of this seat. Conditions: as stated. -/
import Derived.Test.YtaomhdljcdadaaaGreatW1
set_option linter.unusedVariables false
set_option linter.unusedSimpArgs false
set_option maxRecDepth 4000
namespace Go.Proofs.YtaomhdljcdadaaaGreat
section
open Go.Sx Go.Cv
theorem WAt_ok (vs:List Int) (p:Nat) (q t:Int) (hb:Bd vs p q) (ht:0≤t) (ht2:t≤1048576):
  Ctr Tryz.prog 137 [crv vs p q,i64 t] [] (fun r o=>o=[]∧r=i64 (val vs p q t.toNat)):=by
 obtain⟨p1,pn,hn,q0,q1,hv⟩:=hb
 obtain⟨t,rfl⟩:=Int.eq_ofNat_of_zero_le ht
 simp only [Int.toNat_natCast]
 refine fI 0 Tryz.func137 ?_
 (repeat' (conv=>whnf);first|refine aC ?_ ?_<;>intro _|refine z2_T1 ?_|fail);all_goals try (conv=>whnf)
 all_goals try (simp only [ints_len]at*)
 all_goals try omega
 ·exact⟨trivial,by simp only [oneS];rw [val_lt (by omega)]⟩
 ·have hle:vs.length≤t:=by omega
  have e1:((t:Int)-vs.length).tdiv p=((t-vs.length)/p:Nat):=by
   rw [Int.tdiv_eq_ediv_of_nonneg (by omega)]
   push_cast [Int.ofNat_sub hle];rfl
  have hx:=at_idx hle p1 pn
  have hd:(t-vs.length)/p≤t-vs.length:=Nat.div_le_self _ _
  have hval:val vs p q t=if vs.getD (t-((t-vs.length)/p+1)*p) 0=INF then INF else vs.getD (t-((t-vs.length)/p+1)*p) 0+((t-vs.length)/p+1:Nat)*q:=by
   simp only [val];rw [if_neg (by omega)]
  rw [hval,e1]
  generalize (t-vs.length)/p=k at*
  have e3:((k:Int)+1)*(p:Int)=((k+1)*p:Nat):=by push_cast;rfl
  have hkq:=mul_bd (a:=(k:Int)+1) (b:=q) (A:=1048577) (B:=1099511627776) (by omega) (by omega) (by omega) (by omega)
  have hv1:=hv ((t:Int)-((k:Int)+1)*p).toNat
  refine⟨by omega,?_⟩
  (repeat' (conv=>whnf);first|refine aC ?_ ?_<;>intro _|refine z2_T1 ?_|fail);all_goals try (conv=>whnf)
  all_goals rw [show((t:Int)-((k:Int)+1)*p).toNat =t-(k+1)*p by omega]at*
  ·exact⟨rfl,by simp only [oneS];rw [if_pos (by assumption)];congr 1⟩
  ·exact⟨rfl,by simp only [oneS];rw [if_neg (by assumption)];push_cast;rfl⟩
theorem Clone_ok (l:List Int) (hl:l.length≤1000000):
  Ctr Tryz.prog 90 [.psl 1 (ints l)] [] (fun r o=>o=[]∧r= .psl 1 (ints l)):=by
 refine Ctr.imp ?_
 refine fI 0 Tryz.func90 ?_
 (repeat' (conv=>whnf);first|refine aC ?_ ?_<;>intro _|refine z2_T1 ?_|fail);all_goals try (conv=>whnf)
 by_cases hl0:l=[]
 ·subst hl0
  refine .unk (fun p=>?_)
  (repeat' (conv=>whnf);first|refine aC ?_ ?_<;>intro _|refine z1_T1 ?_|fail);all_goals try (conv=>whnf)
  ·refine .mk [.fz 1] ?_
   exact⟨rfl,Imp.refl _⟩
  ·refine .mk [.fz 2] ?_
   exact⟨rfl,Imp.refl _⟩
 ·refine .ne (by simpa using hl0) ?_
  (repeat' (conv=>whnf);first|refine aC ?_ ?_<;>intro _|refine z1_T1 ?_|fail);all_goals try (conv=>whnf)
  ·refine .mk [.fz 2] ?_
   exact⟨rfl,Imp.refl _⟩
theorem z3_W3 {G H:Prop} (k:H) (h:H→G:=by first|exact fun r=>aS r|exact fun r=>aG r|exact fun r=>aD r|exact fun r=>aH r|exact fun r=>aP_T1 r|exact fun r=>aI r|exact fun r=>aJ r|exact fun r=>aW (.qs [0,1,2,3,4,5,6,7,8,9,10,11,12,13] .nil) r):G:=h k
theorem CValid_ok (vs:List Int) (p i:Int) (hlv:vs.length≤140737488355328):
  Ctr Tryz.prog 147 [crv vs p i] [] (fun r o=>o=[]∧r= .bp (ValidP vs p i)):=by
 refine Ctr.imp ?_
 refine fI 0 Tryz.func147 ?_
 (repeat' (conv=>whnf);first|refine aC ?_ ?_<;>intro _|refine z3_W3 ?_|fail);all_goals try (conv=>whnf)
 all_goals try (refine And.intro rfl (Imp.bl ⟨fun h=>(by cases h),fun h=>?_⟩);simp only [ints_len]at*;simp only [ValidP]at h;omega)
 rename_i h1 h2 h3 h4 h5 h6 h7
 simp only [ints_len]at*
 have bd:∀j,j<vs.length→(∀k<j+1,vs.getD k 0=INF∨0≤vs.getD k 0∧vs.getD k 0≤1073741824)→True:=fun _ _ _=>trivial
 refine LoopOb.mk (Y:=Nat) (st:=fun j=>⟨[(45,i64 j),(44,i64 vs.length),(43, .psl 1 (ints vs)),(4,i64 (if j=0 then 0 else vs.getD (j-1) 0)),(3,i64 vs.length),(1, .ptr 0 0)],[.box [.psl 1 (ints vs), .num .i64 p, .num .i64 i]]⟩)
  (inv:=fun j=>j≤vs.length∧(∀k<j,vs.getD k 0=4611686018427387904∨0≤vs.getD k 0∧vs.getD k 0≤1073741824)∧(∀k,k+1<j→vs.getD k 0≤vs.getD (k+1) 0)) (fun j=>vs.length-j) 0 [0] ⟨by omega,fun k hk=>by omega,fun k hk=>by omega⟩ (by(exact aL)) ?_
 rintro j ⟨hj,hv,hm⟩
 have hlast:j≠0→vs.getD (j-1) 0=4611686018427387904∨0≤vs.getD (j-1) 0∧vs.getD (j-1) 0≤1073741824:=fun h=>hv (j-1) (by omega)
 (repeat' (conv=>whnf);first|refine aC ?_ ?_<;>intro _|refine z3_W3 ?_|fail);all_goals try (conv=>whnf)
 all_goals try (
  refine And.intro rfl (Imp.bl ⟨fun h=>(by cases h),fun h=>?_⟩)
  obtain⟨_,_,_,_,_,_,_,q1,q2,q3,_⟩:=h
  have q1:=q1 j
  have q2:=q2 (j-1)
  rcases Nat.eq_zero_or_pos j with h0|h0
  ·subst h0;simp only [if_true,Nat.zero_sub]at*;omega
  ·try rw [if_neg (show¬j=0 by omega)]at*
   rw [show j-1+1=j by omega]at q2
   omega)
 all_goals try (
  refine⟨j+1,[0],⟨by omega,fun k hk=>?_,fun k hk=>?_⟩,by omega,?_⟩
  ·by_cases hkj:k=j
   ·subst hkj
    rcases Nat.eq_zero_or_pos k with h0|h0
    ·subst h0;simp only [if_true]at*;omega
    ·rw [if_neg (show¬k=0 by omega)]at*;omega
   ·exact hv k (by omega)
  ·by_cases hkj:k+1=j
   ·subst hkj;rw [if_neg (show¬k+1=0 by omega)]at*;simp only [Nat.add_sub_cancel]at*;omega
   ·exact hm k (by omega)
  ·refine Le.mk (by kernel_rfl) ?_ ?_<;>repeat' (first|exact True.intro|refine And.intro ?_ ?_|exact Imp.refl _|exact Imp.any _|exact Imp.num (by omega)|exact rfl|exact Imp.num (by simp)))
 all_goals have hjl:j=vs.length:=by omega
 all_goals subst hjl
 all_goals rw [if_neg (show¬vs.length=0 by omega)]at*
 ·have hx2:vs.getD (vs.length-1) 0=4611686018427387904:=by assumption
  have hp:p=1:=by assumption
  exact⟨rfl,Imp.bp ⟨fun h=>⟨by omega,by omega,by omega,by omega,by omega,by omega,by omega,hv,hm,fun _=>⟨hp,h⟩,fun h'=>absurd hx2 h'⟩,fun h=>by obtain⟨_,_,_,_,_,_,_,_,_,q3,_⟩:=h;exact(q3 hx2).2⟩⟩
 ·have hx2:vs.getD (vs.length-1) 0=4611686018427387904:=by assumption
  refine⟨rfl,Imp.bl ⟨fun h=>(by cases h),fun h=>?_⟩⟩
  obtain⟨_,_,_,_,_,_,_,_,_,q3,_⟩:=h
  have:=(q3 hx2).1
  omega
 ·have hx2:¬vs.getD (vs.length-1) 0=4611686018427387904:=by assumption
  have hq:=hv (vs.length-p).toNat (by omega)
  refine ArOb.fits (by omega) ?_
  (repeat' (conv=>whnf);first|refine aC ?_ ?_<;>intro _|refine z3_W3 ?_|fail);all_goals try (conv=>whnf)
  rw [show(vs.length-p:Int).toNat =vs.length-p.toNat by omega]at*
  exact⟨rfl,Imp.bp ⟨fun h=>⟨by omega,by omega,by omega,by omega,by omega,by omega,by omega,hv,hm,fun h'=>absurd h' hx2,fun _=>h⟩,fun h=>by obtain⟨_,_,_,_,_,_,_,_,_,_,q4⟩:=h;exact q4 hx2⟩⟩
theorem vf_bd {vs:List Int} {p:Nat} {q:Int} (h:VF vs p q):∀t,t≤vs.length→0≤val vs p q t∧val vs p q t≤4611686018427387904:=by
 intro t ht
 refine⟨h.nonneg t,?_⟩
 have n1:=h.n1
 have p1:=h.p1
 have pn:=h.pn
 by_cases hlt:t<vs.length
 ·rw [val_lt hlt];have:=h.v t hlt;simp only [INF]at this;omega
 ·have e:=h.per (vs.length-p) (by omega)
  rw [show vs.length-p+p=t by omega,val_lt (t:=vs.length-p) (by omega)]at e
  rw [e]
  have h1:=h.v (vs.length-p) (by omega)
  have h2:=h.q1
  by_cases hf:vs.getD (vs.length-1) 0=INF
  ·have:=(h.inf hf).2;simp only [INF]at h1;omega
  ·have:=h.noinf hf (vs.length-p) (by omega);simp only [INF]at h1 this;omega
theorem build_norm {vs:List Int} {p:Nat} {q:Int} (h:VF vs p q) {x:List Int×Int×Int×Int} (hx:BuildP (val vs p q) (vs.length-p+p) x):NormP vs p q x.1 x.2.1 x.2.2.1 x.2.2.2:=by
 have n1:=h.n1
 have p1:=h.p1
 have pn:=h.pn
 have n2:=h.n2
 have hN:vs.length-p+p=vs.length:=by omega
 rw [hN]at hx
 rcases hx with⟨m,hm,hi,hk,hc⟩|⟨hk,ws,p',q',hnf,hl,hc⟩
 ·have hmi:vs.getD m 0=INF:=by rw [←val_lt (p:=p) (q:=q) hm];exact hi
  have hf:vs.getD (vs.length-1) 0=INF:=by
   have h4:=h.mono m (vs.length-1) (by omega) (by omega)
   have:=h.v (vs.length-1) (by omega)
   rw [hmi]at h4
   simp only [INF]at*
   omega
  have hnf:NF (val vs p q) (vals (val vs p q) (m+1)) 1 0:=NF.inf (h.val_inf hf hmi) hk
  rcases hc with⟨hbad,rfl⟩|⟨_,_,rfl⟩
  ·exfalso
   rw [vals_len]at hbad
   rcases hbad with hbad|⟨j,hj,h1,h2⟩
   ·omega
   ·rw [vals_get hj]at h1 h2
    rw [val_lt (by omega)]at h1 h2
    have:=h.v j (by omega)
    simp only [INF]at*
    omega
  ·exact .inl ⟨rfl,p,1,rfl,rfl,h,hnf⟩
 ·obtain⟨hv,_⟩:=hnf.vf h
  have h1:=hv.p2
  have h2:=hv.q1
  rcases hc with⟨hbad,rfl⟩|⟨_,_,hc⟩
  ·omega
  rcases hc with⟨hbad,rfl⟩|⟨_,_,rfl⟩
  ·exfalso
   rcases hbad with hbad|⟨j,hj,h3,h4⟩
   ·omega
   ·have:=hv.v j hj
    simp only [INF]at*
    omega
  ·exact .inl ⟨rfl,p,p',rfl,rfl,h,hnf⟩
theorem NormalC_ok (vs:List Int) (p:Nat) (q:Int) (t:Nat) (hb:Bd vs p q) (ht2:t≤1048576):
  Ctr Tryz.prog 197 [i64 t, .pptr [.psl 1 (ints vs),i64 p,i64 q]] [] (fun r o=>o=[]∧r=i64 (val vs p q t)):=by
 refine fI 0 Tryz.func197 ?_
 (repeat' (conv=>whnf);first|refine aC ?_ ?_<;>intro _|refine z2_T1 ?_|fail);all_goals try (conv=>whnf)
 refine aM [] (WAt_ok _ _ _ _ hb (by omega) (by omega)) rfl rfl ?_
 rintro _ _ ⟨rfl,rfl⟩
 (repeat' (conv=>whnf);first|refine aC ?_ ?_<;>intro _|refine z2_T1 ?_|fail);all_goals try (conv=>whnf)
 exact⟨rfl,by simp [oneS]⟩
theorem z5_W3 {G H:Prop} (k:H) (h:H→G:=by first|exact fun r=>aS r|exact fun r=>aG r|exact fun r=>aD r|exact fun r=>aP_T1 r|exact fun r=>aI r|exact fun r=>aJ r|exact fun r=>aW (.qs [0,1,3,4,5,6] (.l 2 [6,4] (.l 7 [] (.qs [8,9] (.l 10 [] (.qs [11] .nil) .no)) .no) .no)) r):G:=h k
theorem z4_W3 {G H:Prop} (k:H) (h:H→G:=by first|exact fun r=>aS r|exact fun r=>aG r|exact fun r=>aD r|exact fun r=>aH r|exact fun r=>aP_T1 r|exact fun r=>aI r|exact fun r=>aJ r|exact fun r=>aW (.qs [0,1,3,4,5,6] (.l 2 [6,4] (.l 7 [] (.qs [8,9] (.l 10 [] (.qs [11] .nil) .no)) .no) .no)) r):G:=h k
theorem CNormal_ok (vs:List Int) (p q:Int) (hlv:vs.length≤140737488355328):
  Ctr Tryz.prog 180 [crv vs p q] [] (fun r o=>∃x:List Int×Int×Int×Int,NormP vs p q x.1 x.2.1 x.2.2.1 x.2.2.2∧o=[]∧r=crvE x):=by
 refine Ctr.impE ?_
 refine fI 0 Tryz.func180 ?_
 (repeat' (conv=>whnf);first|refine aC ?_ ?_<;>intro _|refine z2_T1 ?_|fail);all_goals try (conv=>whnf)
 refine aK [] (CValid_ok vs p q hlv) ?_
 (repeat' (conv=>whnf);first|refine aC ?_ ?_<;>intro _|refine z2_T1 ?_|fail);all_goals try (conv=>whnf)
 ·have hv:¬ValidP vs p q:=by assumption
  exact⟨([],0,0,1), .inr ⟨hv,rfl,rfl,rfl,rfl⟩,rfl,Imp.tup ⟨imp_zero,Imp.refl _,trivial⟩⟩
 ·have hv:ValidP vs p q:=Classical.not_not.1 (by assumption)
  obtain⟨p0,rfl,hf⟩:=hv.vf
  refine aK [] (Clone_ok vs (by have:=hf.n2;omega)) ?_
  (repeat' (conv=>whnf);first|refine aC ?_ ?_<;>intro _|refine z4_W3 ?_|fail);all_goals try (conv=>whnf)
  refine aK [] (Start_ok vs p0 q hf.pn (by have:=hf.n2;omega)) ?_
  (repeat' (conv=>whnf);first|refine aC ?_ ?_<;>intro _|refine z5_W3 ?_|fail);all_goals try (conv=>whnf)
  refine .mk [.fb 0] ?_
  refine CallOb.mk [] (Build_ok 197 (.pptr [.psl 1 (ints vs),i64 p0,i64 q]) (val vs p0 q) (vs.length-p0) p0 q hf.p1 (by have:=hf.n2;have:=hf.pn;omega) hf.q0 (by have:=hf.q1;omega) (fun t ht=>vf_bd hf t (by have:=hf.pn;omega))
   (fun t ht=>NormalC_ok vs p0 q t (bd_of hf) (by have:=hf.n2;have:=hf.pn;omega)) (fun _=>hf.per)) rfl ?_ rfl rfl ?_
  ·exact⟨Imp.fn ⟨Imp.shut rfl,trivial⟩,Imp.refl _,Imp.refl _,Imp.refl _,trivial⟩
  rintro _ _ ⟨x,hx,rfl,rfl⟩
  (repeat' (conv=>whnf);first|refine aC ?_ ?_<;>intro _|refine z2_T1 ?_|fail);all_goals try (conv=>whnf)
  exact⟨x,build_norm hf hx,rfl,Imp.refl _⟩
end
section
open Go.Sx Go.Cv
theorem Build2_ok (g:Nat) (c c2:SV) (F:Nat→Int) (s n:Nat) (inc:Int) (hn:1≤n) (hN:s+n≤2000) (hi:0≤inc) (hi2:inc≤1099511627776)
  (hF:∀t,t≤s+n→0≤F t∧F t≤4611686018427387904) (hcall:∀t,t<s+n→Ctr Tryz.prog g [i64 t,c,c2] [] (fun r o=>o=[]∧r=i64 (F t)))
  (hper:(∀t,t<s+n→F t≠INF)→Per F s n inc):
  Ctr Tryz.prog 138 [.fn g [.shut c, .shut c2],i64 s,i64 n,i64 inc] [] (fun r o=>∃x:List Int×Int×Int×Int,BuildP F (s+n) x∧o=[]∧r=crvE x):=by
 refine Ctr.impE ?_
 refine fI 0 Tryz.func138 ?_
 (repeat' (conv=>whnf);first|refine aC ?_ ?_<;>intro _|refine z2_T1 ?_|fail);all_goals try (conv=>whnf)
 refine⟨s+n,s+n,by push_cast;rfl,by push_cast;rfl,Nat.le_refl _,⟨by simp only;omega,by omega⟩,?_⟩
 (repeat' (conv=>whnf);first|refine aC ?_ ?_<;>intro _|refine z2_T1 ?_|fail);all_goals try (conv=>whnf)
 refine LoopOb.mk (Y:=Nat) (st:=fun t=>⟨[(0, .fn g [.shut c, .shut c2]),(1,i64 s),(2,i64 n),(3,i64 inc),(8, .ptr 0 0),(10, .vec 1),(19,i64 ((s+n:Nat):Int)),(20,i64 t)],[.box [.nil,i64 0,i64 0], .vec 1 (ints (rowsAt F t (s+n)))]⟩)
  (inv:=fun t=>t≤s+n∧∀k<t,F k≠INF) (fun t=>s+n-t) 0 [0,1] ⟨by omega,fun k h=>by omega⟩
  (by refine Le.mk (by kernel_rfl) ?_ ?_<;>repeat' (first|exact True.intro|refine And.intro ?_ ?_|exact Imp.refl _|exact Imp.any _|exact Imp.num (by simp)|exact rfl|exact(rowsAt_zero _ _).symm)) ?_
 rintro t ⟨h1,h2⟩
 (repeat' (conv=>whnf);first|refine aC ?_ ?_<;>intro _|refine z1_T1 ?_|fail);all_goals try (conv=>whnf)
 ·refine .mk [] ?_
  refine CallOb.mk [] (hcall t (by omega)) rfl ⟨Imp.refl _,Imp.unshut _,Imp.unshut _,trivial⟩ rfl rfl ?_
  rintro _ _ ⟨rfl,rfl⟩
  (repeat' (conv=>whnf);first|refine aC ?_ ?_<;>intro _|refine z1_T1 ?_|fail);all_goals try (conv=>whnf)
  have hl:(rowsAt F t (s+n)).length =s+n:=rowsAt_len F h1
  refine⟨t,rfl,by rw [ints_len];omega,?_⟩
  (repeat' (conv=>whnf);first|refine aC ?_ ?_<;>intro _|refine z1_T1 ?_|fail);all_goals try (conv=>whnf)
  refine⟨_,ints_get (by omega),?_⟩
  (repeat' (conv=>whnf);first|refine aC ?_ ?_<;>intro _|refine z1_T1 ?_|fail);all_goals try (conv=>whnf)
  have hset:=rowsAt_set F (t:=t) (N:=s+n) (by omega)
  have hl1:(rowsAt F (t+1) (s+n)).length =s+n:=rowsAt_len F (by omega)
  rw [hset]
  refine⟨t,rfl,by rw [ints_len];omega,?_⟩
  (repeat' (conv=>whnf);first|refine aC ?_ ?_<;>intro _|refine z1_T1 ?_|fail);all_goals try (conv=>whnf)
  refine⟨_,ints_get (by omega),?_⟩
  rw [rowsAt_get F (show t<t+1 by omega)]
  (repeat' (conv=>whnf);first|refine aC ?_ ?_<;>intro _|refine z1_T1 ?_|fail);all_goals try (conv=>whnf)
  ·have hINF:F t=INF:=by assumption
   refine .mk [.fz 1] ?_
   (repeat' (conv=>whnf);first|refine aC ?_ ?_<;>intro _|refine z1_T1 ?_|fail);all_goals try (conv=>whnf)
   refine⟨t+1,by push_cast;rfl,?_⟩
   refine⟨⟨by omega,by rw [ints_len];omega⟩,?_⟩
   rw [rowsAt_take]
   (repeat' (conv=>whnf);first|refine aC ?_ ?_<;>intro _|refine z2_T1 ?_|fail);all_goals try (conv=>whnf)
   refine aM [] (Ending_ok (vals F (t+1)) (by rw [vals_len];omega) (by rw [vals_len];omega)) rfl rfl ?_
   rintro _ _ ⟨x,hx,rfl,rfl⟩
   (repeat' (conv=>whnf);first|refine aC ?_ ?_<;>intro _|refine z2_T1 ?_|fail);all_goals try (conv=>whnf)
   exact⟨x, .inl ⟨t,by omega,hINF,h2,hx⟩,rfl,Imp.refl _⟩
  ·have hne:¬F t=INF:=by assumption
   refine .mk [] ?_
   refine⟨t+1,[0,1],⟨by omega,fun k hk=>?_⟩,by omega,by(exact aL)⟩
   by_cases hkt:k=t
   ·subst hkt;exact hne
   ·exact h2 k (by omega)
 have htN:t=s+n:=by omega
 subst htN
 rw [rowsAt_full]
 have hp:=hper h2
 refine .mk [.fz 1] ?_
 (repeat' (conv=>whnf);first|refine aC ?_ ?_<;>intro _|refine z1_T1 ?_|fail);all_goals try (conv=>whnf)
 refine⟨s,rfl,?_⟩
 refine⟨⟨by rw [ints_len,vals_len];omega,by omega⟩,?_⟩
 have ev:List.drop s (List.take (ints (vals F (s+n))).length (ints (vals F (s+n))))=ints ((vals F (s+n)).drop s):=by
  rw [List.take_length,ints_drop]
 rw [ev]
 (repeat' (conv=>whnf);first|refine aC ?_ ?_<;>intro _|refine z2_T1 ?_|fail);all_goals try (conv=>whnf)
 have hdl:((vals F (s+n)).drop s).length =n:=by rw [List.length_drop,vals_len];omega
 have hdg:∀j,j<n→((vals F (s+n)).drop s).getD j 0=F (s+j):=by
  intro j hj
  rw [List.getD_eq_getElem?_getD,List.getElem?_drop,←List.getD_eq_getElem?_getD,vals_get (by omega)]
 refine aM [] (least_ok ((vals F (s+n)).drop s) inc F s (by omega) (by omega) hi hi2 (fun j=>by
  by_cases hj:j<n
  ·rw [hdg j hj];exact hF _ (by omega)
  ·rw [List.getD_eq_getElem?_getD,List.getElem?_eq_none (by omega)];simp) (fun j hj=>hdg j (by omega)) (by rw [hdl];exact hp)) rfl rfl ?_
 rintro _ _ ⟨p,⟨g1,g2,g3,g4⟩,rfl,rfl⟩
 rw [hdl]at g2 g3 g4
 have hmin:=Fits.min hn hp g4
 have hpq:=Fits.per hn hp g3
 have hQp:=mul_bd (a:=inc) (b:=(p:Int)) (A:=1099511627776) (B:=2000) (by omega) (by omega) (by omega) (by omega)
 have hd:=tdiv_bd (a:=inc*p) (b:=(n:Int)) (by omega) (by omega)
 (repeat' (conv=>whnf);first|refine aC ?_ ?_<;>intro _|refine z2_T1 ?_|fail);all_goals try (conv=>whnf)
 refine⟨by omega,?_⟩
 rw [hd.1]
 (repeat' (conv=>whnf);first|refine aC ?_ ?_<;>intro _|refine z2_T1 ?_|fail);all_goals try (conv=>whnf)
 generalize hq:inc*(p:Int)/(n:Int)=q at*
 have hq0:0≤q:=hd.2.1
 have hq1:q≤2199023255552000:=by omega
 refine LoopOb.mk (Y:=Nat) (st:=fun u=>⟨[(1,i64 u),(8, .ptr 0 0),(10, .psl 1 (ints (vals F (s+n)))),(12,i64 p),(13,i64 q)],[.box [.nil,i64 0,i64 0]]⟩)
  (inv:=fun u=>u≤s∧Per F u p q) (fun u=>u) s [0] ⟨by omega,hpq⟩ (by(exact aL)) ?_
 rintro u ⟨g5,g6⟩
 have c1:=hF (u-1) (by omega)
 have c2:=hF (u-1+p) (by omega)
 have key:∀k,k<s+n→(vals F (s+n)).getD k 0=F k:=fun k hk=>vals_get hk
 have hcut:u+p≤s+n→List.drop 0 (List.take (u+p) (ints (vals F (s+n))))=ints (vals F (u+p)):=by
  intro h
  rw [List.drop_zero,ints_take]
  congr 1
  apply List.ext_getElem
  ·rw [List.length_take,vals_len,vals_len];omega
  ·intro i h1 h2;simp [vals]
 replace hcut:=hcut (by omega)
 (repeat' (conv=>whnf);first|refine aC ?_ ?_<;>intro _|refine z3_W2 ?_|fail);all_goals try (conv=>whnf)
 ·have hu:0<u:=by omega
  refine⟨u-1,_,by omega,ints_get (by rw [vals_len];omega),?_⟩
  rw [key _ (by omega)]
  (repeat' (conv=>whnf);first|refine aC ?_ ?_<;>intro _|refine z3_W2 ?_|fail);all_goals try (conv=>whnf)
  refine⟨u-1+p,_,by omega,ints_get (by rw [vals_len];omega),?_⟩
  rw [key _ (by omega)]
  (repeat' (conv=>whnf);first|refine aC ?_ ?_<;>intro _|refine z3_W2 ?_|fail);all_goals try (conv=>whnf)
  ·refine .mk [] ?_
   have he:F (u-1)+q=F (u-1+p):=by assumption
   exact⟨u-1,[0],⟨by omega,g6.pred he.symm⟩,by omega,by(exact aL)⟩
  all_goals have hms:MinS F u p q:=minS_of (.inr (fun h=>absurd h.symm (by assumption)))
  ·refine .mk [] ?_
   exact⟨([],0,0,3), .inr ⟨h2,vals F (u+p),p,q,⟨u,g1,g6,hmin,hms,rfl⟩,by rw [vals_len];omega, .inl ⟨.inl (by omega),rfl⟩⟩,rfl,Imp.tup ⟨imp_zero,Imp.refl _,trivial⟩⟩
  ·refine .mk [] ?_
   exact⟨([],0,0,3), .inr ⟨h2,vals F (u+p),p,q,⟨u,g1,g6,hmin,hms,rfl⟩,by rw [vals_len];omega, .inl ⟨.inr (by omega),rfl⟩⟩,rfl,Imp.tup ⟨imp_zero,Imp.refl _,trivial⟩⟩
  ·refine⟨u+p,by push_cast;rfl,⟨by omega,by rw [ints_len,vals_len];omega⟩,?_⟩
   rw [hcut]
   (repeat' (conv=>whnf);first|refine aC ?_ ?_<;>intro _|refine z2_T1 ?_|fail);all_goals try (conv=>whnf)
   refine aM [] (checked_ok (vals F (u+p)) p q (by rw [vals_len];omega) (by rw [vals_len];omega)) rfl rfl ?_
   rintro _ _ ⟨x,hx,rfl,rfl⟩
   (repeat' (conv=>whnf);first|refine aC ?_ ?_<;>intro _|refine z2_T1 ?_|fail);all_goals try (conv=>whnf)
   exact⟨x, .inr ⟨h2,vals F (u+p),p,q,⟨u,g1,g6,hmin,hms,rfl⟩,by rw [vals_len];omega, .inr ⟨by omega,by omega,hx⟩⟩,rfl,Imp.refl _⟩
 all_goals have hms:MinS F u p q:=minS_of (.inl (by omega))
 ·refine .mk [] ?_
  exact⟨([],0,0,3), .inr ⟨h2,vals F (u+p),p,q,⟨u,g1,g6,hmin,hms,rfl⟩,by rw [vals_len];omega, .inl ⟨.inl (by omega),rfl⟩⟩,rfl,Imp.tup ⟨imp_zero,Imp.refl _,trivial⟩⟩
 ·refine .mk [] ?_
  exact⟨([],0,0,3), .inr ⟨h2,vals F (u+p),p,q,⟨u,g1,g6,hmin,hms,rfl⟩,by rw [vals_len];omega, .inl ⟨.inr (by omega),rfl⟩⟩,rfl,Imp.tup ⟨imp_zero,Imp.refl _,trivial⟩⟩
 ·refine⟨u+p,by push_cast;rfl,⟨by omega,by rw [ints_len,vals_len];omega⟩,?_⟩
  rw [hcut]
  (repeat' (conv=>whnf);first|refine aC ?_ ?_<;>intro _|refine z2_T1 ?_|fail);all_goals try (conv=>whnf)
  refine aM [] (checked_ok (vals F (u+p)) p q (by rw [vals_len];omega) (by rw [vals_len];omega)) rfl rfl ?_
  rintro _ _ ⟨x,hx,rfl,rfl⟩
  (repeat' (conv=>whnf);first|refine aC ?_ ?_<;>intro _|refine z2_T1 ?_|fail);all_goals try (conv=>whnf)
  exact⟨x, .inr ⟨h2,vals F (u+p),p,q,⟨u,g1,g6,hmin,hms,rfl⟩,by rw [vals_len];omega, .inr ⟨by omega,by omega,hx⟩⟩,rfl,Imp.refl _⟩
end
end Go.Proofs.YtaomhdljcdadaaaGreat
