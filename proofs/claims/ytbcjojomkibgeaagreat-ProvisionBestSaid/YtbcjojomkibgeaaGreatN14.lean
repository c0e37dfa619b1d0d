/- Lemmas of this seat. Conditions: as stated. -/
import Derived.Test.YtbcjojomkibgeaaGreatN13
set_option linter.unusedVariables false
set_option linter.unusedSimpArgs false
set_option maxHeartbeats 2000000
set_option maxRecDepth 4000
namespace Go.Proofs.YtbcjojomkibgeaaGreat
open Go.Sx Go.Np Go.Cv
def rr (a s m t:Nat):List Int:=(List.range t).map fun j=>(((a+j*s)%m:Nat):Int)
theorem rr_len {a s m t:Nat}:(rr a s m t).length =t:=by simp [rr]
theorem rr_get {a s m t j:Nat} (h:j<t):(rr a s m t).getD j 0=((a+j*s)%m:Nat):=by simp [rr,List.getD_eq_getElem?_getD,h]
theorem rr_succ {a s m t:Nat}:rr a s m (t+1)=rr a s m t++[(((a+t*s)%m:Nat):Int)]:=by simp [rr,List.range_succ]
theorem rr_nd0:∀m:Fin 5,∀a:Fin 5,∀s:Fin 5,∀j:Fin 3,∀i:Fin 3,(1≤m.val∧a.val<m.val∧(s.val=1∨s.val+1=m.val)∧i.val<j.val∧j.val<m.val)→(a.val+i.val*s.val)%m.val≠(a.val+j.val*s.val)%m.val:=by decide+kernel
theorem rr_nd {m a s j i:Nat} (hm:1≤m) (h4:m≤4) (ha:a<m) (hs:s=1∨s+1=m) (hij:i<j) (hj:j<m) (hj3:j<3):(a+i*s)%m≠(a+j*s)%m:=
 rr_nd0 ⟨m,by omega⟩ ⟨a,by omega⟩ ⟨s,by omega⟩ ⟨j,hj3⟩ ⟨i,by omega⟩ ⟨hm,ha,hs,hij,hj⟩
theorem rr_mem {a s m t:Nat} {x:Int} (hm:1≤m) (h:x∈rr a s m t):0≤x∧x<m:=by
 unfold rr at h
 obtain⟨j,_,rfl⟩:=List.mem_map.1 h
 have:=Nat.mod_lt (a+j*s) (show 0<m by omega)
 omega
theorem md_nn {x n:Int} (h:0≤x) (hn:1≤n):md x n=x%n:=by
 have e:x.tmod n=x%n:=Int.tmod_eq_emod_of_nonneg h
 unfold md
 rw [e,if_neg (by have:=Int.emod_nonneg x (show n≠0 by omega);omega)]
theorem at_step {a s m t:Nat}:((((a+t*s)%m:Nat):Int)+s)%m=(((a+(t+1)*s)%m:Nat):Int):=by
 rw [Nat.add_mul,Nat.one_mul,←Nat.add_assoc]
 push_cast
 rw [Int.emod_add_emod]
theorem z2_N14 {G H:Prop} (k:H) (h:H→G:=by first|exact fun r=>aS r|exact fun r=>aG r|exact fun r=>aD r|exact fun r=>aP_Ks r|exact fun r=>aI r|exact fun r=>aJ r|exact fun r=>aW (.qs [0,1,2,3] (.l 4 [2] (.qs [5,6,7] (.l 8 [] .nil .no)) .no)) r|exact fun r=>aW (.qs [0,1,2,3,4,5,6,7,8,9,10,11,12,13,14] .nil) r):G:=h k
theorem z1_N14 {G H:Prop} (k:H) (h:H→G:=by first|exact fun r=>aS r|exact fun r=>aG r|exact fun r=>aD r|exact fun r=>aH r|exact fun r=>aP_Ks r|exact fun r=>aI r|exact fun r=>aJ r|exact fun r=>aW (.qs [0,1,2,3] (.l 4 [2] (.qs [5,6,7] (.l 8 [] .nil .no)) .no)) r|exact fun r=>aW (.qs [0,1,2,3,4,5,6,7,8,9,10,11,12,13,14] .nil) r):G:=h k
theorem Flow_ok (L:List Int) (k:Nat) (hL:L.length≤2000) (hk:k≤2000) (nm:List ByteArray) (ls:List Ln) (fl:List Fl) (s:ByteArray) (c:Nat) (hc:1≤c∧c≤2) (hm:1≤ls.length∧ls.length≤4):
  Ctr Tryz.prog 31 [.ptr 0 0, .agg [.psl 1 (strs nm), .psl 5 (lns ls), .vec 1], .str s,i64 c] [src L k, .vec 8 (fls fl)] (fun r o=>∃x:Fl×Nat,(FlG ls.length c x.1∧x.1.nm=s∧x.2≤2000)∧o=[src L x.2, .vec 8 (fls fl)]∧r=fv x.1):=by
 refine Ctr.impE ?_
 refine fI 2 Tryz.func31 ?_
 have hll:=lnl ls
 (repeat' (conv=>whnf);first|refine aC ?_ ?_<;>intro<;>try omega|refine z1_N14 ?_|fail);all_goals try (conv=>whnf)
 refine aM [0] (N_ok L k hL hk c (by omega) (by omega)) rfl rfl ?_
 rintro _ _ ⟨⟨cl,k1⟩,⟨cl1,cl2,hk1⟩,rfl,rfl⟩
 dsimp only at cl1 cl2 hk1⊢
 (repeat' (conv=>whnf);first|refine aC ?_ ?_<;>intro<;>try omega|refine z1_N14 ?_|fail);all_goals try (conv=>whnf)
 refine aM [0] (Contract_ok L k1 hL hk1) rfl rfl ?_
 rintro _ _ ⟨⟨⟨b,p,q⟩,k2⟩,⟨⟨b1,b2⟩,⟨p1,p2⟩,⟨q1,q2⟩,hk2⟩,rfl,rfl⟩
 dsimp only at b1 b2 p1 p2 q1 q2 hk2⊢
 (repeat' (conv=>whnf);first|refine aC ?_ ?_<;>intro<;>try omega|refine z1_N14 ?_|fail);all_goals try (conv=>whnf)
 refine aM [0] (Range_ok L k2 hL hk2 1 3 (by omega) (by omega) (by omega)) rfl rfl ?_
 rintro _ _ ⟨⟨lo,k3⟩,⟨lo1,lo2,hk3⟩,rfl,rfl⟩
 dsimp only at lo1 lo2 hk3⊢
 (repeat' (conv=>whnf);first|refine aC ?_ ?_<;>intro<;>try omega|refine z1_N14 ?_|fail);all_goals try (conv=>whnf)
 refine aM [0] (N_ok L k3 hL hk3 5 (by omega) (by omega)) rfl rfl ?_
 rintro _ _ ⟨⟨hi,k4⟩,⟨hi1,hi2,hk4⟩,rfl,rfl⟩
 dsimp only at hi1 hi2 hk4⊢
 (repeat' (conv=>whnf);first|refine aC ?_ ?_<;>intro<;>try omega|refine z1_N14 ?_|fail);all_goals try (conv=>whnf)
 refine aM [0] (N_ok L k4 hL hk4 (lns ls).length (by omega) (by omega)) rfl rfl ?_
 rintro _ _ ⟨⟨a,k5⟩,⟨a1,a2,hk5⟩,rfl,rfl⟩
 dsimp only at a1 a2 hk5⊢
 (repeat' (conv=>whnf);first|refine LitOb.ful ?_|refine aC ?_ ?_<;>intro<;>try omega|refine z1_N14 ?_|fail);all_goals try (conv=>whnf)
 refine CallOb.mk [0] (Pick_ok L k5 hL hk5 [1,((lns ls).length :Int)-1] (by simp) (by simp)) rfl ⟨Imp.refl _,Imp.fulp rfl,trivial⟩ rfl rfl ?_
 rintro _ _ ⟨⟨st,k6⟩,⟨st1,hk6⟩,rfl,rfl⟩
 dsimp only at st1 hk6⊢
 have st2:st=1∨st+1=ls.length:=by
  simp only [List.mem_cons,List.not_mem_nil,or_false]at st1;omega
 clear st1
 (repeat' (conv=>whnf);first|refine aC ?_ ?_<;>intro<;>try omega|refine z1_N14 ?_|fail);all_goals try (conv=>whnf)
 refine aM [0] (Range_ok L k6 hL hk6 1 (min 3 ((lns ls).length :Int)) (by omega) (by omega) (by omega)) rfl rfl ?_
 rintro _ _ ⟨⟨v,k7⟩,⟨v1,v2,hk7⟩,rfl,rfl⟩
 dsimp only at v1 v2 hk7⊢
 obtain⟨a,rfl⟩:∃n:Nat,a=n:=⟨a.toNat,by omega⟩
 obtain⟨st,rfl⟩:∃n:Nat,st=n:=⟨st.toNat,by omega⟩
 obtain⟨v,rfl⟩:∃n:Nat,v=n:=⟨v.toNat,by omega⟩
 have ha:a<ls.length:=by omega
 obtain⟨m,hme⟩:∃m,m=ls.length:=⟨_,rfl⟩
 rw [←hme]at hm ha st2
 (repeat' (conv=>whnf);first|refine aC ?_ ?_<;>intro<;>try omega|refine z2_N14 ?_|fail);all_goals try (conv=>whnf)
 refine .mk [.nb 4 1 1] ?_
 refine LoopOb.mk (Y:=Nat) (st:=fun t=>⟨[(12,i64 ((v:Int)-t)),(11,i64 st),(10,i64 (((a+t*st)%m:Nat):Int)),(9, .ptr 4 0),(8, .ptr 3 0),(5, .ptr 2 0),(0, .ptr 0 0)],[src L k7, .vec 8 (fls fl), .box [.psl 1 (strs nm), .psl 5 (lns ls), .vec 1], .box [.str ByteArray.empty, .nil,i64 0,i64 0,i64 0, .nil,i64 0,i64 0], .box [.str s, .vec 5,i64 cl,i64 lo,i64 (lo+hi), .psl 1 (ints (stv b p)),i64 p,i64 q], .vec 1 (ints (rr a st m t))]⟩)
  (inv:=fun t=>t≤v) (fun t=>v-t) 0 [0,1,2,3,4,5] (by omega) (by rw [Nat.zero_mul,Nat.add_zero,Nat.mod_eq_of_lt ha];(exact aL)) ?_
 intro t ht
 have hrl:=ints_len (rr a st m t)
 have hrr:=rr_len (a:=a) (s:=st) (m:=m) (t:=t)
 have hat:=Nat.mod_lt (a+t*st) (show 0<m by omega)
 (repeat' (conv=>whnf);first|refine z1_N14 ?_|fail);all_goals try (conv=>whnf)
 refine CondOb.mk (fun hlt=>?_) (fun hlt=>?_)
 ·have hmd:=md_nn (x:=(((a+t*st)%m:Nat):Int)+st) (n:=((lns ls).length :Int)) (by omega) (by omega)
  have hln:((lns ls).length :Int)=m:=by omega
  have hs2:=at_step (a:=a) (s:=st) (m:=m) (t:=t)
  have hsu:=rr_succ (a:=a) (s:=st) (m:=m) (t:=t)
  rw [hln,hs2,←hln]at hmd
  generalize (a+t*st)%m=x at*
  (repeat' (conv=>whnf);first|refine aC ?_ ?_<;>intro<;>try omega|refine z1_N14 ?_|(refine aK [] (Mod_ok ((x:Int)+st) ((lns ls).length :Int) (by omega) (by omega)) ?_)|fail);all_goals try (conv=>whnf)
  exact⟨t+1,[0,1,2,3,4,7],by omega,by omega,by rw [hmd,hsu,ints_app];(exact aL)⟩
 ·have e:t=v:=by omega
  subst e
  have hne:2≤t→(rr a st m t).getD 0 0≠(rr a st m t).getD 1 0:=fun h2=>by
   rw [rr_get (by omega),rr_get (by omega)]
   have:=rr_nd (m:=m) (a:=a) (s:=st) (i:=0) (j:=1) (by omega) (by omega) ha (by omega) (by omega) (by omega) (by omega)
   omega
  (repeat' (conv=>whnf);first|refine Gh.mk [.fz 5] ?_|(refine CondOb.mk (fun h'=>?_) (fun h'=>?_)<;>first|(exfalso;first|omega|exact hne (by omega) h')|skip)|refine aC ?_ ?_<;>intro<;>try omega|refine z2_N14 ?_|refine⟨0,rfl,by omega,?_⟩|refine⟨1,rfl,by omega,?_⟩|refine⟨_,ints_get (by omega),?_⟩|fail);all_goals try (conv=>whnf)
  all_goals
   refine⟨(⟨s,rr a st m t,cl,lo,lo+hi,stv b p,p,q⟩,k7),⟨?_,rfl,hk7⟩,rfl,Imp.refl _⟩
   refine⟨⟨cl1,cl2⟩,⟨lo1,lo2⟩,⟨by dsimp only;omega,by dsimp only;omega⟩,⟨by dsimp only;omega,by dsimp only;omega⟩,?_,?_,⟨b,b1,b2,by dsimp only;omega,by dsimp only;omega,rfl,q1,q2⟩⟩
   ·intro x hx
    have:=rr_mem (by omega) hx
    omega
   ·intro i j hij hj
    dsimp only at hj⊢
    rw [hrr]at hj
    rw [rr_get (by omega),rr_get (by omega)]
    have:=rr_nd (m:=m) (a:=a) (s:=st) (i:=i) (j:=j) (by omega) (by omega) ha (by omega) (by omega) (by omega) (by omega)
    omega
end Go.Proofs.YtbcjojomkibgeaaGreat
