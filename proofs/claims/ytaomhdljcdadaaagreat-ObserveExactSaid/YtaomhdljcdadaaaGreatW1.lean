/- Lemmas of this seat. Conditions: as stated. -/
import Derived.Test.YtaomhdljcdadaaaGreatR3
import Derived.Test.YtaomhdljcdadaaaGreatPl
import Derived.Test.YtaomhdljcdadaaaGreatNd
set_option linter.unusedVariables false
set_option linter.unusedSimpArgs false
set_option maxRecDepth 4000
namespace Go.Proofs.YtaomhdljcdadaaaGreat
section
open Go.Sx Go.Cv
theorem checked_ok (v:List Int) (p q:Int) (hn:1≤v.length) (hv:v.length≤1000000):
  Ctr Tryz.prog 183 [.psl 1 (ints v),i64 p,i64 q] [] (fun r o=>∃x:List Int×Int×Int×Int,CheckP v p q x∧o=[]∧r=crvE x):=by
 refine Ctr.impE ?_
 refine fI 0 Tryz.func183 ?_
 (repeat' (conv=>whnf);first|refine aC ?_ ?_<;>intro _|refine z2_T1 ?_|fail);all_goals try (conv=>whnf)
 ·simp only [ints_len]at*
  exact⟨([],0,0,3), .inl ⟨.inl (by omega),rfl⟩,by trivial,Imp.tup ⟨imp_zero,Imp.refl _,trivial⟩⟩
 simp only [ints_len]at*
 refine LoopOb.mk (Y:=Nat) (st:=fun j=>⟨[(0, .psl 1 (ints v)),(1,i64 p),(2,i64 q),(6, .ptr 0 0),(14, .psl 1 (ints v)),(15,i64 v.length),(16,i64 j)],[.box [.nil,i64 0,i64 0]]⟩)
  (inv:=fun j=>j≤v.length∧∀k<j,v.getD k 0=INF∨v.getD k 0≤1073741824) (fun j=>v.length-j) 0 [0] ⟨by omega,fun k h=>by omega⟩ (by(exact aL)) ?_
 rintro j ⟨h1,h2⟩
 (repeat' (conv=>whnf);first|refine aC ?_ ?_<;>intro _|refine z1_T1 ?_|fail);all_goals try (conv=>whnf)
 ·refine .mk [] ?_
  have h3:v.getD j 0≠INF:=by assumption
  have h4:(1073741824:Int)<v.getD j 0:=by assumption
  exact⟨([],0,0,3), .inl ⟨.inr ⟨j,by omega,h3,h4⟩,rfl⟩,rfl,Imp.tup ⟨imp_zero,Imp.refl _,trivial⟩⟩
 ·refine .mk [] ?_
  have h4:¬(1073741824:Int)<v.getD j 0:=by assumption
  refine⟨j+1,[0],⟨by omega,fun k hk=>?_⟩,by omega,by(exact aL)⟩
  by_cases hkj:k=j
  ·subst hkj;right;omega
  ·exact h2 k (by omega)
 ·refine .mk [] ?_
  have h3:v.getD j 0=INF:=Classical.not_not.1 (by assumption)
  refine⟨j+1,[0],⟨by omega,fun k hk=>?_⟩,by omega,by(exact aL)⟩
  by_cases hkj:k=j
  ·subst hkj;left;exact h3
  ·exact h2 k (by omega)
 refine .mk [.fz 1] ?_
 exact⟨(v,p,q,0), .inr ⟨by omega,fun k hk=>h2 k (by omega),rfl⟩,rfl,Imp.refl _⟩
theorem Ending_ok (v:List Int) (hn:1≤v.length) (hv:v.length≤1000000):
  Ctr Tryz.prog 181 [.psl 1 (ints v)] [] (fun r o=>∃x:List Int×Int×Int×Int,CheckP v 1 0 x∧o=[]∧r=crvE x):=by
 refine fI 0 Tryz.func181 ?_
 (repeat' (conv=>whnf);first|refine aC ?_ ?_<;>intro _|refine z2_T1 ?_|fail);all_goals try (conv=>whnf)
 refine aM [] (checked_ok v 1 0 hn hv) rfl rfl ?_
 rintro _ _ ⟨x,hx,rfl,rfl⟩
 (repeat' (conv=>whnf);first|refine aC ?_ ?_<;>intro _|refine z2_T1 ?_|fail);all_goals try (conv=>whnf)
 exact⟨x,hx,rfl,rfl⟩
theorem least_ok (v : List Int) (inc : Int) (F : Nat → Int) (s : Nat) (hn : 1 ≤ v.length) (hv : v.length ≤ 2000) (hi : 0 ≤ inc) (hi2 : inc ≤ 1099511627776)
    (hvb : ∀ j, 0 ≤ v.getD j 0 ∧ v.getD j 0 ≤ 4611686018427387904) (hF : ∀ j < v.length, v.getD j 0 = F (s + j)) (hper : Per F s v.length inc) :
    Ctr Tryz.prog 182 [.psl 1 (ints v), i64 inc] [] (fun r o => ∃ p : Nat, (1 ≤ p ∧ p ≤ v.length ∧ Fits F s v.length inc p ∧ ∀ p', 1 ≤ p' → p' < p → ¬Fits F s v.length inc p') ∧ o = [] ∧ r = i64 p) := by
  refine fI 0 Tryz.func182 ?_
  (repeat' (conv => whnf); first | refine aC ?_ ?_ <;> intro _ | refine z2_T1 ?_ | fail); all_goals try (conv => whnf)
  refine LoopOb.mk (Y := Nat) (st := fun p => ⟨[(0, .psl 1 (ints v)), (1, i64 inc), (5, i64 v.length), (6, i64 p)], []⟩)
    (inv := fun p => 1 ≤ p ∧ p ≤ v.length ∧ ∀ p', 1 ≤ p' → p' < p → ¬Fits F s v.length inc p') (fun p => v.length - p) 1 [] ⟨by omega, by omega, fun p' h1 h2 => by omega⟩ (by (exact aL)) ?_
  rintro p ⟨h1, h2, h3⟩
  have hQp := mul_bd (a := inc) (b := (p : Int)) (A := 1099511627776) (B := 2000) (by omega) (by omega) (by omega) (by omega)
  have hd := tdiv_bd (a := inc * p) (b := (v.length : Int)) (by omega) (by omega)
  have hm := tmod_bd (a := inc * p) (b := (v.length : Int)) (by omega) (by omega)
  have hm2 : (v.length : Int).tmod p = ((v.length % p : Nat) : Int) := by rw [Int.tmod_eq_emod_of_nonneg (by omega)]; rfl
  have next : p < v.length → ¬Fits F s v.length inc p → 1 ≤ p + 1 ∧ p + 1 ≤ v.length ∧ ∀ p', 1 ≤ p' → p' < p + 1 → ¬Fits F s v.length inc p' := by
    intro h4 h5
    refine ⟨by omega, by omega, fun p' h6 h7 => ?_⟩
    by_cases hpp : p' = p
    · subst hpp; exact h5
    · exact h3 p' h6 (by omega)
  (repeat' (conv => whnf); first | refine aC ?_ ?_ <;> intro _ | refine z2_T1 ?_ | fail); all_goals try (conv => whnf)
  · refine ⟨by omega, ?_⟩
    rw [hm2]
    (repeat' (conv => whnf); first | refine aC ?_ ?_ <;> intro _ | refine z2_T1 ?_ | fail); all_goals try (conv => whnf)
    · refine ⟨p + 1, [], next (by omega) (fun h => ?_), by omega, by (exact aL)⟩
      have := h.1; omega
    refine ⟨by omega, ?_⟩
    rw [hm.1]
    (repeat' (conv => whnf); first | refine aC ?_ ?_ <;> intro _ | refine z2_T1 ?_ | fail); all_goals try (conv => whnf)
    · refine ⟨p + 1, [], next (by omega) (fun h => ?_), by omega, by (exact aL)⟩
      have := h.2.1; omega
    refine ⟨by omega, ?_⟩
    rw [hd.1]
    (repeat' (conv => whnf); first | refine aC ?_ ?_ <;> intro _ | refine z2_T1 ?_ | fail); all_goals try (conv => whnf)
    refine LoopOb.mk (Y := Nat) (st := fun i => ⟨[(0, .psl 1 (ints v)), (1, i64 inc), (5, i64 v.length), (6, i64 p), (7, i64 (inc * p / v.length)), (35, i64 v.length), (36, i64 i)], []⟩)
      (inv := fun i => i ≤ v.length ∧ ∀ k < i, F (s + k + p) = F (s + k) + inc * p / v.length) (fun i => v.length - i) 0 [] ⟨by omega, fun k h => by omega⟩ (by (exact aL)) ?_
    rintro i ⟨h4, h5⟩
    have b1 := hvb i
    have b2 := hvb ((i : Int) + p - v.length).toNat
    (repeat' (conv => whnf); first | refine aC ?_ ?_ <;> intro _ | refine z2_T1 ?_ | fail); all_goals try (conv => whnf)
    all_goals try rw [show ((i : Int) + p).toNat = i + p by omega] at *
    all_goals try rw [show ((i : Int) + p - v.length).toNat = i + p - v.length by omega] at *
    all_goals have e0 : i < v.length → v.getD i 0 = F (s + i) := fun h => hF i h
    all_goals have e1 : i + p < v.length → v.getD (i + p) 0 = F (s + i + p) := fun h => by rw [hF _ h, Nat.add_assoc]
    all_goals have e2 : i < v.length → ¬i + p < v.length → F (s + i + p) = v.getD (i + p - v.length) 0 + inc := fun h h' => (by rw [hF _ (by omega), ← hper (s + (i + p - v.length)) (by omega)]; congr 1; omega)
    all_goals first
      | (refine ⟨i + 1, [], ⟨by omega, fun k hk => ?_⟩, by omega, by (exact aL)⟩
         by_cases hki : k = i
         · subst hki; first | omega | (have := e1 (by omega); omega) | (have := e2 (by omega) (by omega); omega)
         · exact h5 k (by omega))
      | (refine ⟨p + 1, [], next (by omega) (fun h => ?_), by omega, by (exact aL)⟩
         have h6 := h.2.2 (s + i) (by omega) (by omega)
         omega)
      | (refine ⟨p, ⟨h1, h2, ⟨by omega, by omega, fun t ht1 ht2 => ?_⟩, h3⟩, rfl, rfl⟩
         have h6 := h5 (t - s) (by omega)
         rw [show s + (t - s) = t by omega] at h6
         exact h6)
  · have : p = v.length := by omega
    subst this
    exact ⟨v.length, ⟨h1, h2, fits_self h1 hper, h3⟩, rfl, rfl⟩
end
section
open Go.Sx Go.Cv
def rowsAt (F:Nat→Int) (t N:Nat):List Int:=vals F t++List.replicate (N-t) 0
theorem rowsAt_len (F:Nat→Int) {t N:Nat} (h:t≤N):(rowsAt F t N).length =N:=by simp [rowsAt,vals_len];omega
theorem rowsAt_set (F:Nat→Int) {t N:Nat} (h:t<N):(ints (rowsAt F t N)).set t [i64 (F t)]=ints (rowsAt F (t+1) N):=by
 have e:N-t=(N-(t+1))+1:=by omega
 simp only [rowsAt,e,List.replicate_succ]
 simp only [ints,List.map_append,List.map_cons,vals_succ]
 rw [List.set_append_right _ _ (by simp [vals])]
 simp [vals]
theorem rowsAt_get (F:Nat→Int) {t N k:Nat} (h:k<t):(rowsAt F t N).getD k 0=F k:=by
 rw [rowsAt,List.getD_eq_getElem?_getD,List.getElem?_append_left (by rw [vals_len];exact h),←List.getD_eq_getElem?_getD,vals_get h]
theorem rowsAt_full (F:Nat→Int) (N:Nat):rowsAt F N N=vals F N:=by simp [rowsAt]
theorem rowsAt_zero (F:Nat→Int) (N:Nat):ints (rowsAt F 0 N)=List.replicate N [i64 0]:=by simp [rowsAt,vals,ints]
theorem rowsAt_take (F:Nat→Int) (t N:Nat):List.drop 0 (List.take t (ints (rowsAt F t N)))=ints (vals F t):=by
 rw [List.drop_zero,ints_take,rowsAt,List.take_left' (vals_len F t)]
theorem z3_W2 {G H:Prop} (k:H) (h:H→G:=by first|exact fun r=>aS r|exact fun r=>aG r|exact fun r=>aD r|exact fun r=>aP_T1 r|exact fun r=>aI r|exact fun r=>aJ r|exact fun r=>aW (.qs [0,1,2,3,4,5,6,7,8,9,10,11,12,13,14,15,16,17,18] .nil) r):G:=h k
theorem Build_ok (g:Nat) (c:SV) (F:Nat→Int) (s n:Nat) (inc:Int) (hn:1≤n) (hN:s+n≤2000) (hi:0≤inc) (hi2:inc≤1099511627776)
  (hF:∀t,t≤s+n→0≤F t∧F t≤4611686018427387904) (hcall:∀t,t<s+n→Ctr Tryz.prog g [i64 t,c] [] (fun r o=>o=[]∧r=i64 (F t)))
  (hper:(∀t,t<s+n→F t≠INF)→Per F s n inc):
  Ctr Tryz.prog 138 [.fn g [.shut c],i64 s,i64 n,i64 inc] [] (fun r o=>∃x:List Int×Int×Int×Int,BuildP F (s+n) x∧o=[]∧r=crvE x):=by
 refine Ctr.impE ?_
 refine fI 0 Tryz.func138 ?_
 (repeat' (conv=>whnf);first|refine aC ?_ ?_<;>intro _|refine z2_T1 ?_|fail);all_goals try (conv=>whnf)
 refine⟨s+n,s+n,by push_cast;rfl,by push_cast;rfl,Nat.le_refl _,⟨by simp only;omega,by omega⟩,?_⟩
 (repeat' (conv=>whnf);first|refine aC ?_ ?_<;>intro _|refine z2_T1 ?_|fail);all_goals try (conv=>whnf)
 refine LoopOb.mk (Y:=Nat) (st:=fun t=>⟨[(0, .fn g [.shut c]),(1,i64 s),(2,i64 n),(3,i64 inc),(8, .ptr 0 0),(10, .vec 1),(19,i64 ((s+n:Nat):Int)),(20,i64 t)],[.box [.nil,i64 0,i64 0], .vec 1 (ints (rowsAt F t (s+n)))]⟩)
  (inv:=fun t=>t≤s+n∧∀k<t,F k≠INF) (fun t=>s+n-t) 0 [0,1] ⟨by omega,fun k h=>by omega⟩
  (by refine Le.mk (by kernel_rfl) ?_ ?_<;>repeat' (first|exact True.intro|refine And.intro ?_ ?_|exact Imp.refl _|exact Imp.any _|exact Imp.num (by simp)|exact rfl|exact(rowsAt_zero _ _).symm)) ?_
 rintro t ⟨h1,h2⟩
 (repeat' (conv=>whnf);first|refine aC ?_ ?_<;>intro _|refine z1_T1 ?_|fail);all_goals try (conv=>whnf)
 ·refine .mk [] ?_
  refine CallOb.mk [] (hcall t (by omega)) rfl ⟨Imp.refl _,Imp.unshut _,trivial⟩ rfl rfl ?_
  rintro _ _ ⟨rfl,rfl⟩
  (repeat' (conv=>whnf);first|refine aC ?_ ?_<;>intro _|refine z1_T1 ?_|fail);all_goals try (conv=>whnf)
  have hl:(rowsAt F t (s+n)).length =s+n:=rowsAt_len F h1
  refine⟨t,rfl,by rw [ints_len];omega,?_⟩
  (repeat' (conv=>whnf);first|refine aC ?_ ?_<;>intro _|refine z1_T1 ?_|fail);all_goals try (conv=>whnf)
  refine⟨_,ints_get (by omega),?_⟩
  (repeat' (conv=>whnf);first|refine aC ?_ ?_<;>intro _|refine z1_T1 ?_|fail);all_goals try (conv=>whnf)
  have hset:=rowsAt_set F (t:=t) (N:=s+n) (by omega)
  have hl1:(rowsAt F (t+1) (s+n)).length =s+n:=rowsAt_len F (by omega)
  rw [hset]
  refine⟨t,rfl,by rw [ints_len];omega,?_⟩
  (repeat' (conv=>whnf);first|refine aC ?_ ?_<;>intro _|refine z1_T1 ?_|fail);all_goals try (conv=>whnf)
  refine⟨_,ints_get (by omega),?_⟩
  rw [rowsAt_get F (show t<t+1 by omega)]
  (repeat' (conv=>whnf);first|refine aC ?_ ?_<;>intro _|refine z1_T1 ?_|fail);all_goals try (conv=>whnf)
  ·have hINF:F t=INF:=by assumption
   refine .mk [.fz 1] ?_
   (repeat' (conv=>whnf);first|refine aC ?_ ?_<;>intro _|refine z1_T1 ?_|fail);all_goals try (conv=>whnf)
   refine⟨t+1,by push_cast;rfl,?_⟩
   refine⟨⟨by omega,by rw [ints_len];omega⟩,?_⟩
   rw [rowsAt_take]
   (repeat' (conv=>whnf);first|refine aC ?_ ?_<;>intro _|refine z2_T1 ?_|fail);all_goals try (conv=>whnf)
   refine aM [] (Ending_ok (vals F (t+1)) (by rw [vals_len];omega) (by rw [vals_len];omega)) rfl rfl ?_
   rintro _ _ ⟨x,hx,rfl,rfl⟩
   (repeat' (conv=>whnf);first|refine aC ?_ ?_<;>intro _|refine z2_T1 ?_|fail);all_goals try (conv=>whnf)
   exact⟨x, .inl ⟨t,by omega,hINF,h2,hx⟩,rfl,Imp.refl _⟩
  ·have hne:¬F t=INF:=by assumption
   refine .mk [] ?_
   refine⟨t+1,[0,1],⟨by omega,fun k hk=>?_⟩,by omega,by(exact aL)⟩
   by_cases hkt:k=t
   ·subst hkt;exact hne
   ·exact h2 k (by omega)
 have htN:t=s+n:=by omega
 subst htN
 rw [rowsAt_full]
 have hp:=hper h2
 refine .mk [.fz 1] ?_
 (repeat' (conv=>whnf);first|refine aC ?_ ?_<;>intro _|refine z1_T1 ?_|fail);all_goals try (conv=>whnf)
 refine⟨s,rfl,?_⟩
 refine⟨⟨by rw [ints_len,vals_len];omega,by omega⟩,?_⟩
 have ev:List.drop s (List.take (ints (vals F (s+n))).length (ints (vals F (s+n))))=ints ((vals F (s+n)).drop s):=by
  rw [List.take_length,ints_drop]
 rw [ev]
 (repeat' (conv=>whnf);first|refine aC ?_ ?_<;>intro _|refine z2_T1 ?_|fail);all_goals try (conv=>whnf)
 have hdl:((vals F (s+n)).drop s).length =n:=by rw [List.length_drop,vals_len];omega
 have hdg:∀j,j<n→((vals F (s+n)).drop s).getD j 0=F (s+j):=by
  intro j hj
  rw [List.getD_eq_getElem?_getD,List.getElem?_drop,←List.getD_eq_getElem?_getD,vals_get (by omega)]
 refine aM [] (least_ok ((vals F (s+n)).drop s) inc F s (by omega) (by omega) hi hi2 (fun j=>by
  by_cases hj:j<n
  ·rw [hdg j hj];exact hF _ (by omega)
  ·rw [List.getD_eq_getElem?_getD,List.getElem?_eq_none (by omega)];simp) (fun j hj=>hdg j (by omega)) (by rw [hdl];exact hp)) rfl rfl ?_
 rintro _ _ ⟨p,⟨g1,g2,g3,g4⟩,rfl,rfl⟩
 rw [hdl]at g2 g3 g4
 have hmin:=Fits.min hn hp g4
 have hpq:=Fits.per hn hp g3
 have hQp:=mul_bd (a:=inc) (b:=(p:Int)) (A:=1099511627776) (B:=2000) (by omega) (by omega) (by omega) (by omega)
 have hd:=tdiv_bd (a:=inc*p) (b:=(n:Int)) (by omega) (by omega)
 (repeat' (conv=>whnf);first|refine aC ?_ ?_<;>intro _|refine z2_T1 ?_|fail);all_goals try (conv=>whnf)
 refine⟨by omega,?_⟩
 rw [hd.1]
 (repeat' (conv=>whnf);first|refine aC ?_ ?_<;>intro _|refine z2_T1 ?_|fail);all_goals try (conv=>whnf)
 generalize hq:inc*(p:Int)/(n:Int)=q at*
 have hq0:0≤q:=hd.2.1
 have hq1:q≤2199023255552000:=by omega
 refine LoopOb.mk (Y:=Nat) (st:=fun u=>⟨[(1,i64 u),(8, .ptr 0 0),(10, .psl 1 (ints (vals F (s+n)))),(12,i64 p),(13,i64 q)],[.box [.nil,i64 0,i64 0]]⟩)
  (inv:=fun u=>u≤s∧Per F u p q) (fun u=>u) s [0] ⟨by omega,hpq⟩ (by(exact aL)) ?_
 rintro u ⟨g5,g6⟩
 have c1:=hF (u-1) (by omega)
 have c2:=hF (u-1+p) (by omega)
 have key:∀k,k<s+n→(vals F (s+n)).getD k 0=F k:=fun k hk=>vals_get hk
 have hcut:u+p≤s+n→List.drop 0 (List.take (u+p) (ints (vals F (s+n))))=ints (vals F (u+p)):=by
  intro h
  rw [List.drop_zero,ints_take]
  congr 1
  apply List.ext_getElem
  ·rw [List.length_take,vals_len,vals_len];omega
  ·intro i h1 h2;simp [vals]
 replace hcut:=hcut (by omega)
 (repeat' (conv=>whnf);first|refine aC ?_ ?_<;>intro _|refine z3_W2 ?_|fail);all_goals try (conv=>whnf)
 ·have hu:0<u:=by omega
  refine⟨u-1,_,by omega,ints_get (by rw [vals_len];omega),?_⟩
  rw [key _ (by omega)]
  (repeat' (conv=>whnf);first|refine aC ?_ ?_<;>intro _|refine z3_W2 ?_|fail);all_goals try (conv=>whnf)
  refine⟨u-1+p,_,by omega,ints_get (by rw [vals_len];omega),?_⟩
  rw [key _ (by omega)]
  (repeat' (conv=>whnf);first|refine aC ?_ ?_<;>intro _|refine z3_W2 ?_|fail);all_goals try (conv=>whnf)
  ·refine .mk [] ?_
   have he:F (u-1)+q=F (u-1+p):=by assumption
   exact⟨u-1,[0],⟨by omega,g6.pred he.symm⟩,by omega,by(exact aL)⟩
  all_goals have hms:MinS F u p q:=minS_of (.inr (fun h=>absurd h.symm (by assumption)))
  ·refine .mk [] ?_
   exact⟨([],0,0,3), .inr ⟨h2,vals F (u+p),p,q,⟨u,g1,g6,hmin,hms,rfl⟩,by rw [vals_len];omega, .inl ⟨.inl (by omega),rfl⟩⟩,rfl,Imp.tup ⟨imp_zero,Imp.refl _,trivial⟩⟩
  ·refine .mk [] ?_
   exact⟨([],0,0,3), .inr ⟨h2,vals F (u+p),p,q,⟨u,g1,g6,hmin,hms,rfl⟩,by rw [vals_len];omega, .inl ⟨.inr (by omega),rfl⟩⟩,rfl,Imp.tup ⟨imp_zero,Imp.refl _,trivial⟩⟩
  ·refine⟨u+p,by push_cast;rfl,⟨by omega,by rw [ints_len,vals_len];omega⟩,?_⟩
   rw [hcut]
   (repeat' (conv=>whnf);first|refine aC ?_ ?_<;>intro _|refine z2_T1 ?_|fail);all_goals try (conv=>whnf)
   refine aM [] (checked_ok (vals F (u+p)) p q (by rw [vals_len];omega) (by rw [vals_len];omega)) rfl rfl ?_
   rintro _ _ ⟨x,hx,rfl,rfl⟩
   (repeat' (conv=>whnf);first|refine aC ?_ ?_<;>intro _|refine z2_T1 ?_|fail);all_goals try (conv=>whnf)
   exact⟨x, .inr ⟨h2,vals F (u+p),p,q,⟨u,g1,g6,hmin,hms,rfl⟩,by rw [vals_len];omega, .inr ⟨by omega,by omega,hx⟩⟩,rfl,Imp.refl _⟩
 all_goals have hms:MinS F u p q:=minS_of (.inl (by omega))
 ·refine .mk [] ?_
  exact⟨([],0,0,3), .inr ⟨h2,vals F (u+p),p,q,⟨u,g1,g6,hmin,hms,rfl⟩,by rw [vals_len];omega, .inl ⟨.inl (by omega),rfl⟩⟩,rfl,Imp.tup ⟨imp_zero,Imp.refl _,trivial⟩⟩
 ·refine .mk [] ?_
  exact⟨([],0,0,3), .inr ⟨h2,vals F (u+p),p,q,⟨u,g1,g6,hmin,hms,rfl⟩,by rw [vals_len];omega, .inl ⟨.inr (by omega),rfl⟩⟩,rfl,Imp.tup ⟨imp_zero,Imp.refl _,trivial⟩⟩
 ·refine⟨u+p,by push_cast;rfl,⟨by omega,by rw [ints_len,vals_len];omega⟩,?_⟩
  rw [hcut]
  (repeat' (conv=>whnf);first|refine aC ?_ ?_<;>intro _|refine z2_T1 ?_|fail);all_goals try (conv=>whnf)
  refine aM [] (checked_ok (vals F (u+p)) p q (by rw [vals_len];omega) (by rw [vals_len];omega)) rfl rfl ?_
  rintro _ _ ⟨x,hx,rfl,rfl⟩
  (repeat' (conv=>whnf);first|refine aC ?_ ?_<;>intro _|refine z2_T1 ?_|fail);all_goals try (conv=>whnf)
  exact⟨x, .inr ⟨h2,vals F (u+p),p,q,⟨u,g1,g6,hmin,hms,rfl⟩,by rw [vals_len];omega, .inr ⟨by omega,by omega,hx⟩⟩,rfl,Imp.refl _⟩
end
end Go.Proofs.YtaomhdljcdadaaaGreat
