/- Lemmas of this seat. Conditions: as stated. -/
import Derived.Test.YtjhmjiimpmmnhaaGreatT1
import Derived.Test.YtjhmjiimpmmnhaaGreatPl
set_option linter.unusedVariables false
set_option linter.unusedSimpArgs false
set_option maxHeartbeats 2000000
set_option maxRecDepth 4000
namespace Go.Proofs.YtjhmjiimpmmnhaaGreat
section
open Go.Sx Go.Pk Go.Cv Go.St
theorem two_get {A B C:List Pk} {x y:Pk} {i j:Nat} (hi:A.length=i) (hj:A.length+1+B.length=j):
  (pks (A++x::(B++y::C)))[i]? =some (pkw x)∧(pks (A++x::(B++y::C)))[j]? =some (pkw y)∧
  ((pks (A++x::(B++y::C))).set i (pkw y)).set j (pkw x)=pks (A++y::(B++x::C)):=by
 subst hi hj
 have e:∀u v:Pk,pks (A++u::(B++v::C))=pks A++(pkw u::(pks B++pkw v::pks C)):=fun u v=>by simp [pks]
 have hA:=pks_len A
 have hB:=pks_len B
 refine⟨pks_at,?_,?_⟩
 ·rw [e,List.getElem?_append_right (by omega),show A.length+1+B.length-(pks A).length =B.length+1 by omega,List.getElem?_cons_succ,List.getElem?_append_right (by omega),show B.length-(pks B).length =0 by omega];rfl
 ·rw [e,e,List.set_append_right _ _ (by omega),List.set_append_right _ _ (by omega),show A.length-(pks A).length =0 by omega,show A.length+1+B.length-(pks A).length =B.length+1 by omega,List.set_cons_zero,List.set_cons_succ,List.set_append_right _ _ (by omega),show B.length-(pks B).length =0 by omega,List.set_cons_zero]
def swp (P X M Y T:List Pk) (i:Nat):List Pk:=P++(Y.take i++X.drop i)++M++(X.take i++Y.drop i)++T
theorem swp_zero (P X M Y T:List Pk):swp P X M Y T 0=P++X++M++Y++T:=by simp [swp]
theorem swp_full {P X M Y T:List Pk} {n:Nat} (h1:X.length=n) (h2:Y.length=n):swp P X M Y T n=P++Y++M++X++T:=by
 subst h1
 simp [swp,List.take_of_length_le (Nat.le_of_eq h2),List.drop_of_length_le (Nat.le_of_eq h2)]
theorem swp_len {P X M Y T:List Pk} {n:Nat} (h1:X.length=n) (h2:Y.length=n) {i:Nat} (hi:i≤n):(swp P X M Y T i).length =P.length+n+M.length+n+T.length:=by
 simp only [swp,List.length_append,List.length_take,List.length_drop];omega
theorem swp_step {P X M Y T:List Pk} {n:Nat} (h1:X.length=n) (h2:Y.length=n) {i:Nat} (hi:i<n):∃A B C x y,A.length=P.length+i∧A.length+1+B.length=P.length+n+M.length+i∧swp P X M Y T i=A++x::(B++y::C)∧swp P X M Y T (i+1)=A++y::(B++x::C):=by
 refine⟨P++Y.take i,X.drop (i+1)++M++X.take i,Y.drop (i+1)++T,X[i],Y[i],?_,?_,?_,?_⟩
 ·rw [List.length_append,List.length_take];omega
 ·simp only [List.length_append,List.length_take,List.length_drop];omega
 ·unfold swp
  rw [List.drop_eq_getElem_cons (l:=X) (by omega),List.drop_eq_getElem_cons (l:=Y) (by omega)];simp only [List.append_assoc,List.cons_append]
 ·unfold swp
  rw [List.take_succ_eq_append_getElem (l:=X) (by omega),List.take_succ_eq_append_getElem (l:=Y) (by omega)];simp only [List.append_assoc,List.cons_append,List.nil_append]
theorem aP_T11 {A B K:Prop} (k:K) (a:A:=by(simp only [zA,zT,zD,zC,zN,ints_len,zR,pks_len];omega)) (b:B:=by(simp only [zA,zT,zD,zC,zN,ints_len,zR,pks_len];omega)):(A∧B)∧K:=⟨⟨a,b⟩,k⟩
theorem z1_T11 {G H:Prop} (k:H) (h:H→G:=by first|exact fun r=>aS r|exact fun r=>aG r|exact fun r=>aD r|exact fun r=>aH r|exact fun r=>aP_T11 r|exact fun r=>aI r|exact fun r=>aJ r|exact fun r=>aW (.qs [0,1,2,3,4,5,6,7,8,9,10,11,12,13,14,15,16,17,18,19,20] (.l 21 [] (.qs [22] (.l 23 [] .nil .no)) .no)) r):G:=h k
theorem swap_ok (g:Nat) (P X M Y T:List Pk) (n:Nat) (h1:X.length=n) (h2:Y.length=n) (hl:P.length+n+M.length+n+T.length≤1000000):
  Ctr Tryz.prog 154 [.vec 0,i64 P.length,i64 (P.length+n+M.length:Nat),i64 n, .fn g []] [.vec 3 (pks (P++X++M++Y++T))] (fun r o=>o=[.vec 3 (pks (P++Y++M++X++T))]∧r= .tup []):=by
 refine fI 1 Tryz.func154 ?_
 (repeat' (conv=>whnf);first|refine aC ?_ ?_<;>intro<;>try omega|refine z1_T11 ?_|fail);all_goals try (conv=>whnf)
 refine LoopOb.mk (Y:=Nat) (st:=fun i=>⟨[(10,i64 i),(0, .vec 0),(1,i64 P.length),(2,i64 (P.length+n+M.length:Nat)),(3,i64 n)],[.vec 3 (pks (swp P X M Y T i))]⟩)
  (inv:=fun i=>i≤n) (fun i=>n-i) 0 [0] (by omega) (by rw [swp_zero];(exact aL)) ?_
 intro i hi
 have hpl:=pks_len (swp P X M Y T i)
 rw [swp_len h1 h2 hi]at hpl
 (repeat' (conv=>whnf);first|refine z1_T11 ?_|fail);all_goals try (conv=>whnf)
 refine CondOb.mk (fun hlt=>?_) (fun hlt=>?_)
 ·obtain⟨A,B,C,x,y,e1,e2,e3,e4⟩:=swp_step (P:=P) (M:=M) (T:=T) h1 h2 (i:=i) (by omega)
  obtain⟨g1,g2,g3⟩:=two_get (C:=C) (x:=x) (y:=y) e1 e2
  rw [e3]at hpl⊢
  (repeat' (conv=>whnf);first|refine⟨_,(List.getElem?_set_ne (by omega)).trans g2,?_⟩|refine⟨_,g2,?_⟩|refine⟨_,g1,?_⟩|refine⟨P.length+n+M.length+i,by omega,by(first|omega|(simp only [List.length_set];omega)),?_⟩|refine⟨P.length+i,by omega,by(first|omega|(simp only [List.length_set];omega)),?_⟩|refine aC ?_ ?_<;>intro<;>try omega|refine z1_T11 ?_|fail);all_goals try (conv=>whnf)
  exact⟨i+1,[0],by omega,by omega,by rw [e4,←g3];(exact aL)⟩
 ·have e:i=n:=by omega
  subst e
  rw [swp_full h1 h2]
  (repeat' (conv=>whnf);first|refine aC ?_ ?_<;>intro<;>try omega|refine z1_T11 ?_|fail);all_goals try (conv=>whnf)
  exact⟨rfl,rfl⟩
structure RotI (P U V T L X Y R:List Pk) (m:Nat):Prop where
 m:L.length+X.length=m
 x:1≤X.length
 y:1≤Y.length
 e:L++(Y++(X++R))=P++(V++(U++T))
 l:L.length+X.length+Y.length+R.length≤1000000
theorem z2_T11 {G H:Prop} (k:H) (h:H→G:=by first|exact fun r=>aS r|exact fun r=>aG r|exact fun r=>aD r|exact fun r=>aH r|exact fun r=>aP_T11 r|exact fun r=>aI r|exact fun r=>aJ r):G:=h k
theorem rot_ok (g:Nat) (P U V T:List Pk) (hU:1≤U.length) (hV:1≤V.length) (hl:P.length+U.length+V.length+T.length≤1000000):
  Ctr Tryz.prog 121 [.vec 0,i64 P.length,i64 (P.length+U.length:Nat),i64 (P.length+U.length+V.length:Nat), .fn g []] [.vec 3 (pks (P++(U++(V++T))))] (fun r o=>o=[.vec 3 (pks (P++(V++(U++T))))]∧r= .tup []):=by
 refine fI 1 Tryz.func121 ?_
 (repeat' (conv=>whnf);first|refine aC ?_ ?_<;>intro<;>try omega|refine z2_T11 ?_|fail);all_goals try (conv=>whnf)
 refine LoopOb.mk (Y:=List Pk×List Pk×List Pk×List Pk) (st:=fun y=>⟨[(10,i64 y.2.1.length),(11,i64 y.2.2.1.length),(0, .vec 0),(2,i64 (P.length+U.length:Nat)),(4, .fn g [])],[.vec 3 (pks (y.1++(y.2.1++(y.2.2.1++y.2.2.2))))]⟩)
  (inv:=fun y=>RotI P U V T y.1 y.2.1 y.2.2.1 y.2.2.2 (P.length+U.length)) (fun y=>y.2.1.length+y.2.2.1.length) (P,U,V,T) [0] ⟨rfl,hU,hV,rfl,hl⟩ (by dsimp only;(exact aL)) ?_
 rintro⟨L,X,Y,R⟩ hI
 dsimp only at hI⊢
 obtain⟨i1,i2,i3,i4,i5⟩:=hI
 generalize P.length+U.length=m at*
 (repeat' (conv=>whnf);first|refine z2_T11 ?_|fail);all_goals try (conv=>whnf)
 refine CondOb.mk (fun hlt=>?_) (fun hlt=>?_)
 ·by_cases hgt:X.length>Y.length
  ·have t1:(X.take Y.length).length =Y.length:=by rw [List.length_take];omega
   have t2:(X.drop Y.length).length =X.length-Y.length:=List.length_drop
   have hX:X=X.take Y.length++X.drop Y.length:=(List.take_append_drop _ _).symm
   have cS:=swap_ok g L (X.take Y.length) (X.drop Y.length) Y R Y.length t1 rfl (by omega)
   generalize X.take Y.length=X1 at*
   generalize X.drop Y.length=X2 at*
   simp only [List.append_assoc]at cS
   have e1:L++(X++(Y++R))=L++(X1++(X2++(Y++R))):=by rw [hX,List.append_assoc]
   have e2:L++(Y++(X2++(X1++R)))=(L++Y)++(X2++(X1++R)):=by rw [List.append_assoc]
   rw [e2]at cS
   rw [e1]
   (repeat' (conv=>whnf);first|refine aC ?_ ?_<;>intro<;>try omega|refine z2_T11 ?_|(refine CallOb.mk [0] cS rfl ⟨Imp.refl _,Imp.num (by omega),Imp.num (by omega),Imp.refl _,Imp.refl _,trivial⟩ rfl rfl ?_;rintro _ _ ⟨rfl,rfl⟩)|fail);all_goals try (conv=>whnf)
   refine⟨(L++Y,X2,X1,R),[0],⟨?_,?_,?_,?_,?_⟩,?_,?_⟩
   ·dsimp only;rw [List.length_append];omega
   ·dsimp only;omega
   ·dsimp only;omega
   ·dsimp only;rw [←i4,hX];simp only [List.append_assoc]
   ·dsimp only;rw [List.length_append];omega
   ·dsimp only;omega
   ·dsimp only;(exact aL)
  ·have t1:(Y.drop (Y.length-X.length)).length =X.length:=by rw [List.length_drop];omega
   have t2:(Y.take (Y.length-X.length)).length =Y.length-X.length:=by rw [List.length_take];omega
   have hY:Y=Y.take (Y.length-X.length)++Y.drop (Y.length-X.length):=(List.take_append_drop _ _).symm
   have cS:=swap_ok g L X (Y.take (Y.length-X.length)) (Y.drop (Y.length-X.length)) R X.length rfl t1 (by omega)
   generalize Y.take (Y.length-X.length)=Y1 at*
   generalize Y.drop (Y.length-X.length)=Y2 at*
   simp only [List.append_assoc]at cS
   have e1:L++(X++(Y++R))=L++(X++(Y1++(Y2++R))):=by rw [hY,List.append_assoc]
   rw [e1]
   (repeat' (conv=>whnf);first|refine aC ?_ ?_<;>intro<;>try omega|refine z2_T11 ?_|(refine CallOb.mk [0] cS rfl ⟨Imp.refl _,Imp.num (by omega),Imp.num (by omega),Imp.refl _,Imp.refl _,trivial⟩ rfl rfl ?_;rintro _ _ ⟨rfl,rfl⟩)|fail);all_goals try (conv=>whnf)
   refine⟨(L,Y2,Y1,X++R),[0],⟨?_,?_,?_,?_,?_⟩,?_,?_⟩
   ·dsimp only;omega
   ·dsimp only;omega
   ·dsimp only;omega
   ·dsimp only;rw [←i4,hY];simp only [List.append_assoc]
   ·dsimp only;rw [List.length_append];omega
   ·dsimp only;omega
   ·dsimp only;(exact aL)
 ·have e:X.length=Y.length:=by omega
  have cS:=swap_ok g L X [] Y R X.length rfl e.symm (by simp only [List.length_nil];omega)
  simp only [List.append_assoc,List.nil_append,List.length_nil,Nat.add_zero]at cS
  rw [i4]at cS
  (repeat' (conv=>whnf);first|refine aC ?_ ?_<;>intro<;>try omega|refine z2_T11 ?_|(refine CallOb.mk [0] cS rfl ⟨Imp.refl _,Imp.num (by omega),Imp.num (by omega),Imp.refl _,Imp.refl _,trivial⟩ rfl rfl ?_;rintro _ _ ⟨rfl,rfl⟩)|fail);all_goals try (conv=>whnf)
  exact⟨rfl,rfl⟩
end
section
open Go.Sx Go.Pk Go.Cv Go.St
theorem pks_mid {Q B T:List Pk} {c i:Nat} (hc:c<B.length) (hi:Q.length+c=i):(pks (Q++(B++T)))[i]? =some (pkw (B.getD c pk0)):=by
 subst hi
 have e:pks (Q++(B++T))=pks Q++(pks B++pks T):=by simp [pks]
 rw [e,List.getElem?_append_right (by rw [pks_len];omega),List.getElem?_append_left (by rw [pks_len,pks_len];omega),pks_len,Nat.add_sub_cancel_left]
 exact pks_get hc
theorem mov1 {P B T:List Pk} {x:Pk} {t:Nat} (ht:t<B.length):P++(B.take t++(x::(B.drop t++T)))=(P++B.take t)++x::([]++B.getD t pk0::(B.drop (t+1)++T))∧
  P++(B.take (t+1)++(x::(B.drop (t+1)++T)))=(P++B.take t)++B.getD t pk0::([]++x::(B.drop (t+1)++T)):=by
 have e:B.getD t pk0=B[t]:=by rw [List.getD_eq_getElem?_getD,List.getElem?_eq_getElem ht];rfl
 rw [e]
 refine⟨?_,?_⟩
 ·rw [List.drop_eq_getElem_cons ht];simp only [List.append_assoc,List.cons_append,List.nil_append]
 ·rw [List.take_succ_eq_append_getElem ht];simp only [List.append_assoc,List.cons_append,List.nil_append]
theorem z1_T12 {G H:Prop} (k:H) (h:H→G:=by first|exact fun r=>aS r|exact fun r=>aG r|exact fun r=>aD r|exact fun r=>aH r|exact fun r=>aP_T11 r|exact fun r=>aI r|exact fun r=>aJ r|exact fun r=>aW (.qs [0,1,2,3,4,5,6,7,8] (.l 9 [] (.qs [10] .nil) .no)) r|exact fun r=>aW (.qs [0,1,2,3,4,5,6,7,8,9,10,11,12,13,14] (.l 15 [] (.qs [16] (.l 17 [] .nil .no)) .no)) r|exact fun r=>aW (.qs [0,1,2,3,4,5,6,7,8] (.l 9 [] (.qs [10,11] .nil) .no)) r|exact fun r=>aW (.qs [0,1,2,3,4,5,6,7,8,9,10,11,12,13,14] (.l 15 [] (.qs [16] (.l 17 [] .nil .no)) .no)) r|exact fun r=>aW (.qs [0,1,2,3,4,5,6,7,8,9,10] (.l 11 [] (.qs [12,13] .nil) .no)) r):G:=h k
theorem sym1_ok (g:Nat) (k:Pk→Int) (hc:CmpOK g k) (P B T:List Pk) (x:Pk) (hB:1≤B.length) (sB:Srt k B) (hl:P.length+1+B.length+T.length≤1000000):
  Ctr Tryz.prog 99 [.vec 0,i64 P.length,i64 (P.length+1:Nat),i64 (P.length+1+B.length:Nat), .fn g []] [.vec 3 (pks (P++([x]++(B++T))))] (fun r o=>o=[.vec 3 (pks (P++(srt k ([x]++B)++T)))]∧r= .tup []):=by
 refine fI 1 Tryz.func99 ?_
 have hlen:(pks (P++([x]++(B++T)))).length =P.length+1+B.length+T.length:=by rw [pks_len];simp only [List.length_append,List.length_singleton];omega
 have gx:(pks (P++([x]++(B++T))))[P.length]? =some (pkw x):=pks_at
 (repeat' (conv=>whnf);first|refine aC ?_ ?_<;>intro<;>try omega|refine z1_T12 ?_|fail);all_goals try (conv=>whnf)
 refine LoopOb.mk (Y:=Nat×Nat) (st:=fun y=>⟨[(10,i64 (P.length+1+y.1:Nat)),(11,i64 (P.length+1+y.2:Nat)),(0, .vec 0),(1,i64 P.length),(4, .fn g [])],[.vec 3 (pks (P++([x]++(B++T))))]⟩)
  (inv:=fun y=>(y.1≤y.2∧y.2≤B.length)∧(∀q,q<y.1→q<B.length→k (B.getD q pk0)<k x)∧∀q,y.2≤q→q<B.length→k x≤k (B.getD q pk0)) (fun y=>y.2-y.1) (0,B.length) [0] ⟨⟨by dsimp only;omega,Nat.le_refl _⟩,fun q hq=>by dsimp only at hq;omega,fun q h1 h2=>by dsimp only at h1;omega⟩ (by dsimp only;(exact aL)) ?_
 rintro⟨i,j⟩ ⟨⟨hij,hjB⟩,hlo,hhi⟩
 dsimp only at hij hjB hlo hhi⊢
 (repeat' (conv=>whnf);first|refine z1_T12 ?_|fail);all_goals try (conv=>whnf)
 refine CondOb.mk (fun hlt=>?_) (fun hlt=>?_)
 ·obtain⟨c,hcd⟩:∃c,(i+j)/2=c:=⟨_,rfl⟩
  have gb:=pks_mid (Q:=P++[x]) (B:=B) (T:=T) (c:=c) (i:=P.length+1+c) (by omega) (by simp)
  rw [List.append_assoc]at gb
  have hcc:=hc (B.getD c pk0) x
  have hup:k (B.getD c pk0)<k x→∀q,q<c+1→q<B.length→k (B.getD q pk0)<k x:=fun h q h1 h2=>by
   have:=srt_getD (d:=pk0) sB (i:=q) (j:=c) (by omega) (by omega)
   omega
  have hdn:¬k (B.getD c pk0)<k x→∀q,c≤q→q<B.length→k x≤k (B.getD q pk0):=fun h q h1 h2=>by
   have:=srt_getD (d:=pk0) sB (i:=c) (j:=q) h1 h2
   omega
  generalize B.getD c pk0=y at*
  (repeat' (conv=>whnf);first|refine⟨_,gx,?_⟩|refine⟨_,gb,?_⟩|refine⟨P.length,by omega,by omega,?_⟩|refine⟨P.length+1+c,by omega,by omega,?_⟩|refine aC ?_ ?_<;>intro<;>try omega|refine z1_T12 ?_|refine And.intro (rfl:(1:Int)=1) ?_|(refine aM [] hcc rfl rfl ?_;rintro _ _ ⟨c',hck,rfl,rfl⟩)|fail);all_goals try (conv=>whnf)
  ·exact⟨(c+1,j),[0],⟨⟨by dsimp only;omega,hjB⟩,hup (hck.1 (by assumption)),hhi⟩,by dsimp only;omega,by dsimp only;(exact aL)⟩
  ·exact⟨(i,c),[0],⟨⟨by dsimp only;omega,by dsimp only;omega⟩,hlo,hdn fun h=>absurd (hck.2 h) (by assumption)⟩,by dsimp only;omega,by dsimp only;(exact aL)⟩
 ·have e:j=i:=by omega
  subst e
  have hfin:=ins_front (k:=k) (x:=x) sB pk0 hlo hhi
  rw [show P++(srt k ([x]++B)++T)=P++(B.take j++(x::(B.drop j++T)))by rw [List.singleton_append,←hfin];simp only [List.append_assoc,List.cons_append]]
  (repeat' (conv=>whnf);first|refine aC ?_ ?_<;>intro<;>try omega|refine z1_T12 ?_|fail);all_goals try (conv=>whnf)
  refine LoopOb.mk (Y:=Nat) (st:=fun t=>⟨[(13,i64 (P.length+t:Nat)),(10,i64 (P.length+1+j:Nat)),(0, .vec 0)],[.vec 3 (pks (P++(B.take t++(x::(B.drop t++T)))))]⟩)
   (inv:=fun t=>t≤j) (fun t=>j-t) 0 [0] (by omega) (by(exact aL)) ?_
  intro t ht
  have hl3:(pks (P++(B.take t++(x::(B.drop t++T))))).length =P.length+1+B.length+T.length:=by rw [pks_len];simp only [List.length_append,List.length_cons,List.length_take,List.length_drop];omega
  (repeat' (conv=>whnf);first|refine z1_T12 ?_|fail);all_goals try (conv=>whnf)
  refine CondOb.mk (fun hlt=>?_) (fun hlt=>?_)
  ·obtain⟨e1,e2⟩:=mov1 (P:=P) (B:=B) (T:=T) (x:=x) (t:=t) (by omega)
   obtain⟨g1,g2,g3⟩:=two_get (A:=P++B.take t) (B:=[]) (C:=B.drop (t+1)++T) (x:=x) (y:=B.getD t pk0) (i:=P.length+t) (j:=P.length+t+1) (by rw [List.length_append,List.length_take];omega) (by rw [List.length_append,List.length_take];simp;omega)
   rw [e1]at hl3⊢
   rw [←e2]at g3
   generalize B.getD t pk0=y at*
   (repeat' (conv=>whnf);first|refine⟨_,(List.getElem?_set_ne (by omega)).trans g2,?_⟩|refine⟨_,g2,?_⟩|refine⟨_,g1,?_⟩|refine⟨P.length+t+1,by omega,by(first|omega|(simp only [List.length_set];omega)),?_⟩|refine⟨P.length+t,by omega,by(first|omega|(simp only [List.length_set];omega)),?_⟩|refine aC ?_ ?_<;>intro<;>try omega|refine z1_T12 ?_|fail);all_goals try (conv=>whnf)
   exact⟨t+1,[0],by omega,by omega,by rw [←g3];(exact aL)⟩
  ·have e:t=j:=by omega
   subst e
   (repeat' (conv=>whnf);first|refine aC ?_ ?_<;>intro<;>try omega|refine z1_T12 ?_|fail);all_goals try (conv=>whnf)
   exact⟨rfl,rfl⟩
theorem sym2_ok (g:Nat) (k:Pk→Int) (hc:CmpOK g k) (P A T:List Pk) (y:Pk) (hA:2≤A.length) (sA:Srt k A) (hl:P.length+A.length+1+T.length≤1000000):
  Ctr Tryz.prog 99 [.vec 0,i64 P.length,i64 (P.length+A.length:Nat),i64 (P.length+A.length+1:Nat), .fn g []] [.vec 3 (pks (P++(A++([y]++T))))] (fun r o=>o=[.vec 3 (pks (P++(srt k (A++[y])++T)))]∧r= .tup []):=by
 refine fI 1 Tryz.func99 ?_
 have hlen:(pks (P++(A++([y]++T)))).length =P.length+A.length+1+T.length:=by rw [pks_len];simp only [List.length_append,List.length_singleton];omega
 have gy:(pks (P++(A++([y]++T))))[P.length+A.length]? =some (pkw y):=by
  have:=pks_mid (Q:=P++A) (B:=[y]) (T:=T) (c:=0) (i:=P.length+A.length) (by simp) (by simp)
  rw [List.append_assoc]at this;exact this
 (repeat' (conv=>whnf);first|refine aC ?_ ?_<;>intro<;>try omega|refine z1_T12 ?_|fail);all_goals try (conv=>whnf)
 refine LoopOb.mk (Y:=Nat×Nat) (st:=fun z=>⟨[(14,i64 (P.length+z.1:Nat)),(15,i64 (P.length+z.2:Nat)),(0, .vec 0),(2,i64 (P.length+A.length:Nat)),(4, .fn g [])],[.vec 3 (pks (P++(A++([y]++T))))]⟩)
  (inv:=fun z=>(z.1≤z.2∧z.2≤A.length)∧(∀q,q<z.1→q<A.length→k (A.getD q pk0)≤k y)∧∀q,z.2≤q→q<A.length→k y<k (A.getD q pk0)) (fun z=>z.2-z.1) (0,A.length) [0] ⟨⟨by dsimp only;omega,Nat.le_refl _⟩,fun q hq=>by dsimp only at hq;omega,fun q h1 h2=>by dsimp only at h1;omega⟩ (by dsimp only;(exact aL)) ?_
 rintro⟨i,j⟩ ⟨⟨hij,hjB⟩,hlo,hhi⟩
 dsimp only at hij hjB hlo hhi⊢
 (repeat' (conv=>whnf);first|refine z1_T12 ?_|fail);all_goals try (conv=>whnf)
 refine CondOb.mk (fun hlt=>?_) (fun hlt=>?_)
 ·obtain⟨c,hcd⟩:∃c,(i+j)/2=c:=⟨_,rfl⟩
  have gb:=pks_mid (Q:=P) (B:=A) (T:=[y]++T) (c:=c) (i:=P.length+c) (by omega) rfl
  have hcc:=hc y (A.getD c pk0)
  have hup:¬k y<k (A.getD c pk0)→∀q,q<c+1→q<A.length→k (A.getD q pk0)≤k y:=fun h q h1 h2=>by
   have:=srt_getD (d:=pk0) sA (i:=q) (j:=c) (by omega) (by omega)
   omega
  have hdn:k y<k (A.getD c pk0)→∀q,c≤q→q<A.length→k y<k (A.getD q pk0):=fun h q h1 h2=>by
   have:=srt_getD (d:=pk0) sA (i:=c) (j:=q) h1 h2
   omega
  generalize A.getD c pk0=x at*
  (repeat' (conv=>whnf);first|refine⟨_,gb,?_⟩|refine⟨_,gy,?_⟩|refine⟨P.length+c,by omega,by omega,?_⟩|refine⟨P.length+A.length,by omega,by omega,?_⟩|refine aC ?_ ?_<;>intro<;>try omega|refine z1_T12 ?_|refine And.intro (rfl:(1:Int)=1) ?_|(refine aM [] hcc rfl rfl ?_;rintro _ _ ⟨c',hck,rfl,rfl⟩)|fail);all_goals try (conv=>whnf)
  ·exact⟨(c+1,j),[0],⟨⟨by dsimp only;omega,hjB⟩,hup fun h=>absurd (hck.2 h) (by assumption),hhi⟩,by dsimp only;omega,by dsimp only;(exact aL)⟩
  ·exact⟨(i,c),[0],⟨⟨by dsimp only;omega,by dsimp only;omega⟩,hlo,hdn (hck.1 (Classical.not_not.1 (by assumption)))⟩,by dsimp only;omega,by dsimp only;(exact aL)⟩
 ·have e:j=i:=by omega
  subst e
  have hfin:=ins_back (k:=k) (y:=y) sA pk0 hlo hhi
  rw [show P++(srt k (A++[y])++T)=P++(A.take j++(y::(A.drop j++T)))by rw [←hfin];simp only [List.append_assoc,List.cons_append]]
  (repeat' (conv=>whnf);first|refine aC ?_ ?_<;>intro<;>try omega|refine z1_T12 ?_|fail);all_goals try (conv=>whnf)
  refine LoopOb.mk (Y:=Nat) (st:=fun v=>⟨[(17,i64 (P.length+v:Nat)),(14,i64 (P.length+j:Nat)),(0, .vec 0)],[.vec 3 (pks (P++(A.take v++(y::(A.drop v++T)))))]⟩)
   (inv:=fun v=>j≤v∧v≤A.length) (fun v=>v-j) A.length [0] (by omega) (by rw [List.take_length,List.drop_length];(exact aL)) ?_
  intro v hv
  have hl3:(pks (P++(A.take v++(y::(A.drop v++T))))).length =P.length+A.length+1+T.length:=by rw [pks_len];simp only [List.length_append,List.length_cons,List.length_take,List.length_drop];omega
  (repeat' (conv=>whnf);first|refine z1_T12 ?_|fail);all_goals try (conv=>whnf)
  refine CondOb.mk (fun hlt=>?_) (fun hlt=>?_)
  ·obtain⟨u,rfl⟩:∃u,v=u+1:=⟨v-1,by omega⟩
   obtain⟨e1,e2⟩:=mov1 (P:=P) (B:=A) (T:=T) (x:=y) (t:=u) (by omega)
   obtain⟨g1,g2,g3⟩:=two_get (A:=P++A.take u) (B:=[]) (C:=A.drop (u+1)++T) (x:=A.getD u pk0) (y:=y) (i:=P.length+u) (j:=P.length+u+1) (by rw [List.length_append,List.length_take];omega) (by rw [List.length_append,List.length_take];simp;omega)
   rw [←e1,List.set_comm _ _ (by omega)]at g3
   rw [e2]at hl3⊢
   generalize A.getD u pk0=x at*
   (repeat' (conv=>whnf);first|refine⟨_,(List.getElem?_set_ne (by omega)).trans g1,?_⟩|refine⟨_,g1,?_⟩|refine⟨_,g2,?_⟩|refine⟨P.length+u,by omega,by(first|omega|(simp only [List.length_set];omega)),?_⟩|refine⟨P.length+u+1,by omega,by(first|omega|(simp only [List.length_set];omega)),?_⟩|refine aC ?_ ?_<;>intro<;>try omega|refine z1_T12 ?_|fail);all_goals try (conv=>whnf)
   exact⟨u,[0],by omega,by omega,by rw [←g3];(exact aL)⟩
  ·have e:v=j:=by omega
   subst e
   (repeat' (conv=>whnf);first|refine aC ?_ ?_<;>intro<;>try omega|refine z1_T12 ?_|fail);all_goals try (conv=>whnf)
   exact⟨rfl,rfl⟩
end
end Go.Proofs.YtjhmjiimpmmnhaaGreat
