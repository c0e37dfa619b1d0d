/- Lemmas of this seat. Conditions: as stated. -/
import Derived.Test.YtbcjojomkibgeaaGreatQe
import Derived.Test.YtbcjojomkibgeaaGreatQ3
import Derived.Test.YtbcjojomkibgeaaGreatPl
set_option linter.unusedVariables false
set_option linter.unusedSimpArgs false
set_option maxHeartbeats 2000000
set_option maxRecDepth 4000
namespace Go.Proofs.YtbcjojomkibgeaaGreat
section
open Go.Sx Go.Fq Go.Dt
def Fits (p:Pr):Prop:=∀ov f bs tu sl co,BuA p p.r.length ov f bs tu sl co→¬ov∧SvF p f bs tu sl co
structure SlP (p:Pr) (s:Int×List F×F×List F×List F) (e:Int):Prop where
 no:¬VP p→e=2∧s=(0,[],(0,0),[],[])
 yes:VP p→(e=0∧SolV p s)∨(e=3∧¬Fits p)
theorem z1_Qf {G H:Prop} (k:H) (h:H→G:=by first|exact fun r=>aS r|exact fun r=>aG r|exact fun r=>aD r|exact fun r=>aH r|exact fun r=>aP_Q5 r|exact fun r=>aI r|exact fun r=>aJ r):G:=h k
theorem Solve_ok' (p:Pr) (hp:PL p):
  Ctr Tryz.prog 46 [prv p] [] (fun r o=>∃x:(Int×List F×F×List F×List F)×Int,SlP p x.1 x.2∧o=[]∧r= .tup [solw x.1,i64 x.2]):=by
 refine Ctr.impO ?_
 refine fI 0 Tryz.func46 ?_
 have cV:=Valid_ok p hp
 (repeat' (conv=>whnf);first|refine aC ?_ ?_<;>intro<;>try omega|refine z1_Qf ?_|(refine aK [] cV ?_)|fail);all_goals try (conv=>whnf)
 ·exact⟨((0,[],(0,0),[],[]),2),⟨fun _=>⟨rfl,rfl⟩,fun h=>absurd h (by assumption)⟩,OI.refl _,Imp.tup ⟨Imp.agg ⟨Imp.refl _,Imp.nil _,Imp.refl _,Imp.refl _,Imp.nil _,Imp.nil _,trivial⟩,Imp.refl _,trivial⟩⟩
 have hv:VP p:=Classical.not_not.1 (by assumption)
 have cB:=build_ok p hv
 refine aM [] cB rfl rfl ?_
 rintro _ _ ⟨⟨ov,f,bs,tu,sl,co⟩,hB,rfl,rfl⟩
 dsimp only at hB⊢
 have cS:=solve_ok' p hv f bs tu sl co ov hB
 (repeat' (conv=>whnf);first|refine aC ?_ ?_<;>intro<;>try omega|refine z1_Qf ?_|fail);all_goals try (conv=>whnf)
 refine aM [2,3,4,5,6] cS rfl rfl ?_
 rintro _ _ ⟨⟨q,s,bs'⟩,hR,rfl,rfl⟩
 dsimp only at hR⊢
 (repeat' (conv=>whnf);first|refine aC ?_ ?_<;>intro<;>try omega|refine z1_Qf ?_|fail);all_goals try (conv=>whnf)
 ·have hq:q:=by assumption
  exact⟨((0,[],(0,0),[],[]),3),⟨fun h=>absurd hv h,fun _=> .inr ⟨rfl,fun Fi=>(Fi _ _ _ _ _ _ hB).1 (hR.fit (Fi _ _ _ _ _ _ hB).2 hq)⟩⟩,OI.refl _,Imp.tup ⟨Imp.agg ⟨Imp.refl _,Imp.nil _,Imp.refl _,Imp.refl _,Imp.nil _,Imp.nil _,trivial⟩,Imp.refl _,trivial⟩⟩
 ·have hq:¬q:=by assumption
  exact⟨(s,0),⟨fun h=>absurd hv h,fun _=>(.inl ⟨rfl,(hR.ex hq).2⟩)⟩,OI.refl _,Imp.refl _⟩
end
end Go.Proofs.YtbcjojomkibgeaaGreat
section
namespace Go.Dt
def cn:Nat→(Nat→Bool)→Nat
 |0,_=>0
 |m+1,S=>cn m S+(S m).toNat
theorem cn_skip {S:Nat→Bool}:∀{m j:Nat},j<m+1→cn (m+1) S=cn m (fun i=>S (skip j i))+(S j).toNat
 |m,j,h=>by
  by_cases e:j=m
  ·subst e
   have:∀n,n≤j→cn n (fun i=>S (skip j i))=cn n S:=by
    intro n
    induction n with
    |zero=>intro _;rfl
    |succ n ih=>intro hn;simp only [cn];rw [ih (by omega),show skip j n=n by unfold skip;rw [if_pos (by omega)]]
   rw [this j (Nat.le_refl _)];rfl
  ·obtain⟨n,rfl⟩:∃n,m=n+1:=⟨m-1,by omega⟩
   have ih:=cn_skip (S:=S) (m:=n) (j:=j) (by omega)
   have e2:skip j n=n+1:=by unfold skip;rw [if_neg (by omega)]
   rw [show cn (n+1+1) S=cn (n+1) S+(S (n+1)).toNat from rfl,ih]
   show _=cn n (fun i=>S (skip j i))+(S (skip j n)).toNat +_
   rw [e2];omega
theorem sI_cn {f:Nat→Int} {S:Nat→Bool} {B:Nat}:∀{n:Nat},(∀i<n,(f i).natAbs ≤(S i).toNat *B)→(sI n f).natAbs ≤cn n S*B
 |0,_=>by simp [sI]
 |n+1,h=>by
  have h1:=sI_cn fun i (hi:i<n)=>h i (by omega)
  have h2:=h n (by omega)
  simp only [sI,cn]
  rw [Nat.add_mul];omega
def fac:Nat→Nat
 |0=>1
 |k+1=>(k+1)*fac k
theorem fac_step {k:Nat}:fac k≤fac (k+1):=Nat.le_mul_of_pos_left _ (by omega)
theorem fac_mono {a b:Nat} (h:a≤b):fac a≤fac b:=by
 induction b with
 |zero=>rw [show a=0 by omega];exact Nat.le_refl _
 |succ b ih=>
  by_cases e:a=b+1
  ·rw [e];exact Nat.le_refl _
  ·exact Nat.le_trans (ih (by omega)) fac_step
theorem sk_lt {m j i:Nat} (hi:i<m):skip j i<m+1:=by unfold skip;split<;>omega
theorem sk_ne {j i:Nat}:skip j i≠j:=by unfold skip;split<;>omega
def bk (j u:Nat):Nat:=if u<j then u else u-1
theorem sk_bk {j u:Nat} (h:u≠j):skip j (bk j u)=u:=by
 unfold skip bk
 by_cases c:u<j
 ·rw [if_pos c,if_pos c]
 ·rw [if_neg c,if_neg (by omega)];omega
theorem bk_lt {m j u:Nat} (h:u≠j) (hu:u<m+1) (hj:j<m+1):bk j u<m:=by unfold bk;split<;>omega
theorem bk_sk {j i:Nat}:bk j (skip j i)=i:=by
 unfold bk skip
 by_cases c:i<j
 ·rw [if_pos c,if_pos c]
 ·rw [if_neg c,if_neg (by omega)];omega
def Un (m:Nat) (x:V):Prop:=∃r,∀l<m,l≠r→x l=0
theorem Un.low {m:Nat} {x:V} (h:Un (m+1) x):Un m x:=by
 obtain⟨r,h⟩:=h
 exact⟨r,fun l hl=>h l (by omega)⟩
theorem D_zero' {m i:Nat} {v:Nat→V} (hi:i<m) (h:∀l<m,v i l=0):D m v=0:=by
 rw [←D_zero (v:=v) hi]
 refine D_congr fun a ha l hl=>?_
 unfold sv;split
 ·rename_i e;subst e;exact h l hl
 ·rfl
theorem Un.minor {m u j:Nat} {v:Nat→V} (h:Un (m+1) (v u)) (hn:v u m≠0) (hu:u<m+1) (hj:j<m+1) (e:u≠j):D m (fun i=>v (skip j i))=0:=by
 obtain⟨r,h⟩:=h
 have hr:m=r:=Classical.byContradiction fun c=>hn (h m (by omega) c)
 refine D_zero' (i:=bk j u) (bk_lt e hu hj) fun l hl=>?_
 rw [sk_bk e]
 exact h l (by omega) (by omega)
theorem D_case {m:Nat} {v:Nat→V} {S:Nat→Bool} {B:Nat} (hu:∀i<m+1,S i=false→Un (m+1) (v i))
  (h1:∀j<m+1,S j=false→v j m≠0→(v j m*D m (fun i=>v (skip j i))).natAbs ≤fac (cn (m+1) S)*B)
  (h2:∀j<m+1,S j=true→(v j m*D m (fun i=>v (skip j i))).natAbs ≤fac (cn (m+1) S-1)*B):(D (m+1) v).natAbs ≤fac (cn (m+1) S)*B:=by
 have ab:∀j,(sgn j*v j m*D m (fun i=>v (skip j i))).natAbs =(v j m*D m (fun i=>v (skip j i))).natAbs :=fun j=>by
  rw [Int.mul_assoc,Int.natAbs_mul,sgn_abs,Nat.one_mul]
 simp only [D]
 by_cases hA:∃u,u<m+1∧S u=false∧v u m≠0
 ·obtain⟨u,hu1,hu2,hu3⟩:=hA
  rw [sI_one hu1 fun j hj hn=>by rw [(hu u hu1 hu2).minor hu3 hu1 hj (Ne.symm hn),Int.mul_zero],ab]
  exact h1 u hu1 hu2 hu3
 ·refine Nat.le_trans (sI_cn (S:=S) (B:=fac (cn (m+1) S-1)*B) fun j hj=>?_) ?_
  ·cases hS:S j
   ·have:v j m=0:=Classical.byContradiction fun c=>hA ⟨j,hj,hS,c⟩
    simp [this]
   ·rw [ab,Bool.toNat_true,Nat.one_mul];exact h2 j hj hS
  ·generalize cn (m+1) S=k
   cases k with
   |zero=>simp
   |succ k=>rw [←Nat.mul_assoc];exact Nat.le_refl _
theorem D_k:∀{m:Nat} {v:Nat→V} {S:Nat→Bool},(∀i<m,∀l<m,(v i l).natAbs ≤1)→(∀i<m,S i=false→Un m (v i))→(D m v).natAbs ≤fac (cn m S)
 |0,_,_,_,_=>by simp [D,cn,fac]
 |m+1,v,S,h,hu=>by
  have ih:∀j<m+1,(v j m*D m (fun i=>v (skip j i))).natAbs ≤fac (cn m (fun i=>S (skip j i))):=fun j hj=>by
   rw [Int.natAbs_mul]
   have h1:=h j hj m (by omega)
   have h2:=D_k (m:=m) (v:=fun i=>v (skip j i)) (S:=fun i=>S (skip j i)) (fun i hi l hl=>h _ (sk_lt hi) l (by omega)) (fun i hi hs=>(hu _ (sk_lt hi) hs).low)
   have:=Nat.mul_le_mul h1 h2
   omega
  have:=D_case (B:=1) hu (fun j hj hs _=>by
   have:=cn_skip (S:=S) hj
   rw [hs]at this
   simp only [Bool.toNat_false,Nat.add_zero]at this
   rw [this,Nat.mul_one];exact ih j hj) (fun j hj hs=>by
   have:=cn_skip (S:=S) hj
   rw [hs]at this
   simp only [Bool.toNat_true]at this
   rw [this,Nat.add_sub_cancel,Nat.mul_one];exact ih j hj)
  omega
theorem D_k1 {W:Nat}:∀{m e:Nat} {v:Nat→V} {S:Nat→Bool},e<m→S e=true→(∀i<m,i≠e→∀l<m,(v i l).natAbs ≤1)→(∀l<m,(v e l).natAbs ≤W)→(∀i<m,S i=false→Un m (v i))→(D m v).natAbs ≤fac (cn m S)*W
 |0,_,_,_,he,_,_,_,_=>by omega
 |m+1,e,v,S,he,hS,h,hW,hu=>by
  have ih:∀j<m+1,(v j m*D m (fun i=>v (skip j i))).natAbs ≤fac (cn m (fun i=>S (skip j i)))*W:=fun j hj=>by
   rw [Int.natAbs_mul]
   by_cases ej:j=e
   ·subst ej
    have h1:=hW m (by omega)
    have h2:=D_k (m:=m) (v:=fun i=>v (skip j i)) (S:=fun i=>S (skip j i)) (fun i hi l hl=>h _ (sk_lt hi) sk_ne l (by omega)) (fun i hi hs=>(hu _ (sk_lt hi) hs).low)
    rw [Nat.mul_comm];exact Nat.mul_le_mul h2 h1
   ·have h1:=h j hj ej m (by omega)
    have hne:e≠j:=fun c=>ej c.symm
    have h2:=D_k1 (m:=m) (e:=bk j e) (v:=fun i=>v (skip j i)) (S:=fun i=>S (skip j i)) (bk_lt hne he hj) (by show S (skip j (bk j e))=true;rw [sk_bk hne];exact hS)
     (fun i hi hn l hl=>h _ (sk_lt hi) (fun c=>hn (by rw [←c,bk_sk])) l (by omega)) (fun l hl=>by show(v (skip j (bk j e)) l).natAbs ≤W;rw [sk_bk hne];exact hW l (by omega)) (fun i hi hs=>(hu _ (sk_lt hi) hs).low)
    have:=Nat.mul_le_mul h1 h2
    omega
  exact D_case (B:=W) hu (fun j hj hs _=>by
   have:=cn_skip (S:=S) hj
   rw [hs]at this
   simp only [Bool.toNat_false,Nat.add_zero]at this
   rw [this];exact ih j hj) (fun j hj hs=>by
   have:=cn_skip (S:=S) hj
   rw [hs]at this
   simp only [Bool.toNat_true]at this
   rw [this,Nat.add_sub_cancel];exact ih j hj)
theorem cn_inj {b:Nat→Nat} {m:Nat} (h:∀i<m,∀j<m,b i=b j→i=j):∀{n:Nat},cn m (fun i=>decide (b i<n))≤n
 |0=>by
  have:∀k,cn k (fun i=>decide (b i<0))=0:=by
   intro k
   induction k with
   |zero=>rfl
   |succ k ih=>simp only [cn,ih];simp
  rw [this];exact Nat.le_refl _
 |n+1=>by
  have ih:=cn_inj h (n:=n)
  have key:∀k≤m,cn k (fun i=>decide (b i<n+1))≤cn k (fun i=>decide (b i<n))+(if∃i,i<k∧b i=n then 1 else 0):=by
   intro k
   induction k with
   |zero=>intro _;simp [cn]
   |succ k ihk=>
    intro hk
    have i1:=ihk (by omega)
    simp only [cn]
    by_cases e:b k=n
    ·have n1:¬∃i,i<k∧b i=n:=fun⟨i,hi,hb⟩=>by have:=h i (by omega) k (by omega) (hb.trans e.symm);omega
     rw [if_neg n1]at i1
     have p1:∃i,i<k+1∧b i=n:=⟨k,by omega,e⟩
     rw [if_pos p1]
     have e1:decide (b k<n+1)=true:=by simp;omega
     have e2:decide (b k<n)=false:=by simp;omega
     rw [e1,e2];simp;omega
    ·have e1:decide (b k<n+1)=decide (b k<n):=by
      by_cases c:b k<n
      ·simp [c];omega
      ·simp [c];omega
     rw [e1]
     have hq:(∃i,i<k∧b i=n)→∃i,i<k+1∧b i=n:=fun⟨i,hi,hb⟩=>⟨i,by omega,hb⟩
     by_cases q:∃i,i<k∧b i=n
     ·rw [if_pos q]at i1;rw [if_pos (hq q)];omega
     ·rw [if_neg q]at i1;omega
  have:=key m (Nat.le_refl _)
  split at this<;>omega
theorem cn_up {S:Nat→Bool} {i:Nat}:∀{m:Nat},cn m (fun a=>if a=i then true else S a)≤cn m S+if i<m then 1 else 0
 |0=>Nat.zero_le _
 |m+1=>by
  have ih:=cn_up (S:=S) (i:=i) (m:=m)
  simp only [cn]
  by_cases e:m=i
  ·subst e
   rw [if_neg (by omega)]at ih
   rw [if_pos rfl,if_pos (by omega),Bool.toNat_true]
   omega
  ·rw [if_neg e]
   split at ih<;>split<;>omega
theorem Inv.bdk {m w e n W:Nat} {T0:M} {u:Nat→Nat} {co:Nat→Int} {f:M} {bs:Nat→Nat} {d:Int} (I:Inv m w T0 u co f bs d) (he:e<w) (hb:∀i<m,bs i≠e) (h:∀l<m,∀k<w,k≠e→(T0 l k).natAbs ≤1) (hu:∀k<w,n≤k→k≠e→Un m (fun l=>T0 l k)) (h1:∀l<m,(T0 l e).natAbs ≤W):
  d.natAbs≤fac n∧(∀i<m,∀k<w,k≠e→(f i k).natAbs ≤fac (n+1))∧∀i<m,(f i e).natAbs ≤fac (n+1)*W:=by
 obtain⟨s,hs,hd,hf⟩:=I.entry
 have hs1:=sq1 hs
 have hc:cn m (fun i=>decide (bs i<n))≤n:=cn_inj (b:=bs) (m:=m) (fun i hi j hj e=>I.inj hi hj e) (n:=n)
 have hU:∀a<m,decide (bs a<n)=false→Un m (fun l=>T0 l (bs a)):=fun a ha hS=>hu _ (I.bsw a ha) (by simpa using hS) (hb a ha)
 have hc':∀i<m,cn m (fun a=>if a=i then true else decide (bs a<n))≤n+1:=fun i hi=>by
  have:=cn_up (S:=fun a=>decide (bs a<n)) (i:=i) (m:=m)
  rw [if_pos hi]at this;omega
 refine⟨?_,fun i hi k hk hn=>?_,fun i hi=>?_⟩
 ·rw [hd,Int.natAbs_mul,hs1,Nat.one_mul]
  exact Nat.le_trans (D_k (S:=fun a=>decide (bs a<n)) (fun a ha l hl=>h l hl _ (I.bsw a ha) (hb a ha)) hU) (fac_mono hc)
 ·rw [hf i hi k hk,Int.natAbs_mul,hs1,Nat.one_mul]
  refine Nat.le_trans (D_k (S:=fun a=>if a=i then true else decide (bs a<n)) (fun a ha l hl=>?_) (fun a ha hS=>?_)) (fac_mono (hc' i hi))
  ·unfold sv;split
   ·exact h l hl k hk hn
   ·exact h l hl _ (I.bsw a ha) (hb a ha)
  ·by_cases e:a=i
   ·simp [e]at hS
   ·rw [sv_ne e];rw [if_neg e]at hS;exact hU a ha hS
 ·rw [hf i hi e he,Int.natAbs_mul,hs1,Nat.one_mul]
  refine Nat.le_trans (D_k1 (e:=i) (S:=fun a=>if a=i then true else decide (bs a<n)) hi (by simp) (fun a ha hn l hl=>?_) (fun l hl=>?_) (fun a ha hS=>?_)) (Nat.mul_le_mul_right _ (fac_mono (hc' i hi)))
  ·rw [sv_ne hn];exact h l hl _ (I.bsw a ha) (hb a ha)
  ·rw [sv_same];exact h1 l hl
  ·by_cases e:a=i
   ·simp [e]at hS
   ·rw [sv_ne e];rw [if_neg e]at hS;exact hU a ha hS
end Go.Dt
end
