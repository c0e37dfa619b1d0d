/- Lemmas of this seat. Conditions: as stated. -/
import Derived.Test.YtaomhdljcdadaaaGreatB13
import Derived.Test.YtaomhdljcdadaaaGreatNd
import Derived.Test.YtaomhdljcdadaaaGreatSxC
set_option linter.unusedVariables false
set_option linter.unusedSimpArgs false
set_option maxHeartbeats 2000000
set_option maxRecDepth 4000
namespace Go.Proofs.YtaomhdljcdadaaaGreat
open Go.Sx Go.Np Go.Cv Go.Tp
structure DelP (n:Nt) (m:Nat) (d:List (List Int)):Prop where
 l:d.length=m
 r:∀i,i<m→((d.getD i []).length :Int)=(n.ln.getD i ln0).n
 b:∀i,i<m→∀x∈d.getD i [],-1≤x∧x≤14
theorem DelP.snoc {n:Nt} {m:Nat} {d:List (List Int)} (h:DelP n m d) {r:List Int} (h1:(r.length:Int)=(n.ln.getD m ln0).n) (h2:∀x∈r,-1≤x∧x≤14):DelP n (m+1) (d++[r]):=by
 have hl:=h.l
 have gl:∀i,i<m→(d++[r]).getD i []=d.getD i []:=fun i hi=>by simp [List.getD_eq_getElem?_getD,List.getElem?_append_left (show i<d.length by omega)]
 have gr:(d++[r]).getD m []=r:=by subst hl;simp [List.getD_eq_getElem?_getD]
 refine⟨by rw [List.length_append,hl];rfl,fun i hi=>?_,fun i hi=>?_⟩
 ·by_cases e:i=m
  ·subst e;rw [gr];exact h1
  ·rw [gl i (by omega)];exact h.r i (by omega)
 ·by_cases e:i=m
  ·subst e;rw [gr];exact h2
  ·rw [gl i (by omega)];exact h.b i (by omega)
theorem dls_app (d:List (List Int)) (r:List Int):dls (d++[r])=dls d++[[.psl 1 (ints r)]]:=by simp [dls]
theorem Delays_ok (L:List Int) (p:Nat) (hL:L.length≤2000) (hp:p≤2000) (n:Nt) (hn:n.ln.length≤8) (hc:∀i,i<n.ln.length→0≤(n.ln.getD i ln0).n ∧(n.ln.getD i ln0).n ≤6):
  Ctr Tryz.prog 24 [.ptr 0 0,ntv n] [src L p] (fun r o=>∃x:List (List Int)×Nat,(DelP n n.ln.length x.1∧x.2≤2000)∧o=[src L x.2]∧r= .psl 1 (dls x.1)):=by
 refine fI 1 Tryz.func24 ?_
 have hll:=lnl n.ln
 (repeat' (conv=>whnf);first|refine aC ?_ ?_<;>intro<;>try omega|refine z2_T1 ?_|fail);all_goals try (conv=>whnf)
 refine LoopOb.mk (Y:=List (List Int)×Nat) (st:=fun y=>⟨[(6,i64 y.1.length),(5, .vec 2),(3, .ptr 1 0),(0, .ptr 0 0)],[src L y.2, .box [.psl 1 (strs n.nm), .psl 5 (lns n.ln), .psl 8 (fls n.fl)], .vec 1 (dls y.1)]⟩)
  (inv:=fun y=>(DelP n y.1.length y.1∧y.1.length≤n.ln.length)∧y.2≤2000) (fun y=>n.ln.length-y.1.length) ([],p) [0,1,3] ⟨⟨⟨rfl,fun i hi=>absurd hi (Nat.not_lt_zero i),fun i hi=>absurd hi (Nat.not_lt_zero i)⟩,by simp⟩,hp⟩ (by(exact aL)) ?_
 rintro⟨d,p1⟩ ⟨⟨hD,hd⟩,hp1⟩
 dsimp only at hD hd hp1⊢
 have hdl:=dls_len d
 (repeat' (conv=>whnf);first|refine z2_T1 ?_|fail);all_goals try (conv=>whnf)
 refine CondOb.mk (fun hlt=>?_) (fun hlt=>?_)
 ·have hil:d.length<n.ln.length:=by omega
  have hg:=lng hil
  have hcn:=hc d.length hil
  have hsn:=fun(r:List Int)=>hD.snoc (r:=r)
  generalize n.ln.getD d.length ln0=ll at*
  (repeat' (conv=>whnf);first|refine aC ?_ ?_<;>intro<;>try omega|refine z2_T1 ?_|fail);all_goals try (conv=>whnf)
  refine LoopOb.mk (Y:=List Int×Nat) (st:=fun y=>⟨[(8,i64 y.1.length),(7, .vec 3),(6,i64 d.length),(5, .vec 2),(3, .ptr 1 0),(0, .ptr 0 0)],[src L y.2, .box [.psl 1 (strs n.nm), .psl 5 (lns n.ln), .psl 8 (fls n.fl)], .vec 1 (dls d), .vec 1 (ints y.1)]⟩)
   (inv:=fun y=>((y.1.length:Int)≤ll.n∧∀x∈y.1,-1≤x∧x≤14)∧y.2≤2000) (fun y=>ll.n.toNat-y.1.length) ([],p1) [0,1,2,3] ⟨⟨by simp only [List.length_nil];omega,by simp⟩,hp1⟩ (by(exact aL)) ?_
  clear hp1 p1
  rintro⟨r,p1⟩ ⟨⟨hr,hb⟩,hp1⟩
  dsimp only at hr hb hp1⊢
  have hrl:=ints_len r
  (repeat' (conv=>whnf);first|refine⟨d.length,_,rfl,hg,?_⟩|refine z2_T1 ?_|fail);all_goals try (conv=>whnf)
  refine CondOb.mk (fun hlt2=>?_) (fun hlt2=>?_)
  ·(repeat' (conv=>whnf);first|refine LitOb.ful ?_|refine aC ?_ ?_<;>intro<;>try omega|refine z2_T1 ?_|(refine CallOb.mk [0] (Pick_ok L p1 hL hp1 [0,1,2,3,4,6,9,14,-1] (by simp) (by simp)) rfl ⟨Imp.refl _,Imp.fulp rfl,trivial⟩ rfl rfl ?_;rintro _ _ ⟨⟨x,p2⟩,⟨hx,hp2⟩,rfl,rfl⟩;dsimp only at hx hp2⊢)|fail);all_goals try (conv=>whnf)
   have hx2: -1≤x∧x≤14:=by
    simp only [List.mem_cons,List.not_mem_nil,or_false]at hx;omega
   exact⟨(r++[x],p2),[0,1,2,4],⟨⟨by simp only [List.length_append,List.length_singleton];omega,fun y hy=>by
    rcases List.mem_append.1 hy with hy|hy
    ·exact hb y hy
    ·rw [List.mem_singleton.1 hy];exact hx2⟩,hp2⟩,by simp only [List.length_append,List.length_singleton];omega,by dsimp only;rw [List.length_append,List.length_singleton,ints_app];(exact aL)⟩
  ·have hrn:(r.length:Int)=ll.n:=by omega
   have hs:=hsn r hrn hb
   (repeat' (conv=>whnf);first|refine aC ?_ ?_<;>intro<;>try omega|refine z1_T1 ?_|fail);all_goals try (conv=>whnf)
   refine .mk [.fz 3] ?_
   (repeat' (conv=>whnf);first|refine aC ?_ ?_<;>intro<;>try omega|refine z2_T1 ?_|fail);all_goals try (conv=>whnf)
   have el:(d++[r]).length =d.length+1:=by rw [List.length_append];rfl
   exact⟨(d++[r],p1),[0,1,5],⟨⟨by dsimp only;rw [el];exact hs,by dsimp only;omega⟩,hp1⟩,by dsimp only;omega,by dsimp only;rw [el,dls_app];(exact aL)⟩
 ·(repeat' (conv=>whnf);first|refine aC ?_ ?_<;>intro<;>try omega|refine z1_T1 ?_|fail);all_goals try (conv=>whnf)
  refine .mk [.fz 2] ?_
  (repeat' (conv=>whnf);first|refine aC ?_ ?_<;>intro<;>try omega|refine z2_T1 ?_|fail);all_goals try (conv=>whnf)
  have e:d.length=n.ln.length:=by omega
  exact⟨(d,p1),⟨by rw [←e];exact hD,hp1⟩,rfl,rfl⟩
end Go.Proofs.YtaomhdljcdadaaaGreat
