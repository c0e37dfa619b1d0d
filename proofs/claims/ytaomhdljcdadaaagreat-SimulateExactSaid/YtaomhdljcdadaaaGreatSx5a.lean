/- Lemmas that the proofs of this seat use (Sx5a). Conditions: those that stand in each theorem. -/
import Derived.Test.YtaomhdljcdadaaaGreatCn2
import Derived.Test.YtaomhdljcdadaaaGreatSo9
set_option linter.unusedVariables false
set_option linter.unusedSimpArgs false
namespace Go.Proofs.YtaomhdljcdadaaaGreat
open Go.Sx Go.Pk Go.Mc Go.Np
set_option maxRecDepth 4000
set_option maxHeartbeats 2000000
theorem aP_Sx5a {A B K:Prop} (k:K) (a:A:=by(simp only [zA,zT,zD,zC,zN,ints_len,zR,trs_len];omega)) (b:B:=by(simp only [zA,zT,zD,zC,zN,ints_len,zR,trs_len];omega)):(A∧B)∧K:=⟨⟨a,b⟩,k⟩
theorem z1_Sx5a {G H:Prop} (k:H) (h:H→G:=by first|exact fun r=>aS r|exact fun r=>aG r|exact fun r=>aD r|exact fun r=>aH r|exact fun r=>aP_Sx5a r|exact fun r=>aI r|exact fun r=>aJ r):G:=h k
theorem wild_ok (ms:List (List Int)) (hl:ms.length≤9223372036854775807) (hr:∀i,(ms.getD i []).length ≤9223372036854775807):
  Ctr Tryz.prog 40 [.agg [.psl 1 (trs ms)]] [] (fun r o=>o=[]∧∃b:Bool,(b=false→VB ms)∧r= .bl b):=by
 refine fn_intro (E:=env 0) tys_ok rfl rfl rfl Tryz.func40 (by kernel_rfl) rfl (by kernel_rfl) ?_
 have htl:=trs_len ms
 (repeat' (conv=>whnf);first|(refine aC (fun _=>?_) (fun _=>?_)<;>try (exfalso;omega))|refine z1_Sx5a ?_|fail);all_goals try (conv=>whnf)
 refine LoopOb.mk (Y:=Nat) (st:=fun i=>⟨[(10,i64 i),(9,i64 (trs ms).length),(8, .psl 1 (trs ms)),(2, .bl false),(1, .ptr 0 0)],[.box [.psl 1 (trs ms)]]⟩)
  (inv:=fun i=>i≤ms.length∧∀j k,j<i→k<(ms.getD j []).length →-1073741824≤(ms.getD j []).getD k 0∧(ms.getD j []).getD k 0≤1073741824) (fun i=>ms.length-i) 0 [0] ⟨by omega,fun j k hj=>by omega⟩ (by(exact aL)) ?_
 rintro i ⟨hi,hv⟩
 by_cases hil:i<ms.length
 ·have hgt:=trs_get (ms:=ms) hil
  have hri:=hr i
  have hst:(∀k,k<(ms.getD i []).length →-1073741824≤(ms.getD i []).getD k 0∧(ms.getD i []).getD k 0≤1073741824)→∀j k,j<i+1→k<(ms.getD j []).length →-1073741824≤(ms.getD j []).getD k 0∧(ms.getD j []).getD k 0≤1073741824:=fun hq j k hj hk=>by
   rcases Nat.lt_succ_iff_lt_or_eq.1 hj with h|h
   ·exact hv j k h hk
   ·subst h;exact hq k hk
  clear hv
  generalize ms.getD i []=row at*
  have hrl:=ints_len row
  (repeat' (conv=>whnf);first|refine⟨i,_,rfl,hgt,?_⟩|(refine aC (fun _=>?_) (fun _=>?_)<;>try (exfalso;omega))|refine z1_Sx5a ?_|fail);all_goals try (conv=>whnf)
  refine LoopOb.mk (Y:=Nat) (st:=fun k=>⟨[(16,i64 k),(15,i64 (ints row).length),(14, .psl 1 (ints row)),(10,i64 i),(9,i64 (trs ms).length),(8, .psl 1 (trs ms)),(2, .bl false),(1, .ptr 0 0)],[.box [.psl 1 (trs ms)]]⟩)
   (inv:=fun k=>k≤row.length∧∀j,j<k→-1073741824≤row.getD j 0∧row.getD j 0≤1073741824) (fun k=>row.length-k) 0 [0] ⟨by omega,fun j hj=>by omega⟩ (by(exact aL)) ?_
  rintro k ⟨hk,hq⟩
  by_cases hkl:k<row.length
  ·have hg:=ints_get hkl
   have hsk: -1073741824≤row.getD k 0∧row.getD k 0≤1073741824→∀j,j<k+1→-1073741824≤row.getD j 0∧row.getD j 0≤1073741824:=fun h2 j hj=>by
    rcases Nat.lt_succ_iff_lt_or_eq.1 hj with h|h
    ·exact hq j h
    ·subst h;exact h2
   clear hq hst
   generalize row.getD k 0=x at*
   (repeat' (conv=>whnf);first|refine⟨k,_,rfl,hg,?_⟩|(refine aC (fun _=>?_) (fun _=>?_)<;>try (exfalso;omega))|refine z1_Sx5a ?_|fail);all_goals try (conv=>whnf)
   all_goals first
    |exact⟨k+1,[0],⟨by omega,hsk ⟨by omega,by omega⟩⟩,by omega,by(exact aL)⟩
    |exact⟨rfl,true,fun e=>(by cases e),rfl⟩
    |trace_state
  ·obtain rfl:k=row.length:=by omega
   have:=hst hq
   (repeat' (conv=>whnf);first|(refine aC (fun _=>?_) (fun _=>?_)<;>try (exfalso;omega))|refine z1_Sx5a ?_|fail);all_goals try (conv=>whnf)
   exact⟨i+1,[0],⟨by omega,this⟩,by omega,by(exact aL)⟩
 ·obtain rfl:i=ms.length:=by omega
  (repeat' (conv=>whnf);first|(refine aC (fun _=>?_) (fun _=>?_)<;>try (exfalso;omega))|refine z1_Sx5a ?_|fail);all_goals try (conv=>whnf)
  refine⟨rfl,false,fun _ i j=>?_,rfl⟩
  by_cases hj:j<(ms.getD i []).length
  ·have hi:i<ms.length:=by
    refine Classical.byContradiction fun c=>?_
    rw [List.getD_eq_getElem?_getD (l:=ms),List.getElem?_eq_none (by omega)]at hj;simp at hj
   have:=hv i j hi hj
   rw [show(ms.getD i []).getD j 0=dR ms i j from getD_dflt hj]at this;omega
  ·unfold dR
   rw [List.getD_eq_getElem?_getD,List.getElem?_eq_none (by omega)];decide
theorem z2_Sx5a {G H:Prop} (k:H) (h:H→G:=by first|exact fun r=>aS r|exact fun r=>aG r|exact fun r=>aD r|exact fun r=>aH r|exact fun r=>aP_Sx5a r|exact fun r=>aI r|exact fun r=>aJ r|exact fun r=>aW (.qs [0,1,2,3,4,5,6,7,8] .nil) r):G:=h k
theorem rSameP_ok (p:List Pk) (hp:p.length≤1000000):Ctr Tryz.prog 51 [.psl 3 (pks p), .psl 3 (pks p)] [] (fun r o=>o=[]∧r= .bl true):=by
 refine fn_intro (E:=env 0) tys_ok rfl rfl rfl Tryz.func51 (by kernel_rfl) rfl (by kernel_rfl) ?_
 have hpl:=pks_len p
 (repeat' (conv=>whnf);first|(refine aC (fun _=>?_) (fun _=>?_)<;>try (exfalso;omega))|refine z2_Sx5a ?_|fail);all_goals try (conv=>whnf)
 refine LoopOb.mk (Y:=Nat) (st:=fun i=>⟨[(5,i64 i),(0, .psl 3 (pks p)),(1, .psl 3 (pks p))],[]⟩)
  (inv:=fun i=>i≤p.length) (fun i=>p.length-i) 0 [] (by omega) (by(exact aL)) ?_
 rintro i hi
 by_cases hil:i<p.length
 ·have hg:=pks_get hil
  generalize p.getD i pk0=x at*
  (repeat' (conv=>whnf);first|refine⟨i,_,rfl,hg,?_⟩|(refine aC (fun _=>?_) (fun _=>?_)<;>try (exfalso;omega))|refine z2_Sx5a ?_|fail);all_goals try (conv=>whnf)
  all_goals first
   |exact⟨i+1,[],by omega,by omega,by(exact aL)⟩
   |(rename_i hc;refine absurd ?_ hc;simp [conj])
   |trace_state
 ·obtain rfl:i=p.length:=by omega
  (repeat' (conv=>whnf);first|(refine aC (fun _=>?_) (fun _=>?_)<;>try (exfalso;omega))|refine z2_Sx5a ?_|fail);all_goals try (conv=>whnf)
  exact⟨rfl,rfl⟩
end Go.Proofs.YtaomhdljcdadaaaGreat
