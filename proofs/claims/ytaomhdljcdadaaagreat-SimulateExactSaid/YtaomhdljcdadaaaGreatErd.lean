/- Lemmas that the proofs of this seat use (Erd Cn3). Conditions: those that stand in each theorem. -/
import Derived.Test.YtaomhdljcdadaaaGreatCn5
import Derived.Test.YtaomhdljcdadaaaGreatMw
import Derived.Test.YtaomhdljcdadaaaGreatCn2
import Derived.Test.YtaomhdljcdadaaaGreatS9
set_option linter.unusedVariables false
set_option linter.unusedSimpArgs false
section
namespace Go.Proofs.YtaomhdljcdadaaaGreat
open Go.Sx Go.Pk Go.Mc Go.Np
set_option maxRecDepth 4000
set_option maxHeartbeats 2000000
theorem aP_Erd {A B K:Prop} (k:K) (a:A:=by(simp only [zA,zT,zD,zC,zN,ints_len,zR,Go.Cv.vals_len];omega)) (b:B:=by(simp only [zA,zT,zD,zC,zN,ints_len,zR,Go.Cv.vals_len];omega)):(A∧B)∧K:=⟨⟨a,b⟩,k⟩
theorem z1_Erd {G H:Prop} (k:H) (h:H→G:=by first|exact fun r=>aS r|exact fun r=>aG r|exact fun r=>aD r|exact fun r=>aH r|exact fun r=>aP_Erd r|exact fun r=>aI r|exact fun r=>aJ r):G:=h k
theorem RBadE (p:List Pk) (h60:p.length≤60) (hv:vld p≠0) (c N T:Int):Ctr Tryz.prog 162 [i64 c,i64 N, .psl 3 (pks p),i64 T] [] (fun r o=>o=[]∧r=i64 (vld p)):=by
 refine fn_intro (E:=env 0) tys_ok rfl rfl rfl Tryz.func162 (by kernel_rfl) rfl (by kernel_rfl) ?_
 have cV:=rVal13_ok p (by omega)
 generalize vld p=e at*
 (repeat' (conv=>whnf);first|(refine aC (fun _=>?_) (fun _=>?_)<;>try (exfalso;omega))|refine z1_Erd ?_|(refine aK [] (cV) ?_)|fail);all_goals try (conv=>whnf)
 all_goals exact⟨rfl,rfl⟩
theorem DRunfE (p:List Pk) (h60:p.length≤60) (hv:vld p≠0) (c N T:Int):Ctr Tryz.prog 127 [i64 c,i64 N, .psl 3 (pks p),i64 T] [] (fun r o=>o=[]∧r=rE (vld p)):=by
 refine fn_intro (E:=env 0) tys_ok rfl rfl rfl Tryz.func127 (by kernel_rfl) rfl (by kernel_rfl) ?_
 have cV:=RBadE p h60 hv c N T
 generalize vld p=e at*
 (repeat' (conv=>whnf);first|(refine aC (fun _=>?_) (fun _=>?_)<;>try (exfalso;omega))|refine z1_Erd ?_|(refine aK [] (cV) ?_)|fail);all_goals try (conv=>whnf)
 all_goals exact⟨rfl,rfl⟩
theorem DRunpE (p:List Pk) (h60:p.length≤60) (hv:vld p≠0) (c N T:Int):Ctr Tryz.prog 123 [i64 c,i64 N, .psl 3 (pks p),i64 T] [] (fun r o=>o=[]∧r=rE (vld p)):=by
 refine fn_intro (E:=env 0) tys_ok rfl rfl rfl Tryz.func123 (by kernel_rfl) rfl (by kernel_rfl) ?_
 have cV:=RBadE p h60 hv c N T
 generalize vld p=e at*
 (repeat' (conv=>whnf);first|(refine aC (fun _=>?_) (fun _=>?_)<;>try (exfalso;omega))|refine z1_Erd ?_|(refine aK [] (cV) ?_)|fail);all_goals try (conv=>whnf)
 all_goals exact⟨rfl,rfl⟩
theorem DRunrE (p:List Pk) (h60:p.length≤60) (hv:vld p≠0) (c:Int) (wl:List Int) (T:Int):Ctr Tryz.prog 124 [i64 c, .psl 1 (ints wl), .psl 3 (pks p),i64 T] [] (fun r o=>o=[]∧r=rE (vld p)):=by
 refine fn_intro (E:=env 0) tys_ok rfl rfl rfl Tryz.func124 (by kernel_rfl) rfl (by kernel_rfl) ?_
 have cV:=RBadE p h60 hv c (ints wl).length T
 generalize vld p=e at*
 (repeat' (conv=>whnf);first|(refine aC (fun _=>?_) (fun _=>?_)<;>try (exfalso;omega))|refine z1_Erd ?_|(refine aK [] (cV) ?_)|fail);all_goals try (conv=>whnf)
 all_goals exact⟨rfl,rfl⟩
theorem DRundE (p:List Pk) (h60:p.length≤60) (hv:vld p≠0) (c:Int) (wl:List Int) (T:Int):Ctr Tryz.prog 125 [i64 c, .psl 1 (ints wl), .psl 3 (pks p),i64 T] [] (fun r o=>o=[]∧r=rE (vld p)):=by
 refine fn_intro (E:=env 0) tys_ok rfl rfl rfl Tryz.func125 (by kernel_rfl) rfl (by kernel_rfl) ?_
 have cV:=RBadE p h60 hv c (ints wl).length T
 generalize vld p=e at*
 (repeat' (conv=>whnf);first|(refine aC (fun _=>?_) (fun _=>?_)<;>try (exfalso;omega))|refine z1_Erd ?_|(refine aK [] (cV) ?_)|fail);all_goals try (conv=>whnf)
 all_goals exact⟨rfl,rfl⟩
theorem z2_Erd {G H:Prop} (k:H) (h:H→G:=by first|exact fun r=>aS r|exact fun r=>aG r|exact fun r=>aD r|exact fun r=>aH r|exact fun r=>aP_Erd r|exact fun r=>aI r|exact fun r=>aJ r|exact fun r=>aW (.qs [0,1,2,3,4,5,6,7,8,9,10,11,12] (.l 13 [7] (.qs [14,15] .nil) .no)) r):G:=h k
theorem DRunsE (p:List Pk) (h60:p.length≤60) (hv:vld p≠0) (c N:Int) (tb:List Int) (T:Int):Ctr Tryz.prog 126 [i64 c,i64 N, .psl 1 (ints tb), .psl 3 (pks p),i64 T] [] (fun r o=>o=[]∧r=rE (vld p)):=by
 refine fn_intro (E:=env 0) tys_ok rfl rfl rfl Tryz.func126 (by kernel_rfl) rfl (by kernel_rfl) ?_
 have cV:=RBadE p h60 hv c N T
 generalize vld p=e at*
 (repeat' (conv=>whnf);first|(refine aC (fun _=>?_) (fun _=>?_)<;>try (exfalso;omega))|refine z2_Erd ?_|(refine aK [] (cV) ?_)|fail);all_goals try (conv=>whnf)
 all_goals exact⟨rfl,rfl⟩
theorem DRunE (l:Ln) (hl:LL l) (he:lnErr l=0) (p:List Pk) (h60:p.length≤60) (hv:vld p≠0) (T:Int):Ctr Tryz.prog 98 [lv l, .psl 3 (pks p),i64 T] [] (fun r o=>o=[]∧r=rE (vld p)):=by
 refine fn_intro (E:=env 0) tys_ok rfl rfl rfl Tryz.func98 (by kernel_rfl) rfl (by kernel_rfl) ?_
 have c1:=DRunfE p h60 hv l.c l.n T
 have c2:=DRunpE p h60 hv l.c l.n T
 have c3:=DRunrE p h60 hv l.c l.w T
 have c4:=DRundE p h60 hv l.c l.w T
 have c5:=DRunsE p h60 hv l.c l.n l.s T
 generalize vld p=e at*
 (repeat' (conv=>whnf);first|(refine aC (fun _=>?_) (fun _=>?_)<;>try (exfalso;omega))|refine z1_Erd ?_|fail);all_goals try (conv=>whnf)
 refine aK [] (rlCheck_ok l hl) ?_
 rw [he]
 (repeat' (conv=>whnf);first|(refine aC (fun _=>?_) (fun _=>?_)<;>try (exfalso;omega))|refine z1_Erd ?_|(refine aK [] (c1) ?_)|(refine aK [] (c2) ?_)|(refine aK [] (c3) ?_)|(refine aK [] (c4) ?_)|(refine aK [] (c5) ?_)|fail);all_goals try (conv=>whnf)
 all_goals exact⟨rfl,rfl⟩
end Go.Proofs.YtaomhdljcdadaaaGreat
end
section
namespace Go.Proofs.YtaomhdljcdadaaaGreat
open Go.Sx Go.Pk Go.Mc Go.Np
set_option maxRecDepth 4000
set_option maxHeartbeats 2000000
theorem aP_Cn3 {A B K:Prop} (k:K) (a:A:=by(simp only [zA,zT,zD,zC,zN,ints_len,zR,Go.Cv.vals_len];omega)) (b:B:=by(simp only [zA,zT,zD,zC,zN,ints_len,zR,Go.Cv.vals_len];omega)):(A∧B)∧K:=⟨⟨a,b⟩,k⟩
theorem z1_Cn3 {G H:Prop} (k:H) (h:H→G:=by first|exact fun r=>aS r|exact fun r=>aG r|exact fun r=>aD r|exact fun r=>aH r|exact fun r=>aP_Cn3 r|exact fun r=>aI r|exact fun r=>aJ r|exact fun r=>aW (.qs [0,1,2,3,4,5,6,7,8,9,10,11,12,13,14,15] .nil) r):G:=h k
theorem RSndE_ok (l:Ln) (hl:LL l) (he:lnErr l=0) (p:List Pk) (N:Int) (h60:p.length≤60) (hs:∀i,i<p.length→1≤(p.getD i pk0).s ∧(p.getD i pk0).s ≤1500) (ht:∀i,i<p.length→0≤(p.getD i pk0).t ∧(p.getD i pk0).t ≤4294967296) (hv:vld p≠0):Ctr Tryz.prog 61 [lv l, .psl 3 (pks p),i64 N] [] (fun r o=>o=[]∧r=rE (vld p)):=by
 refine fn_intro (E:=env 0) tys_ok rfl rfl rfl Tryz.func61 (by kernel_rfl) rfl (by kernel_rfl) ?_
 have hpl:=pks_len p
 have hA:=fun m (hm:m≤p.length)=>laN_bd (p:=p) (B:=4294967296) (by omega) (m:=m) fun i hi=>(ht i (by omega)).2
 have hB:=fun m (hm:m≤p.length)=>byN_bd (p:=p) (B:=1500) (m:=m) fun i hi=>(hs i (by omega)).2
 (repeat' (conv=>whnf);first|(refine aC (fun _=>?_) (fun _=>?_)<;>try (exfalso;omega))|refine z1_Cn3 ?_|fail);all_goals try (conv=>whnf)
 refine LoopOb.mk (Y:=Nat) (st:=fun i=>⟨[(10,i64 i),(8,i64 (laN p i)),(9,i64 (byN p i:Nat)),(6, .ptr 1 0),(3, .ptr 0 0),(1, .psl 3 (pks p)),(2,i64 N)],[.box [i64 l.k,i64 l.c,i64 l.n, .psl 1 (ints l.w), .psl 1 (ints l.s)], .box [.nil, .nil]]⟩)
  (inv:=fun i=>i≤p.length) (fun i=>p.length-i) 0 [0,1] (by omega) (by(exact aL)) ?_
 rintro i hi
 have h1:=hA i hi
 have h2:=hB i hi
 by_cases hil:i<p.length
 ·have hg:=pks_get hil
  have h3:=ht i hil
  have h4:=hs i hil
  have e1:laN p (i+1)=max (laN p i) (p.getD i pk0).t :=rfl
  have e2:((byN p (i+1):Nat):Int)=(byN p i:Nat)+(p.getD i pk0).s :=by
   have:byN p (i+1)=byN p i+(p.getD i pk0).s.toNat :=rfl
   omega
  generalize p.getD i pk0=x at*
  generalize laN p i=la at*
  generalize byN p i=by' at*
  (repeat' (conv=>whnf);first|refine⟨i,_,rfl,hg,?_⟩|(refine aC (fun _=>?_) (fun _=>?_)<;>try (exfalso;omega))|refine z1_Cn3 ?_|fail);all_goals try (conv=>whnf)
  exact⟨i+1,[0,1],by omega,by omega,by rw [e1,e2];(exact aL)⟩
 ·obtain rfl:i=p.length:=by omega
  have cD:=fun T=>DRunE l hl he p h60 hv T
  generalize vld p=ve at*
  (repeat' (conv=>whnf);first|(refine aC (fun _=>?_) (fun _=>?_)<;>try (exfalso;omega))|refine z1_Cn3 ?_|(refine aM [] (cD _) rfl rfl ?_;rintro _ _ ⟨rfl,rfl⟩)|fail);all_goals try (conv=>whnf)
  all_goals exact⟨rfl,rfl⟩
end Go.Proofs.YtaomhdljcdadaaaGreat
end
