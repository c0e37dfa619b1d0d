/- Lemmas of this seat. Conditions: as stated. -/
import Derived.Test.YtjhmjiimpmmnhaaGreatS1
set_option linter.unusedVariables false
set_option linter.unusedSimpArgs false
set_option maxHeartbeats 2000000
set_option maxRecDepth 4000
namespace Go.Proofs.YtjhmjiimpmmnhaaGreat
open Go.Sx Go.Pk Go.Mc
theorem ahd_step {tb:List Int} {c:Int} {t:Nat} {n k:Nat} (h:∀j,j<n→tb.getD ((t+j)%tb.length) 0=c) (hn:tb.getD ((t+n)%tb.length) 0≠c):n<k→ahd tb c t k=some n:=by
 have h0:∀m,m≤n→ahd tb c t m=none:=by
  intro m
  induction m with
  |zero=>intro _;rfl
  |succ m ih=>intro hm;rw [ahd,ih (by omega)];simp only;rw [if_neg (by rw [h m (by omega)];simp)]
 induction k with
 |zero=>intro hk;omega
 |succ k ih=>
  intro hk
  by_cases e:n=k
  ·subst e;rw [ahd,h0 n (by omega)];simp only;rw [if_pos hn]
  ·rw [ahd,ih (by omega)]
theorem ahd_none {tb:List Int} {c:Int} {t:Nat}:∀{n:Nat},(∀j,j<n→tb.getD ((t+j)%tb.length) 0=c)→ahd tb c t n=none
 |0,_=>rfl
 |n+1,h=>by rw [ahd,ahd_none fun j hj=>h j (by omega)];simp only;rw [if_neg (by rw [h n (by omega)];simp)]
def ahV:Option Nat→SV
 |none=> .tup [i64 0, .bl false]
 |some n=> .tup [i64 n, .bl true]
theorem MAhead_ok (tb:List Int) (c:Int) (t:Nat) (hc:0≤c) (ht:t≤2000) (h0:tb≠[]) (hl:tb.length≤1000):
  Ctr Tryz.prog 277 [.psl 1 (ints tb),i64 c,i64 t] [] (fun r o=>o=[]∧r=ahV (ahd tb c t tb.length)):=by
 refine fI 0 Tryz.func277 ?_
 have hil:=ints_len tb
 have hlp:0<tb.length:=List.length_pos_iff.2 h0
 (repeat' (conv=>whnf);first|refine aC ?_ ?_<;>intro<;>try omega|refine z1_R1 ?_|fail);all_goals try (conv=>whnf)
 refine LoopOb.mk (Y:=Nat) (st:=fun n=>⟨[(11,i64 n),(10,i64 (ints tb).length),(0, .psl 1 (ints tb)),(1,i64 c),(2,i64 t)],[]⟩)
  (inv:=fun n=>n≤tb.length∧∀j,j<n→tb.getD ((t+j)%tb.length) 0=c) (fun n=>tb.length-n) 0 [] ⟨by omega,fun d hd=>by omega⟩ (by(exact aL)) ?_
 rintro n ⟨hn,hj⟩
 have hst:tb.getD ((t+n)%tb.length) 0=c→∀j,j<n+1→tb.getD ((t+j)%tb.length) 0=c:=fun h j hj2=>by
  by_cases e:j=n
  ·subst e;exact h
  ·exact hj j (by omega)
 have hml:(t+n)%tb.length<tb.length:=Nat.mod_lt _ hlp
 have hgv:=ints_get hml
 (repeat' (conv=>whnf);first|refine z1_R1 ?_|fail);all_goals try (conv=>whnf)
 refine CondOb.mk (fun hlt=>?_) (fun hlt=>?_)
 ·(repeat' (conv=>whnf);first|refine aC ?_ ?_<;>intro<;>try omega|refine z1_R1 ?_|refine And.intro (by omega) ?_|fail);all_goals try (conv=>whnf)
  all_goals first
   |exact⟨n+1,[],⟨by omega,hst (by rename_i h;rw [hil]at h;exact not_not.1 h)⟩,by omega,by(exact aL)⟩
   |exact⟨n+1,[],⟨by omega,hst (by rename_i h;rw [hil]at h;simpa using h)⟩,by omega,by(exact aL)⟩
   |exact⟨rfl,by rename_i h;rw [hil]at h;rw [ahd_step hj h (by omega)];rfl⟩
   |trace_state
 ·(repeat' (conv=>whnf);first|refine aC ?_ ?_<;>intro<;>try omega|refine z1_R1 ?_|fail);all_goals try (conv=>whnf)
  obtain rfl:n=tb.length:=by omega
  exact⟨rfl,by rw [ahd_none hj];rfl⟩
theorem ahd_lt {tb:List Int} {c:Int} {t:Nat}:∀{k n:Nat},ahd tb c t k=some n→n<k
 |0,n,h=>by cases h
 |k+1,n,h=>by
  simp only [ahd]at h
  split at h
  ·rename_i j hj
   have:=ahd_lt hj
   simp only [Option.some.injEq]at h
   omega
  ·split at h
   ·simp only [Option.some.injEq]at h;omega
   ·cases h
theorem z3_S2s {G H:Prop} (k:H) (h:H→G:=by first|exact fun r=>aS r|exact fun r=>aG r|exact fun r=>aD r|exact fun r=>aH r|exact fun r=>aP_R1 r|exact fun r=>aI r|exact fun r=>aJ r|exact fun r=>aW (.qs [0,1,2,3,4,5,6,7,8,9,10] .nil) r|exact fun r=>aW (.qs [0,1,2,3,4,5] (.l 6 [] (.qs [7,8,9,10,11] .nil) .no)) r|exact fun r=>aW (.qs [0,1,2,3,5,6,7,9,10,11,12] (.l 4 [11] (.l 8 [11] (.qs [13,14,15] .nil) .no) (.l 8 [11] (.qs [13] (.l 4 [11] (.qs [14,15] .nil) .no)) .no))) r):G:=h k
theorem z2_S2s {G H:Prop} (k:H) (h:H→G:=by first|exact fun r=>aS r|exact fun r=>aG r|exact fun r=>aD r|exact fun r=>aH r|exact fun r=>aP_R1 r|exact fun r=>aI r|exact fun r=>aJ r|exact fun r=>aW (.qs [0,1,2,3,4,5,6,7,8,9,10] .nil) r|exact fun r=>aW (.qs [0,1,2,3,4,5] (.l 6 [] (.qs [7,8,9,10,11] .nil) .no)) r):G:=h k
theorem ChoS_ok (p:List Pk) (hp:PL p) (cap:Nat) (tb:List Int) (h0:tb≠[]) (hl:tb.length≤1000) (hcap:cap≤4000) (t left:Nat) (ht:t≤2000) (hle:left≤4000) (bg:Nat→Bool) (s:(slotC cap tb).σ) (bef:Nat) (hB:Bf p bg bef):
  Ctr Tryz.prog 276 [.ptr 0 0, .pptr [.psl 1 (ints tb)], .pptr [i64 cap]] [stB t left p bef, .vec 1 (bls p.length bg)] (fun r o=>∃b2,Bf p bg b2∧o=[stB t left p b2, .vec 1 (bls p.length bg)]∧r=i64 (oI ((slotC cap tb).ch p t left (wt p t bg) s).2)):=by
 refine fI 2 Tryz.func276 ?_
 have hil:=ints_len tb
 have hlp:0<tb.length:=List.length_pos_iff.2 h0
 have hml:t%tb.length<tb.length:=Nat.mod_lt _ hlp
 have hgv:=ints_get hml
 have hno:tb.getD (t%tb.length) 0<0→((slotC cap tb).ch p t left (wt p t bg) s).2 =none:=fun h=>if_pos h
 have hyes:¬tb.getD (t%tb.length) 0<0→((slotC cap tb).ch p t left (wt p t bg) s).2 =match fc p (wt p t bg) (tb.getD (t%tb.length) 0)with
  |none=>none
  |some i=>match ahd tb (tb.getD (t%tb.length) 0) t tb.length with
   |none=>some i
   |some n=>if(sz p i:Int)>(left:Int)+((n:Int)-1)*cap then none else some i:=fun h=>if_neg h
 generalize ((slotC cap tb).ch p t left (wt p t bg) s).2 =w at*
 have hon:oI none= -1:=rfl
 rw [←hil]at hno hyes
 (repeat' (conv=>whnf);first|refine aC ?_ ?_<;>intro<;>try omega|refine z2_S2s ?_|refine And.intro (by omega) ?_|fail);all_goals try (conv=>whnf)
 ·exact⟨bef,hB,rfl,by rw [hno (by assumption)];rfl⟩
 rename_i hneg
 have hyes:=hyes hneg
 rw [hil]at hneg hyes⊢
 clear hno
 generalize tb.getD (t%tb.length) 0=c at*
 refine aM [0,1] (Next_ok p hp t left c bg bef hB) rfl rfl ?_
 rintro _ _ ⟨b2,hB2,rfl,rfl⟩
 cases hf:fc p (wt p t bg) c with
 |none=>
  rw [hon]
  rw [hf]at hyes
  (repeat' (conv=>whnf);first|refine aC ?_ ?_<;>intro<;>try omega|refine z2_S2s ?_|fail);all_goals try (conv=>whnf)
  exact⟨b2,hB2,rfl,by rw [hyes];rfl⟩
 |some i=>
  have hip:=(fc_some.1 hf).1
  have hzz:=hp.s i hip
  have hz2:(sz p i:Int)=(p.getD i pk0).s :=by unfold sz;omega
  have ho2:oI (some i)=i:=rfl
  rw [hf]at hyes
  simp only at hyes
  rw [ho2]
  cases ha:ahd tb c t tb.length with
  |none=>
   rw [ha]at hyes
   (repeat' (conv=>whnf);first|refine aC ?_ ?_<;>intro<;>try omega|refine z2_S2s ?_|fail);all_goals try (conv=>whnf)
   refine aK [] (MAhead_ok tb c t (by omega) ht h0 hl) ?_
   rw [ha]
   simp only [ahV]
   (repeat' (conv=>whnf);first|refine aC ?_ ?_<;>intro<;>try omega|refine z3_S2s ?_|refine And.intro ?_ ?_|fail);all_goals try (conv=>whnf)
   all_goals exact⟨b2,hB2,rfl,by rw [hyes];rfl⟩
  |some n=>
   have hnl:=ahd_lt ha
   rw [ha]at hyes
   simp only at hyes
   (repeat' (conv=>whnf);first|refine aC ?_ ?_<;>intro<;>try omega|refine z2_S2s ?_|fail);all_goals try (conv=>whnf)
   refine aK [] (MAhead_ok tb c t (by omega) ht h0 hl) ?_
   rw [ha]
   simp only [ahV]
   have hM: -4000≤((n:Int)-1)*cap∧((n:Int)-1)*cap≤4000000:=by
    constructor
    ·have h2:(0:Int)≤n*cap:=Int.mul_nonneg (by omega) (by omega)
     rw [Int.sub_mul];omega
    ·have h2:(n:Int)*cap≤1000*4000:=Int.mul_le_mul (by omega) (by omega) (by omega) (by omega)
     rw [Int.sub_mul];omega
   (repeat' (conv=>whnf);first|refine aC ?_ ?_<;>intro<;>try omega|refine z3_S2s ?_|refine ArOb.fits (by omega) ?_|(refine aK [0,1] (Size_ok p hp t left bg b2 i hip) ?_)|refine And.intro ?_ ?_|fail);all_goals try (conv=>whnf)
   all_goals first
    |exact⟨b2,hB2,rfl,by rw [hyes,if_pos (by omega)];rfl⟩
    |exact⟨b2,hB2,rfl,by rw [hyes,if_neg (by omega)];rfl⟩
    |trace_state
end Go.Proofs.YtjhmjiimpmmnhaaGreat
