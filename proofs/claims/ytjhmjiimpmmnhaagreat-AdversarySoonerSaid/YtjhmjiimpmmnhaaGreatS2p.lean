/- Lemmas of this seat. Conditions: as stated. -/
import Derived.Test.YtjhmjiimpmmnhaaGreatS0
set_option linter.unusedVariables false
set_option linter.unusedSimpArgs false
set_option maxHeartbeats 2000000
set_option maxRecDepth 4000
namespace Go.Proofs.YtjhmjiimpmmnhaaGreat
open Go.Sx Go.Pk Go.Mc
theorem pri_none {f:Int→Option Nat}:∀{n:Nat},pri f n=none↔∀c:Nat,c<n→f c=none
 |0=>by simp [pri]
 |n+1=>by
  simp only [pri]
  cases h:pri f n with
  |some i=>
   obtain⟨c,h1,h2⟩:=pri_some h
   simp only [reduceCtorEq,false_iff]
   intro h3
   rw [h3 c (by omega)]at h2;cases h2
  |none=>
   have ih:=pri_none.1 h
   simp only
   constructor
   ·intro h2 c hc
    by_cases e:c=n
    ·subst e;exact h2
    ·exact ih c (by omega)
   ·intro h2;exact h2 n (by omega)
theorem pri_le {f:Int→Option Nat} {c:Nat} {i:Nat} (h:∀d:Nat,d<c→f d=none) (hi:f c=some i):∀{n:Nat},c<n→pri f n=some i
 |0,h2=>by omega
 |n+1,h2=>by
  simp only [pri]
  by_cases e:c=n
  ·subst e
   rw [pri_none.2 h];exact hi
  ·rw [pri_le h hi (n:=n) (by omega)]
theorem ChoP_ok (p:List Pk) (hp:PL p) (N:Nat) (hN:N≤6) (t left:Nat) (bg:Nat→Bool) (s:(prioC N).σ) (bef:Nat) (hB:Bf p bg bef):
  Ctr Tryz.prog 253 [.ptr 0 0, .pptr [i64 N]] [stB t left p bef, .vec 1 (bls p.length bg)] (fun r o=>∃b2,Bf p bg b2∧o=[stB t left p b2, .vec 1 (bls p.length bg)]∧r=i64 (oI ((prioC N).ch p t left (wt p t bg) s).2)):=by
 refine fI 2 Tryz.func253 ?_
 have hd:((prioC N).ch p t left (wt p t bg) s).2 =pri (fc p (wt p t bg)) N:=rfl
 rw [hd]
 (repeat' (conv=>whnf);first|refine aC ?_ ?_<;>intro<;>try omega|refine z2_T1 ?_|fail);all_goals try (conv=>whnf)
 refine LoopOb.mk (Y:=Nat×Nat) (st:=fun y=>⟨[(7,i64 y.2),(6,i64 N),(0, .ptr 0 0),(1, .pptr [i64 N])],[stB t left p y.1, .vec 1 (bls p.length bg)]⟩)
  (inv:=fun y=>y.2≤N∧Bf p bg y.1∧∀d:Nat,d<y.2→fc p (wt p t bg) d=none) (fun y=>N-y.2) (bef,0) [0,1] ⟨by omega,hB,fun d hd=>by omega⟩ (by(exact aL)) ?_
 rintro⟨b,c⟩ ⟨hc,hb,hn⟩
 dsimp only at hc hb hn⊢
 (repeat' (conv=>whnf);first|refine z2_T1 ?_|fail);all_goals try (conv=>whnf)
 refine CondOb.mk (fun hlt=>?_) (fun hlt=>?_)
 ·(repeat' (conv=>whnf);first|refine aC ?_ ?_<;>intro<;>try omega|refine z2_T1 ?_|fail);all_goals try (conv=>whnf)
  refine aM [0,1] (Next_ok p hp t left c bg b hb) rfl rfl ?_
  rintro _ _ ⟨b2,hB2,rfl,rfl⟩
  cases hf:fc p (wt p t bg) c with
  |some i=>
   have hon:oI (some i)=i:=rfl
   have e:=pri_le hn hf (n:=N) (by omega)
   rw [hon]
   (repeat' (conv=>whnf);first|refine aC ?_ ?_<;>intro<;>try omega|refine z2_T1 ?_|fail);all_goals try (conv=>whnf)
   exact⟨b2,hB2,rfl,by rw [e];rfl⟩
  |none=>
   have hon:oI none= -1:=rfl
   rw [hon]
   (repeat' (conv=>whnf);first|refine aC ?_ ?_<;>intro<;>try omega|refine z2_T1 ?_|fail);all_goals try (conv=>whnf)
   exact⟨(b2,c+1),[0,1],⟨by omega,hB2,fun d hd=>by
    by_cases e:d=c
    ·subst e;exact hf
    ·exact hn d (by omega)⟩,by dsimp only;omega,by(exact aL)⟩
 ·(repeat' (conv=>whnf);first|refine aC ?_ ?_<;>intro<;>try omega|refine z2_T1 ?_|fail);all_goals try (conv=>whnf)
  obtain rfl:N=c:=by omega
  have e:=pri_none.2 hn
  exact⟨b,hb,rfl,by rw [e];rfl⟩
end Go.Proofs.YtjhmjiimpmmnhaaGreat
