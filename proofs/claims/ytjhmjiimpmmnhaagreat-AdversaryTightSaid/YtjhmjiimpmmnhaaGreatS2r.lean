/- Lemmas of this seat. Conditions: as stated. -/
import Derived.Test.YtjhmjiimpmmnhaaGreatS1
set_option linter.unusedVariables false
set_option linter.unusedSimpArgs false
set_option maxHeartbeats 2000000
set_option maxRecDepth 4000
namespace Go.Proofs.YtjhmjiimpmmnhaaGreat
open Go.Sx Go.Pk Go.Mc
structure WgP (wl:List Int) (N:Nat) (M:Int):Prop where
 l:wl.length=N
 w:∀c,c<N→1≤wl.getD c 0∧wl.getD c 0≤M
theorem rob_st {f:Int→Option Nat} {wl:Nat→Int} {N:Nat} {M:Int} (hN:1≤N) (hw:∀c,c<N→1≤wl c∧wl c≤M):∀{k:Nat} {s:Nat×Int},s.1<N→0≤s.2∧s.2≤M→(rob f wl N k s).1.1 <N∧0≤(rob f wl N k s).1.2 ∧(rob f wl N k s).1.2 ≤M
 |0,s,h1,h2=>⟨h1,h2⟩
 |k+1,s,h1,h2=>by
  have h3:(s.1+1)%N<N:=Nat.mod_lt _ hN
  have h4:=hw _ h3
  have ih:=rob_st (f:=f) hN hw (k:=k) (s:=((s.1+1)%N,wl ((s.1+1)%N))) h3 ⟨by simp only;omega,h4.2⟩
  simp only [rob]
  split
  ·split
   ·exact⟨h1,by simp only;omega,by simp only;omega⟩
   ·exact ih
  ·exact ih
theorem rob_rch {wl:List Int} {N:Nat} {M:Int} (hN:1≤N) (hw:WgP wl N M) {p:List Pk} {s:(robinC wl).σ} (h:Rch (robinC wl) p s):(s:Nat×Int).1 <N∧0≤(s:Nat×Int).2 ∧(s:Nat×Int).2 ≤M:=by
 induction h with
 |z=>exact⟨hN,by have:=hw.w 0 (by omega);exact⟨by show(0:Int)≤wl.getD 0 0;omega,this.2⟩⟩
 |@s t l w s _ ih=>
  show(Ch.ch (robinC wl) p t l w s).1.1 <N∧_
  simp only [robinC]
  split
  ·exact ih
  ·split
   ·rw [hw.l]
    exact rob_st hN (fun c hc=>hw.w c hc) ih.1 ih.2
   ·exact ih
theorem ChoR_ok (p:List Pk) (hp:PL p) (wl:List Int) (N:Nat) (hN:1≤N) (hN2:N≤6) (hw:WgP wl N 6000) (hcl:∀i,i<p.length→0≤cl p i∧cl p i<N) (t left:Nat) (bg:Nat→Bool) (s:(robinC wl).σ) (hs:Rch (robinC wl) p s) (bef:Nat) (hB:Bf p bg bef):
  Ctr Tryz.prog 263 [.ptr 0 0, .ptr 2 0, .ptr 3 0, .pptr [.psl 1 (ints wl)]] [stB t left p bef, .vec 1 (bls p.length bg), .box [i64 (s:Nat×Int).1], .box [i64 (s:Nat×Int).2]]
   (fun r o=>∃b2,Bf p bg b2∧o=[stB t left p b2, .vec 1 (bls p.length bg), .box [i64 (((robinC wl).ch p t left (wt p t bg) s).1 :Nat×Int).1], .box [i64 (((robinC wl).ch p t left (wt p t bg) s).1 :Nat×Int).2]]∧r=i64 (oI ((robinC wl).ch p t left (wt p t bg) s).2)):=by
 refine fI 4 Tryz.func263 ?_
 obtain⟨s1,s2,s3⟩:=rob_rch hN hw hs
 clear hs
 have hil:=ints_len wl
 have hwl:=hw.l
 have hno:fst (wt p t bg) p.length=none→(robinC wl).ch p t left (wt p t bg) s=(s,none):=fun h=>if_pos h
 have hyes:fst (wt p t bg) p.length≠none→(rob (fc p (wt p t bg)) (fun c=>wl.getD c 0) N (N+2) s).2 ≠none∧(robinC wl).ch p t left (wt p t bg) s=rob (fc p (wt p t bg)) (fun c=>wl.getD c 0) N (N+2) s:=fun h=>by
  have h1:(rob (fc p (wt p t bg)) (fun c=>wl.getD c 0) N (N+2) s).2 ≠none:=by
   cases hf:fst (wt p t bg) p.length with
   |none=>exact absurd hf h
   |some i=>
    obtain⟨f1,f2,f3⟩:=fst_some.1 hf
    obtain⟨c1,c2⟩:=hcl i f1
    refine rob_ends hN (fun c hc=>(hw.w c hc).1) (cs:=(cl p i).toNat) (by omega) (fun hn=>?_) s1
    rw [Int.toNat_of_nonneg c1]at hn
    have:=fc_none.1 hn i f1 rfl
    rw [f2]at this;cases this
  refine⟨h1,?_⟩
  refine(if_neg h).trans ?_
  rw [hw.l]
  cases hr:(rob (fc p (wt p t bg)) (fun c=>wl.getD c 0) N (N+2) s).2 with
  |none=>exact absurd hr h1
  |some i=>exact Prod.ext rfl hr.symm
 generalize (robinC wl).ch p t left (wt p t bg) s=W at*
 obtain⟨w1,w2⟩:=W
 obtain⟨c0,l0⟩:=s
 dsimp only at*
 (repeat' (conv=>whnf);first|refine aC ?_ ?_<;>intro<;>try omega|refine z1_R1 ?_|fail);all_goals try (conv=>whnf)
 refine aM [0,1] (First_ok p hp t left bg bef hB) rfl rfl ?_
 rintro _ _ ⟨b2,hB2,rfl,rfl⟩
 cases hf:fst (wt p t bg) p.length with
 |none=>
  have hon:oI none= -1:=rfl
  have e:=hno hf
  cases e
  rw [hon]
  (repeat' (conv=>whnf);first|refine aC ?_ ?_<;>intro<;>try omega|refine z1_R1 ?_|fail);all_goals try (conv=>whnf)
  exact⟨b2,hB2,rfl,rfl⟩
 |some i0=>
  obtain⟨hne,e⟩:=hyes (by rw [hf];simp)
  have ho2:oI (some i0)=i0:=rfl
  rw [ho2]
  clear hyes hno hf
  (repeat' (conv=>whnf);first|refine aC ?_ ?_<;>intro<;>try omega|refine z1_R1 ?_|fail);all_goals try (conv=>whnf)
  refine LoopOb.mk (Y:=Nat×Nat×Nat×Int) (st:=fun y=>⟨[(0, .ptr 0 0),(1, .ptr 2 0),(2, .ptr 3 0),(3, .pptr [.psl 1 (ints wl)])],[stB t left p y.1, .vec 1 (bls p.length bg), .box [i64 y.2.2.1], .box [i64 y.2.2.2]]⟩)
   (inv:=fun y=>Bf p bg y.1∧y.2.2.1<N∧0≤y.2.2.2∧y.2.2.2≤6000∧rob (fc p (wt p t bg)) (fun c=>wl.getD c 0) N y.2.1 y.2.2=rob (fc p (wt p t bg)) (fun c=>wl.getD c 0) N (N+2) (c0,l0)) (fun y=>y.2.1) (b2,N+2,c0,l0) [0,1,2,3] ⟨hB2,s1,s2,s3,rfl⟩ (by(exact aL)) ?_
  clear hB hB2 s1 s2 s3
  clear bef b2
  rintro⟨b,k,c,l⟩ ⟨hb,h1,h2,h3,hr⟩
  dsimp only at hb h1 h2 h3 hr⊢
  obtain⟨k,rfl⟩:∃k',k=k'+1:=by
   cases k with
   |zero=>rw [←hr]at hne;exact absurd rfl hne
   |succ k=>exact⟨k,rfl⟩
  rw [rob]at hr
  have hn1:(c+1)%N<N:=Nat.mod_lt _ hN
  have hn2:=hw.w _ hn1
  have hgv:=ints_get (l:=wl) (j:=(c+1)%N) (by omega)
  have etm:((c:Int)+1).tmod (ints wl).length =((c+1)%N:Nat):=by rw [hil,hwl,Int.tmod_eq_emod_of_nonneg (by omega)];rfl
  (repeat' (conv=>whnf);first|refine aC ?_ ?_<;>intro<;>try omega|refine z1_R1 ?_|fail);all_goals try (conv=>whnf)
  refine aM [0,1] (Next_ok p hp t left c bg b hb) rfl rfl ?_
  rintro _ _ ⟨b2,hB2,rfl,rfl⟩
  dsimp only at hr
  cases hf:fc p (wt p t bg) c with
  |some i=>
   have ho3:oI (some i)=i:=rfl
   rw [hf]at hr
   dsimp only at hr
   rw [ho3]
   by_cases hl:0<l
   ·rw [if_pos hl]at hr
    (repeat' (conv=>whnf);first|refine aC ?_ ?_<;>intro<;>try omega|refine z1_R1 ?_|fail);all_goals try (conv=>whnf)
    rw [←hr]at e
    cases e
    exact⟨b2,hB2,rfl,rfl⟩
   ·rw [if_neg hl]at hr
    (repeat' (conv=>whnf);first|refine aC ?_ ?_<;>intro<;>try omega|refine z1_R1 ?_|refine And.intro (by omega) ?_|refine⟨(c+1)%N,_,etm,hgv,?_⟩|fail);all_goals try (conv=>whnf)
    exact⟨(b2,k,(c+1)%N,wl.getD ((c+1)%N) 0),[0,1,2,3],⟨hB2,hn1,by dsimp only;omega,by dsimp only;omega,hr⟩,by dsimp only;omega,by rw [etm];(exact aL)⟩
  |none=>
   have ho3:oI none= -1:=rfl
   rw [hf]at hr
   dsimp only at hr
   rw [ho3]
   (repeat' (conv=>whnf);first|refine aC ?_ ?_<;>intro<;>try omega|refine z1_R1 ?_|refine And.intro (by omega) ?_|refine⟨(c+1)%N,_,etm,hgv,?_⟩|fail);all_goals try (conv=>whnf)
   exact⟨(b2,k,(c+1)%N,wl.getD ((c+1)%N) 0),[0,1,2,3],⟨hB2,hn1,by dsimp only;omega,by dsimp only;omega,hr⟩,by dsimp only;omega,by rw [etm];(exact aL)⟩
end Go.Proofs.YtjhmjiimpmmnhaaGreat
